/- Texts of this claim put together, in build order: each one's own remark stands ahead of it. -/
import Derived.Test.YtckbleiikldloaaDoorG14
import Derived.Test.YtckbleiikldloaaDoorG03
import Derived.Test.YtckbleiikldloaaDoorG02
import Derived.Test.YtckbleiikldloaaDoorG04
import Derived.Test.YtckbleiikldloaaDoorG05
/- What the reference's Put of IPv4 computes. No condition but sizes. -/
namespace Go.Proofs.YtckbleiikldloaaDoor
open Go.RowKit
set_option linter.unusedVariables false
set_option maxRecDepth 20000
set_option linter.unusedSimpArgs false

theorem two_ub (a b : Int) (h0 : 0 ≤ a) (h1 : a ≤ 255) (h2 : 0 ≤ b) (h3 : b ≤ 255) : toBe 2 (a * 256 + b).toNat = [ub a, ub b] := by
  rw [toBe2 _ (by omega)]
  have e1 : (a * 256 + b).toNat / 256 = a.toNat := by omega
  have e2 : (a * 256 + b).toNat % 256 = b.toNat := by omega
  rw [e1, e2]
  rfl
theorem hdA_eq (h : H4) (hf : h.fit) (hx : ¬ h.bad) (all : Nat) : hdA h all = [ub (64 + ((20 + h.opt.length : Nat) : Int) / 4), ub h.tos] ++ toBe 2 all ++ toBe 2 h.id.toNat ++ toBe 2 (flag4 h).toNat ++ [ub h.ttl, ub h.pro] := by
  unfold H4.bad at hx
  have h1 : toBe 2 (word0 h).toNat = [ub (64 + ((20 + h.opt.length : Nat) : Int) / 4), ub h.tos] := two_ub _ _ (by omega) (by omega) hf.tos.1 hf.tos.2
  have h2 : toBe 2 (word4 h).toNat = [ub h.ttl, ub h.pro] := two_ub _ _ hf.ttl.1 hf.ttl.2 hf.pro.1 hf.pro.2
  simp [hdA, twos, h1, h2]
theorem ba_cat (X Y : List UInt8) : ByteArray.mk X.toArray ++ ByteArray.mk Y.toArray = ByteArray.mk (X ++ Y).toArray := by rw [ba_append]; simp

set_option maxHeartbeats 1000000 in
theorem rput4_arg (h : H4) (hf : h.fit) (l : List UInt8) (w : World) (hn : l.length ≤ 1099511627776) (hx : h.bad) :
    Calls Tryd.prog 26 #[.agg h.cells.toArray, str l] w fun e w' => e = .returned (.tuple #[str [], .int .i64 1]) ∧ Below w.heap.size w w' := by
  have HK := Lib.hid hf.ok
  have HOPT := Lib.hid (h.get_opt hf.ok)
  have hcase : (40 < (h.opt.length : Int)) ∨ (¬ (40 < (h.opt.length : Int)) ∧ 0 < (h.opt.length : Int) % 4) ∨ (¬ (40 < (h.opt.length : Int)) ∧ ¬ 0 < (h.opt.length : Int) % 4 ∧ h.off < 0) ∨ (¬ (40 < (h.opt.length : Int)) ∧ ¬ 0 < (h.opt.length : Int) % 4 ∧ ¬ h.off < 0 ∧ 8191 < h.off) := by
    unfold H4.bad at hx
    omega
  clear hx hf
  rcases hcase with k1 | ⟨k1, k2⟩ | ⟨k1, k2, k3⟩ | ⟨k1, k2, k3, k4⟩
  all_goals
    go_enter Tryd.func26, Tryd.ntmps26
    go_wp2_with (refine wpList_box_blk rfl 56 _ rfl h.cells rfl ?_; intro w1 hb1 hB1 hs1; have c16 : w1.cell? ⟨w.heap.size, 16, none⟩ = some (str h.opt) := (hb1.cell 16).trans HOPT.out; have c5 : w1.cell? ⟨w.heap.size, 5, none⟩ = some (.int .i64 h.off) := hb1.cell 5)
    go_ret2
    exact ⟨rfl, hB1⟩

set_option maxHeartbeats 1000000 in
theorem rput4_len (h : H4) (hf : h.fit) (l : List UInt8) (w : World) (hn : l.length ≤ 1099511627776) (hx : ¬ h.bad) (hl : 65535 < 20 + h.opt.length + l.length) :
    Calls Tryd.prog 26 #[.agg h.cells.toArray, str l] w fun e w' => e = .returned (.tuple #[str [], .int .i64 13]) ∧ Below w.heap.size w w' := by
  have HK := Lib.hid hf.ok
  have HOPT := Lib.hid (h.get_opt hf.ok)
  unfold H4.bad at hx
  have hfo : h.opt.length ≤ 1099511627776 := by omega
  have k1 : ¬ (40 < (h.opt.length : Int)) := by omega
  have k2 : ¬ 0 < (h.opt.length : Int) % 4 := by omega
  have k3 : ¬ h.off < 0 := by omega
  have k4 : ¬ 8191 < h.off := by omega
  have k5 : (65535 : Int) < 20 + (h.opt.length : Int) + (l.length : Int) := by omega
  clear hx hf
  go_enter Tryd.func26, Tryd.ntmps26
  go_wp2_with (first
    | (refine wpList_box_blk rfl 56 _ rfl h.cells rfl ?_; intro w1 hb1 hB1 hs1; have c16 : w1.cell? ⟨w.heap.size, 16, none⟩ = some (str h.opt) := (hb1.cell 16).trans HOPT.out; have c5 : w1.cell? ⟨w.heap.size, 5, none⟩ = some (.int .i64 h.off) := hb1.cell 5)
    | (refine wpList_load_blk rfl 56 _ rfl w.heap.size rfl 56 _ _ hb1 Tryd.underlying56 rfl (size4 _ HK.out) ?_))
  refine (rsize4_any h HK.out _ hfo).mono ?_
  rintro e w2 ⟨rfl, hb2⟩
  have hbx2 := hb1.on hb2
  have hB2 := bthen hB1 hb2
  clear hb1 hB1 hb2 c16 c5
  go_wp2_with fail
  go_ret2
  exact ⟨rfl, hB2⟩

set_option maxHeartbeats 4000000 in
theorem rput4_ok (h : H4) (hf : h.fit) (l : List UInt8) (w : World) (hx : ¬ h.bad) (all : Nat) (hall : 20 + h.opt.length + l.length = all) (hl : all ≤ 65535) (kb mb : Bool) (hkb : h.keep = kb) (hmb : h.more = mb) :
    Calls Tryd.prog 26 #[.agg h.cells.toArray, str l] w fun e w' => e = .returned (.tuple #[str (head4 h all ++ l), .int .i64 0]) ∧ Below w.heap.size w w' := by
  have HK := Lib.hid hf.ok
  have HOPT := Lib.hid (h.get_opt hf.ok)
  have HEQ := Lib.hid (hdA_eq h hf hx all)
  unfold H4.bad at hx
  have hfo : h.opt.length ≤ 1099511627776 := by omega
  have k1 : ¬ (40 < (h.opt.length : Int)) := by omega
  have k2 : ¬ 0 < (h.opt.length : Int) % 4 := by omega
  have k3 : ¬ h.off < 0 := by omega
  have k4 : ¬ 8191 < h.off := by omega
  obtain ⟨t0, t1⟩ := hf.tos
  obtain ⟨d0, d1⟩ := hf.id
  obtain ⟨l0, l1⟩ := hf.ttl
  obtain ⟨p0, p1⟩ := hf.pro
  have k5 : ¬ (65535 : Int) < (all : Int) := by omega
  have h40 : h.opt.length ≤ 40 := by omega
  have HFL : Hid (flag4 h = h.off + (if kb then 16384 else 0) + (if mb then 8192 else 0)) := Lib.hid (by unfold flag4; rw [hkb, hmb])
  have bf0 : 0 ≤ flag4 h := by rw [HFL.out]; split <;> split <;> omega
  have bf1 : flag4 h ≤ 65535 := by rw [HFL.out]; split <;> split <;> omega
  obtain ⟨Cs, hCs⟩ : ∃ Cs, Cs = sumC h all := ⟨_, rfl⟩
  have bs : Cs ≤ 65535 := by rw [hCs]; unfold sumC; omega
  have HCs : Hid (65535 - rawN (hdA h all ++ bk4 h) = Cs) := Lib.hid hCs.symm
  obtain ⟨S, hS⟩ : ∃ S, 20 + h.opt.length = S := ⟨_, rfl⟩
  rw [hS] at HEQ
  have hS60 : S ≤ 60 := by omega
  have HSz : Hid (20 + (h.opt.length : Int) = (S : Int)) := Lib.hid (by omega)
  have hSA : (S : Int) + (l.length : Int) = (all : Int) := by omega
  have HKB := Lib.hid hkb
  have HMB := Lib.hid hmb
  have hnl : l.length ≤ 65535 := by omega
  have HLB := Lib.hid (show (bk4 h).length ≤ 48 by rw [bk4_length h hf.ok]; omega)
  have HRES : Hid (head4 h all ++ l = hdA h all ++ toBe 2 Cs ++ bk4 h ++ l) := Lib.hid (by rw [hCs]; rfl)
  clear hx hf hkb hmb hCs hS hall
  cases kb <;> cases mb
  all_goals
    have hfv := HFL.out
    simp only [reduceIte, Bool.false_eq_true, Int.add_zero] at hfv
    have HFV := Lib.hid hfv
    clear hfv
    go_enter Tryd.func26, Tryd.ntmps26
    go_wp2_with (first
    | (refine wpList_box_blk rfl 56 _ rfl h.cells rfl ?_; intro w1 hb1 hB1 hs1; have c16 : w1.cell? ⟨w.heap.size, 16, none⟩ = some (str h.opt) := (hb1.cell 16).trans HOPT.out; have c5 : w1.cell? ⟨w.heap.size, 5, none⟩ = some (.int .i64 h.off) := hb1.cell 5)
    | (refine wpList_load_blk rfl 56 _ rfl w.heap.size rfl 56 _ _ hb1 Tryd.underlying56 rfl (size4 _ HK.out) ?_))
    refine (rsize4_any h HK.out _ hfo).mono ?_
    rintro e w2 ⟨rfl, hb2⟩
    have hbx2 := hb1.on hb2
    have hB2 := bthen hB1 hb2
    clear hb1 hB1 hb2 c16 c5
    have c5' : w2.cell? ⟨w.heap.size, 5, none⟩ = some (.int .i64 h.off) := hbx2.cell 5
    have c3' : w2.cell? ⟨w.heap.size, 3, none⟩ = some (.bool h.keep) := hbx2.cell 3
    rw [HKB.out] at c3'
    have c4' : w2.cell? ⟨w.heap.size, 4, none⟩ = some (.bool h.more) := hbx2.cell 4
    rw [HMB.out] at c4'
    rw [HSz.out]
    have HX2 := Lib.hid hbx2
    clear hbx2 hs1
    go_wp2_with fail
    rw [← HFV.out]
    clear c5' c3' c4'
    refine wp_region_rel (fun A B => A.grownBy B none) (fun A => grown_refl A _) (fun A B C h k => grown_trans h k) (relAt (List.cons (fun v _ => v = .agg h.cells.toArray) (List.cons (fun v _ => v = .int .i64 (S : Int)) (List.cons (fun v _ => v = .int .i64 ((S : Int) / 4)) (List.cons (fun v _ => v = .int .i64 (64 + (S : Int) / 4)) (List.cons (fun v _ => v = .int .u8 (64 + (S : Int) / 4)) (List.cons (fun v _ => v = .pointer (some ⟨w.heap.size, 0, none⟩)) (List.cons (fun v _ => v = .int .u8 h.tos) (List.cons (BsR [ub (64 + (S : Int) / 4), ub (h.tos)]) (List.cons (fun v _ => v = str [ub (64 + (S : Int) / 4), ub (h.tos)]) (List.cons (fun v _ => v = .int .i64 (all : Int)) (List.cons (fun v _ => v = .int .u64 (all : Int)) (List.cons (fun v _ => v = str (toBe 2 all)) (List.cons (fun v _ => v = str ([ub (64 + (S : Int) / 4), ub (h.tos)] ++ toBe 2 all)) (List.cons (fun v _ => v = .pointer (some ⟨w.heap.size, 2, none⟩)) (List.cons (fun v _ => v = .int .u16 h.id) (List.cons (fun v _ => v = .int .u64 h.id) (List.cons (fun v _ => v = str (toBe 2 h.id.toNat)) (List.cons (fun v _ => v = str ([ub (64 + (S : Int) / 4), ub (h.tos)] ++ toBe 2 all ++ toBe 2 h.id.toNat)) (List.cons (fun v _ => v = .int .i64 (flag4 h)) (List.cons (fun v _ => v = .int .u64 (flag4 h)) (List.cons (fun v _ => v = str (toBe 2 (flag4 h).toNat)) (List.cons (fun v _ => v = str ([ub (64 + (S : Int) / 4), ub (h.tos)] ++ toBe 2 all ++ toBe 2 h.id.toNat ++ toBe 2 (flag4 h).toNat)) (List.cons (fun v _ => v = .pointer (some ⟨w.heap.size, 6, none⟩)) (List.cons (fun v _ => v = .int .u8 h.ttl) (List.cons (fun v _ => v = .pointer (some ⟨w.heap.size, 7, none⟩)) (List.cons (fun v _ => v = .int .u8 h.pro) (List.cons (BsR [ub (h.ttl), ub (h.pro)]) (List.cons (fun v _ => v = str [ub (h.ttl), ub (h.pro)]) (List.cons (fun v _ => v = str ([ub (64 + (S : Int) / 4), ub (h.tos)] ++ toBe 2 all ++ toBe 2 h.id.toNat ++ toBe 2 (flag4 h).toNat ++ [ub (h.ttl), ub (h.pro)])) (List.cons (fun v _ => v = str ([ub (64 + (S : Int) / 4), ub (h.tos)] ++ toBe 2 all ++ toBe 2 h.id.toNat ++ toBe 2 (flag4 h).toNat ++ [ub (h.ttl), ub (h.pro)])) ([])))))))))))))))))))))))))))))))) (MonoL.at_ (.cons (mono_val _) (.cons (mono_val _) (.cons (mono_val _) (.cons (mono_val _) (.cons (mono_val _) (.cons (mono_val _) (.cons (mono_val _) (.cons (mono_bs _) (.cons (mono_val _) (.cons (mono_val _) (.cons (mono_val _) (.cons (mono_val _) (.cons (mono_val _) (.cons (mono_val _) (.cons (mono_val _) (.cons (mono_val _) (.cons (mono_val _) (.cons (mono_val _) (.cons (mono_val _) (.cons (mono_val _) (.cons (mono_val _) (.cons (mono_val _) (.cons (mono_val _) (.cons (mono_val _) (.cons (mono_val _) (.cons (mono_val _) (.cons (mono_bs _) (.cons (mono_val _) (.cons (mono_val _) (.cons (mono_val _) .nil))))))))))))))))))))))))))))))) (by kernel_rfl) (by kernel_rfl) ⟨?_, ?_, ?_, ?_, ?_, ?_, ?_, ?_, ?_, ?_, ?_, ?_, ?_, ?_, ?_, ?_, ?_, ?_, ?_, ?_, ?_, ?_, ?_, ?_, ?_, ?_, ?_, ?_, ?_, ?_, trivial⟩ ?_
    · intro a vs W hX hR he hf K hK
      rw [if_pos (wanted_none rfl)]
      have e2 : a.eval (.tmp 2) = .pointer (some ⟨w.heap.size, 0, none⟩) := hf 2 (by kernel_rfl)
      have hbW := bthen (below_drew _) (grow_below hX)
      exact wp_value (exec_load 56 _ rfl w.heap.size e2 56 h.cells _ (HX2.out.on hbW) Tryd.underlying56 rfl (size4 _ HK.out)) (hK _ _ rfl (grown_refl W _))
    · intro a vs W hX hR he hf K hK
      rw [if_pos (wanted_none rfl)]
      have e49 : a.eval (.tmp 49) = .agg h.cells.toArray := (he 0 49 (by kernel_rfl) rfl).trans (hR 0 (by kernel_rfl))
      refine wp_enter (f := 49) (args := #[.agg h.cells.toArray]) (by simp only [execOp, e49]; go_simp; simpa [Act.eval] using e49) ((rsize4_any h HK.out W hfo).mono ?_)
      rintro e w' ⟨rfl, hb⟩
      rw [HSz.out]
      exact ⟨_, rfl, hK _ _ rfl (below_grow hb _)⟩
    · intro a vs W hX hR he hf K hK
      rw [if_pos (wanted_none rfl)]
      have e50 : a.eval (.tmp 50) = .int .i64 (S : Int) := (he 1 50 (by kernel_rfl) rfl).trans (hR 1 (by kernel_rfl))
      refine wp_value (v := .int .i64 ((S : Int) / 4)) ?_ (hK _ _ rfl (grown_refl W _))
      simp only [execOp, e50]
      try go_simp
      try (first | rfl | omega | (simp only [IntKind.wrap_i64, IntKind.wrap_u8, IntKind.wrap_u64, IntKind.wrap_u16, IntKind.wrap_u32]; omega) | (rw [Int.tmod_eq_emod_of_nonneg (by omega)]) | (rw [Int.tmod_eq_emod_of_nonneg (by omega)]; omega))
    · intro a vs W hX hR he hf K hK
      rw [if_pos (wanted_none rfl)]
      have e51 : a.eval (.tmp 51) = .int .i64 ((S : Int) / 4) := (he 2 51 (by kernel_rfl) rfl).trans (hR 2 (by kernel_rfl))
      refine wp_value (v := .int .i64 (64 + (S : Int) / 4)) ?_ (hK _ _ rfl (grown_refl W _))
      simp only [execOp, e51]
      try go_simp
      try (first | rfl | omega | (simp only [IntKind.wrap_i64, IntKind.wrap_u8, IntKind.wrap_u64, IntKind.wrap_u16, IntKind.wrap_u32]; omega) | (rw [Int.tmod_eq_emod_of_nonneg (by omega)]) | (rw [Int.tmod_eq_emod_of_nonneg (by omega)]; omega))
    · intro a vs W hX hR he hf K hK
      rw [if_pos (wanted_none rfl)]
      have e52 : a.eval (.tmp 52) = .int .i64 (64 + (S : Int) / 4) := (he 3 52 (by kernel_rfl) rfl).trans (hR 3 (by kernel_rfl))
      refine wp_value (v := .int .u8 (64 + (S : Int) / 4)) ?_ (hK _ _ rfl (grown_refl W _))
      simp only [execOp, e52]
      try go_simp
      try (first | rfl | omega | (simp only [IntKind.wrap_i64, IntKind.wrap_u8, IntKind.wrap_u64, IntKind.wrap_u16, IntKind.wrap_u32]; omega) | (rw [Int.tmod_eq_emod_of_nonneg (by omega)]) | (rw [Int.tmod_eq_emod_of_nonneg (by omega)]; omega))
    · intro a vs W hX hR he hf K hK
      rw [if_pos (wanted_none rfl)]
      have e2 : a.eval (.tmp 2) = .pointer (some ⟨w.heap.size, 0, none⟩) := hf 2 (by kernel_rfl)
      refine wp_value (v := .pointer (some ⟨w.heap.size, 0, none⟩)) ?_ (hK _ _ rfl (grown_refl W _))
      simp only [execOp, e2]
      try go_simp
      try (first | rfl | omega | (simp only [IntKind.wrap_i64, IntKind.wrap_u8, IntKind.wrap_u64, IntKind.wrap_u16, IntKind.wrap_u32]; omega) | (rw [Int.tmod_eq_emod_of_nonneg (by omega)]) | (rw [Int.tmod_eq_emod_of_nonneg (by omega)]; omega))
    · intro a vs W hX hR he hf K hK
      rw [if_pos (wanted_none rfl)]
      have e54 : a.eval (.tmp 54) = .pointer (some ⟨w.heap.size, 0, none⟩) := (he 5 54 (by kernel_rfl) rfl).trans (hR 5 (by kernel_rfl))
      have hbW := bthen (below_drew _) (grow_below hX)
      have hc : W.cell? ⟨w.heap.size, 0, none⟩ = some (.int .u8 h.tos) := (HX2.out.on hbW).cell 0
      refine wp_value (v := _) ?_ (hK _ _ rfl (grown_refl W _))
      simp only [execOp, e54]
      try go_simp
    · intro a vs W hX hR he hf K hK
      rw [if_pos (wanted_none rfl)]
      have e53 : a.eval (.tmp 53) = .int .u8 (64 + (S : Int) / 4) := (he 4 53 (by kernel_rfl) rfl).trans (hR 4 (by kernel_rfl))
      have e55 : a.eval (.tmp 55) = .int .u8 h.tos := (he 6 55 (by kernel_rfl) rfl).trans (hR 6 (by kernel_rfl))
      have f53 := e53
      simp only [Act.eval, Array.getD_eq_getD_getElem?] at f53
      have f55 := e55
      simp only [Act.eval, Array.getD_eq_getD_getElem?] at f55
      refine wp_value (v := .slice (some ⟨W.heap.size, 0, none⟩) 2 2) (w' := W.alloc (.cells #[.int .u8 (64 + (S : Int) / 4), .int .u8 (h.tos)] 5)) ?_ (hK _ _ ⟨_, _, _, rfl, ⟨by rw [World.size_alloc]; exact row_lit W _ [ub (64 + (S : Int) / 4), ub (h.tos)] 2 (by simp [bv, ub]; omega) rfl, Nat.le_refl _, by simp [maxLen]⟩⟩ (World.grownBy_alloc _ _ _))
      simp only [execOp]
      go_simp
    · intro a vs W hX hR he hf K hK
      rw [if_pos (wanted_none rfl)]
      have e56 := he 7 56 (by kernel_rfl) rfl
      have p56 := hR 7 (by kernel_rfl)
      change (BsR [ub (64 + (S : Int) / 4), ub (h.tos)]) (vs 7) W at p56
      obtain ⟨A, n, c, hv, ho⟩ := p56
      rw [hv] at e56
      exact wp_value (exec_str 22 9 5 _ rfl Tryd.underlying22 Tryd.underlying5 Tryd.underlying9 A n c _ e56 ho) (hK _ _ rfl (grown_refl W _))
    · intro a vs W hX hR he hf K hK
      rw [if_pos (wanted_none rfl)]
      have e6 : a.eval (.tmp 6) = .int .i64 (all : Int) := hf 6 (by kernel_rfl)
      refine wp_value (v := .int .i64 (all : Int)) ?_ (hK _ _ rfl (grown_refl W _))
      simp only [execOp, e6]
      try go_simp
      try (first | rfl | omega | (simp only [IntKind.wrap_i64, IntKind.wrap_u8, IntKind.wrap_u64, IntKind.wrap_u16, IntKind.wrap_u32]; omega) | (rw [Int.tmod_eq_emod_of_nonneg (by omega)]) | (rw [Int.tmod_eq_emod_of_nonneg (by omega)]; omega))
    · intro a vs W hX hR he hf K hK
      rw [if_pos (wanted_none rfl)]
      have e58 : a.eval (.tmp 58) = .int .i64 (all : Int) := (he 9 58 (by kernel_rfl) rfl).trans (hR 9 (by kernel_rfl))
      refine wp_value (v := .int .u64 (all : Int)) ?_ (hK _ _ rfl (grown_refl W _))
      simp only [execOp, e58]
      try go_simp
      try (first | rfl | omega | (simp only [IntKind.wrap_i64, IntKind.wrap_u8, IntKind.wrap_u64, IntKind.wrap_u16, IntKind.wrap_u32]; omega) | (rw [Int.tmod_eq_emod_of_nonneg (by omega)]) | (rw [Int.tmod_eq_emod_of_nonneg (by omega)]; omega))
    · intro a vs W hX hR he hf K hK
      rw [if_pos (wanted_none rfl)]
      have e59 : a.eval (.tmp 59) = .int .u64 (all : Int) := (he 10 59 (by kernel_rfl) rfl).trans (hR 10 (by kernel_rfl))
      refine wp_enter (f := 23) (args := #[.int .u64 (all : Int), .int .i64 2]) (by simp only [execOp, e59]; go_simp; simpa [Act.eval] using e59) ((bytes_any (all : Int) 2 W (by omega) (by omega) (by omega) (by omega)).mono ?_)
      rintro e w' ⟨rfl, hb⟩
      exact ⟨_, rfl, hK _ _ (show str (toBe (2 : Int).toNat ((all : Int)).toNat) = str (toBe 2 all) by simp) (below_grow hb _)⟩
    · intro a vs W hX hR he hf K hK
      rw [if_pos (wanted_none rfl)]
      have e57 : a.eval (.tmp 57) = str [ub (64 + (S : Int) / 4), ub (h.tos)] := (he 8 57 (by kernel_rfl) rfl).trans (hR 8 (by kernel_rfl))
      have e60 : a.eval (.tmp 60) = str (toBe 2 all) := (he 11 60 (by kernel_rfl) rfl).trans (hR 11 (by kernel_rfl))
      refine wp_value (v := _) ?_ (hK _ _ rfl (grown_refl W _))
      simp only [execOp, e57, e60]
      go_simp
      simp [ba_append]
      try (simp [toBe_length] <;> omega)
      try omega
    · intro a vs W hX hR he hf K hK
      rw [if_pos (wanted_none rfl)]
      have e2 : a.eval (.tmp 2) = .pointer (some ⟨w.heap.size, 0, none⟩) := hf 2 (by kernel_rfl)
      refine wp_value (v := .pointer (some ⟨w.heap.size, 2, none⟩)) ?_ (hK _ _ rfl (grown_refl W _))
      simp only [execOp, e2]
      try go_simp
      try (first | rfl | omega | (simp only [IntKind.wrap_i64, IntKind.wrap_u8, IntKind.wrap_u64, IntKind.wrap_u16, IntKind.wrap_u32]; omega) | (rw [Int.tmod_eq_emod_of_nonneg (by omega)]) | (rw [Int.tmod_eq_emod_of_nonneg (by omega)]; omega))
    · intro a vs W hX hR he hf K hK
      rw [if_pos (wanted_none rfl)]
      have e62 : a.eval (.tmp 62) = .pointer (some ⟨w.heap.size, 2, none⟩) := (he 13 62 (by kernel_rfl) rfl).trans (hR 13 (by kernel_rfl))
      have hbW := bthen (below_drew _) (grow_below hX)
      have hc : W.cell? ⟨w.heap.size, 2, none⟩ = some (.int .u16 h.id) := (HX2.out.on hbW).cell 2
      refine wp_value (v := _) ?_ (hK _ _ rfl (grown_refl W _))
      simp only [execOp, e62]
      try go_simp
    · intro a vs W hX hR he hf K hK
      rw [if_pos (wanted_none rfl)]
      have e63 : a.eval (.tmp 63) = .int .u16 h.id := (he 14 63 (by kernel_rfl) rfl).trans (hR 14 (by kernel_rfl))
      refine wp_value (v := .int .u64 h.id) ?_ (hK _ _ rfl (grown_refl W _))
      simp only [execOp, e63]
      try go_simp
      try (first | rfl | omega | (simp only [IntKind.wrap_i64, IntKind.wrap_u8, IntKind.wrap_u64, IntKind.wrap_u16, IntKind.wrap_u32]; omega) | (rw [Int.tmod_eq_emod_of_nonneg (by omega)]) | (rw [Int.tmod_eq_emod_of_nonneg (by omega)]; omega))
    · intro a vs W hX hR he hf K hK
      rw [if_pos (wanted_none rfl)]
      have e64 : a.eval (.tmp 64) = .int .u64 h.id := (he 15 64 (by kernel_rfl) rfl).trans (hR 15 (by kernel_rfl))
      refine wp_enter (f := 23) (args := #[.int .u64 h.id, .int .i64 2]) (by simp only [execOp, e64]; go_simp; simpa [Act.eval] using e64) ((bytes_any h.id 2 W (by omega) (by omega) (by omega) (by omega)).mono ?_)
      rintro e w' ⟨rfl, hb⟩
      exact ⟨_, rfl, hK _ _ (show str (toBe (2 : Int).toNat (h.id).toNat) = str (toBe 2 h.id.toNat) by simp) (below_grow hb _)⟩
    · intro a vs W hX hR he hf K hK
      rw [if_pos (wanted_none rfl)]
      have e61 : a.eval (.tmp 61) = str ([ub (64 + (S : Int) / 4), ub (h.tos)] ++ toBe 2 all) := (he 12 61 (by kernel_rfl) rfl).trans (hR 12 (by kernel_rfl))
      have e65 : a.eval (.tmp 65) = str (toBe 2 h.id.toNat) := (he 16 65 (by kernel_rfl) rfl).trans (hR 16 (by kernel_rfl))
      refine wp_value (v := _) ?_ (hK _ _ rfl (grown_refl W _))
      simp only [execOp, e61, e65]
      go_simp
      simp [ba_append]
      try (simp [toBe_length] <;> omega)
      try omega
    · intro a vs W hX hR he hf K hK
      rw [if_pos (wanted_none rfl)]
      have e7 : a.eval (.tmp 7) = .int .i64 (flag4 h) := hf 7 (by kernel_rfl)
      refine wp_value (v := .int .i64 (flag4 h)) ?_ (hK _ _ rfl (grown_refl W _))
      simp only [execOp, e7]
      try go_simp
      try (first | rfl | omega | (simp only [IntKind.wrap_i64, IntKind.wrap_u8, IntKind.wrap_u64, IntKind.wrap_u16, IntKind.wrap_u32]; omega) | (rw [Int.tmod_eq_emod_of_nonneg (by omega)]) | (rw [Int.tmod_eq_emod_of_nonneg (by omega)]; omega))
    · intro a vs W hX hR he hf K hK
      rw [if_pos (wanted_none rfl)]
      have e67 : a.eval (.tmp 67) = .int .i64 (flag4 h) := (he 18 67 (by kernel_rfl) rfl).trans (hR 18 (by kernel_rfl))
      refine wp_value (v := .int .u64 (flag4 h)) ?_ (hK _ _ rfl (grown_refl W _))
      simp only [execOp, e67]
      try go_simp
      try (first | rfl | omega | (simp only [IntKind.wrap_i64, IntKind.wrap_u8, IntKind.wrap_u64, IntKind.wrap_u16, IntKind.wrap_u32]; omega) | (rw [Int.tmod_eq_emod_of_nonneg (by omega)]) | (rw [Int.tmod_eq_emod_of_nonneg (by omega)]; omega))
    · intro a vs W hX hR he hf K hK
      rw [if_pos (wanted_none rfl)]
      have e68 : a.eval (.tmp 68) = .int .u64 (flag4 h) := (he 19 68 (by kernel_rfl) rfl).trans (hR 19 (by kernel_rfl))
      refine wp_enter (f := 23) (args := #[.int .u64 (flag4 h), .int .i64 2]) (by simp only [execOp, e68]; go_simp; simpa [Act.eval] using e68) ((bytes_any (flag4 h) 2 W (by omega) (by omega) (by omega) (by omega)).mono ?_)
      rintro e w' ⟨rfl, hb⟩
      exact ⟨_, rfl, hK _ _ (show str (toBe (2 : Int).toNat ((flag4 h)).toNat) = str (toBe 2 (flag4 h).toNat) by simp) (below_grow hb _)⟩
    · intro a vs W hX hR he hf K hK
      rw [if_pos (wanted_none rfl)]
      have e66 : a.eval (.tmp 66) = str ([ub (64 + (S : Int) / 4), ub (h.tos)] ++ toBe 2 all ++ toBe 2 h.id.toNat) := (he 17 66 (by kernel_rfl) rfl).trans (hR 17 (by kernel_rfl))
      have e69 : a.eval (.tmp 69) = str (toBe 2 (flag4 h).toNat) := (he 20 69 (by kernel_rfl) rfl).trans (hR 20 (by kernel_rfl))
      refine wp_value (v := _) ?_ (hK _ _ rfl (grown_refl W _))
      simp only [execOp, e66, e69]
      go_simp
      simp [ba_append]
      try (simp [toBe_length] <;> omega)
      try omega
    · intro a vs W hX hR he hf K hK
      rw [if_pos (wanted_none rfl)]
      have e2 : a.eval (.tmp 2) = .pointer (some ⟨w.heap.size, 0, none⟩) := hf 2 (by kernel_rfl)
      refine wp_value (v := .pointer (some ⟨w.heap.size, 6, none⟩)) ?_ (hK _ _ rfl (grown_refl W _))
      simp only [execOp, e2]
      try go_simp
      try (first | rfl | omega | (simp only [IntKind.wrap_i64, IntKind.wrap_u8, IntKind.wrap_u64, IntKind.wrap_u16, IntKind.wrap_u32]; omega) | (rw [Int.tmod_eq_emod_of_nonneg (by omega)]) | (rw [Int.tmod_eq_emod_of_nonneg (by omega)]; omega))
    · intro a vs W hX hR he hf K hK
      rw [if_pos (wanted_none rfl)]
      have e71 : a.eval (.tmp 71) = .pointer (some ⟨w.heap.size, 6, none⟩) := (he 22 71 (by kernel_rfl) rfl).trans (hR 22 (by kernel_rfl))
      have hbW := bthen (below_drew _) (grow_below hX)
      have hc : W.cell? ⟨w.heap.size, 6, none⟩ = some (.int .u8 h.ttl) := (HX2.out.on hbW).cell 6
      refine wp_value (v := _) ?_ (hK _ _ rfl (grown_refl W _))
      simp only [execOp, e71]
      try go_simp
    · intro a vs W hX hR he hf K hK
      rw [if_pos (wanted_none rfl)]
      have e2 : a.eval (.tmp 2) = .pointer (some ⟨w.heap.size, 0, none⟩) := hf 2 (by kernel_rfl)
      refine wp_value (v := .pointer (some ⟨w.heap.size, 7, none⟩)) ?_ (hK _ _ rfl (grown_refl W _))
      simp only [execOp, e2]
      try go_simp
      try (first | rfl | omega | (simp only [IntKind.wrap_i64, IntKind.wrap_u8, IntKind.wrap_u64, IntKind.wrap_u16, IntKind.wrap_u32]; omega) | (rw [Int.tmod_eq_emod_of_nonneg (by omega)]) | (rw [Int.tmod_eq_emod_of_nonneg (by omega)]; omega))
    · intro a vs W hX hR he hf K hK
      rw [if_pos (wanted_none rfl)]
      have e73 : a.eval (.tmp 73) = .pointer (some ⟨w.heap.size, 7, none⟩) := (he 24 73 (by kernel_rfl) rfl).trans (hR 24 (by kernel_rfl))
      have hbW := bthen (below_drew _) (grow_below hX)
      have hc : W.cell? ⟨w.heap.size, 7, none⟩ = some (.int .u8 h.pro) := (HX2.out.on hbW).cell 7
      refine wp_value (v := _) ?_ (hK _ _ rfl (grown_refl W _))
      simp only [execOp, e73]
      try go_simp
    · intro a vs W hX hR he hf K hK
      rw [if_pos (wanted_none rfl)]
      have e72 : a.eval (.tmp 72) = .int .u8 h.ttl := (he 23 72 (by kernel_rfl) rfl).trans (hR 23 (by kernel_rfl))
      have e74 : a.eval (.tmp 74) = .int .u8 h.pro := (he 25 74 (by kernel_rfl) rfl).trans (hR 25 (by kernel_rfl))
      have f72 := e72
      simp only [Act.eval, Array.getD_eq_getD_getElem?] at f72
      have f74 := e74
      simp only [Act.eval, Array.getD_eq_getD_getElem?] at f74
      refine wp_value (v := .slice (some ⟨W.heap.size, 0, none⟩) 2 2) (w' := W.alloc (.cells #[.int .u8 (h.ttl), .int .u8 (h.pro)] 5)) ?_ (hK _ _ ⟨_, _, _, rfl, ⟨by rw [World.size_alloc]; exact row_lit W _ [ub (h.ttl), ub (h.pro)] 2 (by simp [bv, ub]; omega) rfl, Nat.le_refl _, by simp [maxLen]⟩⟩ (World.grownBy_alloc _ _ _))
      simp only [execOp]
      go_simp
    · intro a vs W hX hR he hf K hK
      rw [if_pos (wanted_none rfl)]
      have e75 := he 26 75 (by kernel_rfl) rfl
      have p75 := hR 26 (by kernel_rfl)
      change (BsR [ub (h.ttl), ub (h.pro)]) (vs 26) W at p75
      obtain ⟨A, n, c, hv, ho⟩ := p75
      rw [hv] at e75
      exact wp_value (exec_str 22 9 5 _ rfl Tryd.underlying22 Tryd.underlying5 Tryd.underlying9 A n c _ e75 ho) (hK _ _ rfl (grown_refl W _))
    · intro a vs W hX hR he hf K hK
      rw [if_pos (wanted_none rfl)]
      have e70 : a.eval (.tmp 70) = str ([ub (64 + (S : Int) / 4), ub (h.tos)] ++ toBe 2 all ++ toBe 2 h.id.toNat ++ toBe 2 (flag4 h).toNat) := (he 21 70 (by kernel_rfl) rfl).trans (hR 21 (by kernel_rfl))
      have e76 : a.eval (.tmp 76) = str [ub (h.ttl), ub (h.pro)] := (he 27 76 (by kernel_rfl) rfl).trans (hR 27 (by kernel_rfl))
      refine wp_value (v := _) ?_ (hK _ _ rfl (grown_refl W _))
      simp only [execOp, e70, e76]
      go_simp
      simp [ba_append]
      try (simp [toBe_length] <;> omega)
      try omega
    · intro a vs W hX hR he hf K hK
      rw [if_pos (wanted_none rfl)]
      have e77 : a.eval (.tmp 77) = str ([ub (64 + (S : Int) / 4), ub (h.tos)] ++ toBe 2 all ++ toBe 2 h.id.toNat ++ toBe 2 (flag4 h).toNat ++ [ub (h.ttl), ub (h.pro)]) := (he 28 77 (by kernel_rfl) rfl).trans (hR 28 (by kernel_rfl))
      refine wp_value (v := str ([ub (64 + (S : Int) / 4), ub (h.tos)] ++ toBe 2 all ++ toBe 2 h.id.toNat ++ toBe 2 (flag4 h).toNat ++ [ub (h.ttl), ub (h.pro)])) ?_ (hK _ _ rfl (grown_refl W _))
      simp only [execOp, e77]
      try go_simp
      try (first | rfl | omega | (simp only [IntKind.wrap_i64, IntKind.wrap_u8, IntKind.wrap_u64, IntKind.wrap_u16, IntKind.wrap_u32]; omega) | (rw [Int.tmod_eq_emod_of_nonneg (by omega)]) | (rw [Int.tmod_eq_emod_of_nonneg (by omega)]; omega))
    · intro vs w3 hX3 hR
      have q0 := hR 0 (by decide)
      have q1 := hR 1 (by decide)
      have q2 := hR 2 (by decide)
      have q3 := hR 3 (by decide)
      have q4 := hR 4 (by decide)
      have q5 := hR 5 (by decide)
      have q6 := hR 6 (by decide)
      have q7 := hR 7 (by decide)
      have q8 := hR 8 (by decide)
      have q9 := hR 9 (by decide)
      have q10 := hR 10 (by decide)
      have q11 := hR 11 (by decide)
      have q12 := hR 12 (by decide)
      have q13 := hR 13 (by decide)
      have q14 := hR 14 (by decide)
      have q15 := hR 15 (by decide)
      have q16 := hR 16 (by decide)
      have q17 := hR 17 (by decide)
      have q18 := hR 18 (by decide)
      have q19 := hR 19 (by decide)
      have q20 := hR 20 (by decide)
      have q21 := hR 21 (by decide)
      have q22 := hR 22 (by decide)
      have q23 := hR 23 (by decide)
      have q24 := hR 24 (by decide)
      have q25 := hR 25 (by decide)
      have q26 := hR 26 (by decide)
      have q27 := hR 27 (by decide)
      have q28 := hR 28 (by decide)
      have q29 := hR 29 (by decide)
      change vs 0 = .agg h.cells.toArray at q0
      change vs 1 = .int .i64 (S : Int) at q1
      change vs 2 = .int .i64 ((S : Int) / 4) at q2
      change vs 3 = .int .i64 (64 + (S : Int) / 4) at q3
      change vs 4 = .int .u8 (64 + (S : Int) / 4) at q4
      change vs 5 = .pointer (some ⟨w.heap.size, 0, none⟩) at q5
      change vs 6 = .int .u8 h.tos at q6
      change (BsR [ub (64 + (S : Int) / 4), ub (h.tos)]) (vs 7) w3 at q7
      change vs 8 = str [ub (64 + (S : Int) / 4), ub (h.tos)] at q8
      change vs 9 = .int .i64 (all : Int) at q9
      change vs 10 = .int .u64 (all : Int) at q10
      change vs 11 = str (toBe 2 all) at q11
      change vs 12 = str ([ub (64 + (S : Int) / 4), ub (h.tos)] ++ toBe 2 all) at q12
      change vs 13 = .pointer (some ⟨w.heap.size, 2, none⟩) at q13
      change vs 14 = .int .u16 h.id at q14
      change vs 15 = .int .u64 h.id at q15
      change vs 16 = str (toBe 2 h.id.toNat) at q16
      change vs 17 = str ([ub (64 + (S : Int) / 4), ub (h.tos)] ++ toBe 2 all ++ toBe 2 h.id.toNat) at q17
      change vs 18 = .int .i64 (flag4 h) at q18
      change vs 19 = .int .u64 (flag4 h) at q19
      change vs 20 = str (toBe 2 (flag4 h).toNat) at q20
      change vs 21 = str ([ub (64 + (S : Int) / 4), ub (h.tos)] ++ toBe 2 all ++ toBe 2 h.id.toNat ++ toBe 2 (flag4 h).toNat) at q21
      change vs 22 = .pointer (some ⟨w.heap.size, 6, none⟩) at q22
      change vs 23 = .int .u8 h.ttl at q23
      change vs 24 = .pointer (some ⟨w.heap.size, 7, none⟩) at q24
      change vs 25 = .int .u8 h.pro at q25
      change (BsR [ub (h.ttl), ub (h.pro)]) (vs 26) w3 at q26
      change vs 27 = str [ub (h.ttl), ub (h.pro)] at q27
      change vs 28 = str ([ub (64 + (S : Int) / 4), ub (h.tos)] ++ toBe 2 all ++ toBe 2 h.id.toNat ++ toBe 2 (flag4 h).toNat ++ [ub (h.ttl), ub (h.pro)]) at q28
      change vs 29 = str ([ub (64 + (S : Int) / 4), ub (h.tos)] ++ toBe 2 all ++ toBe 2 h.id.toNat ++ toBe 2 (flag4 h).toNat ++ [ub (h.ttl), ub (h.pro)]) at q29
      simp only [putAll, Act.put, List.setIfInBounds_toArray, List.set_cons_zero, List.set_cons_succ, q0, q1, q2, q3, q4, q5, q6, q8, q9, q10, q11, q12, q13, q14, q15, q16, q17, q18, q19, q20, q21, q22, q23, q24, q25, q27, q28, q29]
      clear q0 q1 q2 q3 q4 q5 q6 q8 q9 q10 q11 q12 q13 q14 q15 q16 q17 q18 q19 q20 q21 q22 q23 q24 q25 q27 q28 q29
      clear hR
      have HW3 : Hid (Below w2.heap.size w2 w3) := Lib.hid (bthen (below_drew _) (grow_below hX3))
      rw [← HEQ.out]
      clear hX3 q7 q26
      go_wp2_with fail
      refine wp_region_rel (fun A B => A.grownBy B none) (fun A => grown_refl A _) (fun A B C h k => grown_trans h k) (relAt (List.cons (fun v _ => v = .pointer (some ⟨w.heap.size, 8, none⟩)) (List.cons (fun v _ => v = .agg (bv h.src).toArray) (List.cons (fun v _ => v = str h.src) (List.cons (fun v _ => v = .pointer (some ⟨w.heap.size, 12, none⟩)) (List.cons (fun v _ => v = .agg (bv h.dst).toArray) (List.cons (fun v _ => v = str h.dst) (List.cons (fun v _ => v = str (h.src ++ h.dst)) (List.cons (fun v _ => v = .pointer (some ⟨w.heap.size, 16, none⟩)) (List.cons (fun v _ => v = str h.opt) (List.cons (fun v _ => v = str (h.src ++ h.dst ++ h.opt)) (List.cons (fun v _ => v = str (h.src ++ h.dst ++ h.opt)) ([]))))))))))))) (MonoL.at_ (.cons (mono_val _) (.cons (mono_val _) (.cons (mono_val _) (.cons (mono_val _) (.cons (mono_val _) (.cons (mono_val _) (.cons (mono_val _) (.cons (mono_val _) (.cons (mono_val _) (.cons (mono_val _) (.cons (mono_val _) .nil)))))))))))) (by kernel_rfl) (by kernel_rfl) ⟨?_, ?_, ?_, ?_, ?_, ?_, ?_, ?_, ?_, ?_, ?_, trivial⟩ ?_
      · intro a vs W hX hR he hf K hK
        rw [if_pos (wanted_none rfl)]
        have e2 : a.eval (.tmp 2) = .pointer (some ⟨w.heap.size, 0, none⟩) := hf 2 (by kernel_rfl)
        refine wp_value (v := .pointer (some ⟨w.heap.size, 8, none⟩)) ?_ (hK _ _ rfl (grown_refl W _))
        simp only [execOp, e2]
        try go_simp
        try (first | rfl | omega | (simp only [IntKind.wrap_i64, IntKind.wrap_u8, IntKind.wrap_u64, IntKind.wrap_u16, IntKind.wrap_u32]; omega) | (rw [Int.tmod_eq_emod_of_nonneg (by omega)]) | (rw [Int.tmod_eq_emod_of_nonneg (by omega)]; omega))
      · intro a vs W hX hR he hf K hK
        rw [if_pos (wanted_none rfl)]
        have e78 : a.eval (.tmp 78) = .pointer (some ⟨w.heap.size, 8, none⟩) := (he 0 78 (by kernel_rfl) rfl).trans (hR 0 (by kernel_rfl))
        have hbW := bthen (below_drew _) (grow_below hX)
        have hr := (HX2.out.on (bthen HW3.out hbW)).range 8 4
        rw [h.drop_src HK.out] at hr
        exact wp_value (exec_load_mid 26 _ rfl w.heap.size 8 e78 _ _ hr Tryd.underlying26 rfl (sizeA4 _ HK.out.src)) (hK _ _ rfl (grown_refl W _))
      · intro a vs W hX hR he hf K hK
        rw [if_pos (wanted_none rfl)]
        have e79 : a.eval (.tmp 79) = .agg (bv h.src).toArray := (he 1 79 (by kernel_rfl) rfl).trans (hR 1 (by kernel_rfl))
        refine wp_enter (f := 50) (args := #[.agg (bv h.src).toArray]) (by simp only [execOp, e79]; go_simp; simpa [Act.eval] using e79) ((text4_any h.src W HK.out.src).mono ?_)
        rintro e w' ⟨rfl, hb⟩
        exact ⟨_, rfl, hK _ _ rfl (below_grow hb _)⟩
      · intro a vs W hX hR he hf K hK
        rw [if_pos (wanted_none rfl)]
        have e2 : a.eval (.tmp 2) = .pointer (some ⟨w.heap.size, 0, none⟩) := hf 2 (by kernel_rfl)
        refine wp_value (v := .pointer (some ⟨w.heap.size, 12, none⟩)) ?_ (hK _ _ rfl (grown_refl W _))
        simp only [execOp, e2]
        try go_simp
        try (first | rfl | omega | (simp only [IntKind.wrap_i64, IntKind.wrap_u8, IntKind.wrap_u64, IntKind.wrap_u16, IntKind.wrap_u32]; omega) | (rw [Int.tmod_eq_emod_of_nonneg (by omega)]) | (rw [Int.tmod_eq_emod_of_nonneg (by omega)]; omega))
      · intro a vs W hX hR he hf K hK
        rw [if_pos (wanted_none rfl)]
        have e81 : a.eval (.tmp 81) = .pointer (some ⟨w.heap.size, 12, none⟩) := (he 3 81 (by kernel_rfl) rfl).trans (hR 3 (by kernel_rfl))
        have hbW := bthen (below_drew _) (grow_below hX)
        have hr := (HX2.out.on (bthen HW3.out hbW)).range 12 4
        rw [h.drop_dst HK.out] at hr
        exact wp_value (exec_load_mid 26 _ rfl w.heap.size 12 e81 _ _ hr Tryd.underlying26 rfl (sizeA4 _ HK.out.dst)) (hK _ _ rfl (grown_refl W _))
      · intro a vs W hX hR he hf K hK
        rw [if_pos (wanted_none rfl)]
        have e82 : a.eval (.tmp 82) = .agg (bv h.dst).toArray := (he 4 82 (by kernel_rfl) rfl).trans (hR 4 (by kernel_rfl))
        refine wp_enter (f := 50) (args := #[.agg (bv h.dst).toArray]) (by simp only [execOp, e82]; go_simp; simpa [Act.eval] using e82) ((text4_any h.dst W HK.out.dst).mono ?_)
        rintro e w' ⟨rfl, hb⟩
        exact ⟨_, rfl, hK _ _ rfl (below_grow hb _)⟩
      · intro a vs W hX hR he hf K hK
        rw [if_pos (wanted_none rfl)]
        have e80 : a.eval (.tmp 80) = str h.src := (he 2 80 (by kernel_rfl) rfl).trans (hR 2 (by kernel_rfl))
        have e83 : a.eval (.tmp 83) = str h.dst := (he 5 83 (by kernel_rfl) rfl).trans (hR 5 (by kernel_rfl))
        refine wp_value (v := _) ?_ (hK _ _ rfl (grown_refl W _))
        simp only [execOp, e80, e83]
        go_simp
        simp [ba_append, HK.out.src, HK.out.dst]
        try (simp [toBe_length] <;> omega)
        try omega
      · intro a vs W hX hR he hf K hK
        rw [if_pos (wanted_none rfl)]
        have e2 : a.eval (.tmp 2) = .pointer (some ⟨w.heap.size, 0, none⟩) := hf 2 (by kernel_rfl)
        refine wp_value (v := .pointer (some ⟨w.heap.size, 16, none⟩)) ?_ (hK _ _ rfl (grown_refl W _))
        simp only [execOp, e2]
        try go_simp
        try (first | rfl | omega | (simp only [IntKind.wrap_i64, IntKind.wrap_u8, IntKind.wrap_u64, IntKind.wrap_u16, IntKind.wrap_u32]; omega) | (rw [Int.tmod_eq_emod_of_nonneg (by omega)]) | (rw [Int.tmod_eq_emod_of_nonneg (by omega)]; omega))
      · intro a vs W hX hR he hf K hK
        rw [if_pos (wanted_none rfl)]
        have e85 : a.eval (.tmp 85) = .pointer (some ⟨w.heap.size, 16, none⟩) := (he 7 85 (by kernel_rfl) rfl).trans (hR 7 (by kernel_rfl))
        have hbW := bthen (below_drew _) (grow_below hX)
        have hc : W.cell? ⟨w.heap.size, 16, none⟩ = some (str h.opt) := (((HX2.out.on HW3.out).on hbW).cell 16).trans HOPT.out
        refine wp_value (v := _) ?_ (hK _ _ rfl (grown_refl W _))
        simp only [execOp, e85]
        try go_simp
      · intro a vs W hX hR he hf K hK
        rw [if_pos (wanted_none rfl)]
        have e84 : a.eval (.tmp 84) = str (h.src ++ h.dst) := (he 6 84 (by kernel_rfl) rfl).trans (hR 6 (by kernel_rfl))
        have e86 : a.eval (.tmp 86) = str h.opt := (he 8 86 (by kernel_rfl) rfl).trans (hR 8 (by kernel_rfl))
        refine wp_value (v := _) ?_ (hK _ _ rfl (grown_refl W _))
        simp only [execOp, e84, e86]
        go_simp
        simp [ba_append, HK.out.src, HK.out.dst]
        try (simp [toBe_length] <;> omega)
        try omega
      · intro a vs W hX hR he hf K hK
        rw [if_pos (wanted_none rfl)]
        have e87 : a.eval (.tmp 87) = str (h.src ++ h.dst ++ h.opt) := (he 9 87 (by kernel_rfl) rfl).trans (hR 9 (by kernel_rfl))
        refine wp_value (v := str (h.src ++ h.dst ++ h.opt)) ?_ (hK _ _ rfl (grown_refl W _))
        simp only [execOp, e87]
        try go_simp
        try (first | rfl | omega | (simp only [IntKind.wrap_i64, IntKind.wrap_u8, IntKind.wrap_u64, IntKind.wrap_u16, IntKind.wrap_u32]; omega) | (rw [Int.tmod_eq_emod_of_nonneg (by omega)]) | (rw [Int.tmod_eq_emod_of_nonneg (by omega)]; omega))
      · intro vs w4 hX4 hR
        have q0 := hR 0 (by decide)
        have q1 := hR 1 (by decide)
        have q2 := hR 2 (by decide)
        have q3 := hR 3 (by decide)
        have q4 := hR 4 (by decide)
        have q5 := hR 5 (by decide)
        have q6 := hR 6 (by decide)
        have q7 := hR 7 (by decide)
        have q8 := hR 8 (by decide)
        have q9 := hR 9 (by decide)
        have q10 := hR 10 (by decide)
        change vs 0 = .pointer (some ⟨w.heap.size, 8, none⟩) at q0
        change vs 1 = .agg (bv h.src).toArray at q1
        change vs 2 = str h.src at q2
        change vs 3 = .pointer (some ⟨w.heap.size, 12, none⟩) at q3
        change vs 4 = .agg (bv h.dst).toArray at q4
        change vs 5 = str h.dst at q5
        change vs 6 = str (h.src ++ h.dst) at q6
        change vs 7 = .pointer (some ⟨w.heap.size, 16, none⟩) at q7
        change vs 8 = str h.opt at q8
        change vs 9 = str (h.src ++ h.dst ++ h.opt) at q9
        change vs 10 = str (h.src ++ h.dst ++ h.opt) at q10
        simp only [putAll, Act.put, List.setIfInBounds_toArray, List.set_cons_zero, List.set_cons_succ, q0, q1, q2, q3, q4, q5, q6, q7, q8, q9, q10]
        clear q0 q1 q2 q3 q4 q5 q6 q7 q8 q9 q10
        clear hR
        have hB4 := bthen (bthen hB2 HW3.out) (bthen (below_drew _) (grow_below hX4))
        rw [show h.src ++ h.dst ++ h.opt = bk4 h from rfl]
        have hXl := hdA_length h all
        have hYl := HLB.out
        generalize hX : hdA h all = X at hXl HCs HRES ⊢
        generalize hY : bk4 h = Y at hYl HCs HRES ⊢
        clear hX hY HEQ hX4
        have hXY := ba_cat X Y
        have HXL := Lib.hid hXl
        have hXl' : X.length ≤ 10 := by omega
        clear hXl
        go_wp2_with fail
        refine (rof_any (X ++ Y) _ (by rw [List.length_append]; omega)).mono ?_
        rintro e w' ⟨rfl, rfl⟩
        rw [HCs.out]
        have hu64 : IntKind.u64.wrap (Cs : Int) = (Cs : Int) := wrap64_id _ (by omega) (by omega)
        clear hXY
        go_wp2_with fail
        refine (bytes_any (Cs : Int) 2 _ (by omega) (by omega) (by omega) (by omega)).mono ?_
        rintro e w5 ⟨rfl, hb5⟩
        rw [show toBe (2 : Int).toNat (Cs : Int).toNat = toBe 2 Cs by simp]
        have hTl : (toBe 2 Cs).length ≤ 2 := by rw [toBe_length]; omega
        generalize hT : toBe 2 Cs = T at hTl HRES ⊢
        clear hT
        have hc1 := ba_cat X T
        have hc2 := ba_cat (X ++ T) Y
        have hc3 := ba_cat (X ++ T ++ Y) l
        go_wp2_with fail
        go_ret2
        rw [HRES.out]
        exact ⟨by simp [ba_append], bthen hB4 hb5⟩

theorem rput4_any (h : H4) (hf : h.fit) (l : List UInt8) (w : World) (hn : l.length ≤ 1099511627776) :
    Calls Tryd.prog 26 #[.agg h.cells.toArray, str l] w fun e w' => e = .returned (.tuple #[str (put4 h l).1, .int .i64 (put4 h l).2]) ∧ Below w.heap.size w w' := by
  unfold put4
  by_cases hx : h.bad
  · rw [if_pos hx]
    exact rput4_arg h hf l w hn hx
  · rw [if_neg hx]
    by_cases hl : 65535 < 20 + h.opt.length + l.length
    · rw [if_pos hl]
      exact rput4_len h hf l w hn hx hl
    · rw [if_neg hl]
      unfold pkt4
      exact rput4_ok h hf l w hx _ rfl (by omega) _ _ rfl rfl
end Go.Proofs.YtckbleiikldloaaDoor

/- Headers of IPv6 as cells: made, compared, and the reference's and the program's reading of bytes as one. No condition. -/
namespace Go.Proofs.YtckbleiikldloaaDoor
open Go.RowKit
set_option linter.unusedVariables false
set_option maxRecDepth 20000

/-- a header -/
structure H6 where
  cls : Int
  flow : Int
  len : Int
  next : Int
  ttl : Int
  src : List UInt8
  dst : List UInt8
def H6.cells (h : H6) : List Value := .int .u8 h.cls :: .int .i64 h.flow :: .int .i64 h.len :: .int .u8 h.next :: .int .u8 h.ttl :: (bv h.src ++ bv h.dst)
def z16 : List UInt8 := [0, 0, 0, 0, 0, 0, 0, 0, 0, 0, 0, 0, 0, 0, 0, 0]
def H6.zero : H6 := ⟨0, 0, 0, 0, 0, z16, z16⟩
structure H6.ok (h : H6) : Prop where
  src : h.src.length = 16
  dst : h.dst.length = 16
theorem H6.zero_ok : H6.zero.ok := ⟨rfl, rfl⟩
theorem H6.cells_length (h : H6) (ho : h.ok) : h.cells.length = 37 := by simp [H6.cells, bv_length, ho.src, ho.dst]
theorem H6.cells_same (h k : H6) (ho : h.ok) (ko : k.ok) : h.cells.length = k.cells.length := by rw [h.cells_length ho, k.cells_length ko]
theorem H6.one (h : H6) : ∀ v ∈ h.cells, v.oneCell' = true := by
  intro v hv
  simp only [H6.cells, List.mem_cons, List.mem_append] at hv
  rcases hv with rfl | rfl | rfl | rfl | rfl | hv | hv
  · rfl
  · rfl
  · rfl
  · rfl
  · rfl
  · exact bv_one _ v hv
  · exact bv_one _ v hv
theorem H6.drop_src (h : H6) (ho : h.ok) : (h.cells.drop 5).take 16 = bv h.src := by
  simp only [H6.cells, List.drop_succ_cons, List.drop_zero]
  exact List.take_left' (by rw [bv_length, ho.src])
theorem H6.drop_dst (h : H6) (ho : h.ok) : (h.cells.drop 21).take 16 = bv h.dst := by
  simp only [H6.cells, List.drop_succ_cons]
  rw [List.drop_left' (by rw [bv_length, ho.src])]
  exact List.take_of_length_le (by rw [bv_length, ho.dst]; omega)
theorem H6.put_src (h : H6) (ho : h.ok) (l : List UInt8) (hl : l.length = 16) : h.cells.take 5 ++ bv l ++ h.cells.drop (5 + (bv l).length) = { h with src := l }.cells := by
  rw [bv_length, hl]
  simp only [H6.cells, List.take_succ_cons, List.take_zero, List.drop_succ_cons, List.cons_append, List.nil_append]
  rw [List.drop_left' (by rw [bv_length, ho.src])]
theorem H6.put_dst (h : H6) (ho : h.ok) (l : List UInt8) (hl : l.length = 16) : h.cells.take 21 ++ bv l ++ h.cells.drop (21 + (bv l).length) = { h with dst := l }.cells := by
  rw [List.drop_of_length_le (by rw [h.cells_length ho, bv_length, hl]; omega)]
  simp only [H6.cells, List.take_succ_cons, List.cons_append, List.append_nil]
  rw [List.take_left' (by rw [bv_length, ho.src])]
end Go.Proofs.YtckbleiikldloaaDoor

/- What the program's and the reference's reading of bytes as a header of IPv6 computes. No condition but sizes. -/
namespace Go.Proofs.YtckbleiikldloaaDoor
open Go.RowKit
set_option linter.unusedVariables false
set_option maxRecDepth 20000

/-- the header that bytes begin with, and its error -/
def par6 (l : List UInt8) : H6 × Int :=
  if l.length < 40 then (H6.zero, 10) else
  if numF l 0 4 / 268435456 ≠ 6 then (H6.zero, 12) else
  if l.length < numF l 4 2 + 40 then (H6.zero, 13) else
  (⟨(numF l 0 4 / 1048576 % 256 : Nat), (numF l 0 4 % 1048576 : Nat), (numF l 4 2 : Nat), ((l.getD 6 0).toNat : Nat), ((l.getD 7 0).toNat : Nat), (l.drop 8).take 16, (l.drop 24).take 16⟩, 0)
theorem par6_ok (l : List UInt8) : (par6 l).1.ok := by
  unfold par6
  repeat' split
  · exact H6.zero_ok
  · exact H6.zero_ok
  · exact H6.zero_ok
  · rename_i h1 h2 h3
    exact ⟨by simp; omega, by simp; omega⟩

theorem i64_mask20 (F : Nat) (h : F < 4294967296) : bits .and .i64 (F : Int) 1048575 = ((F % 1048576 : Nat) : Int) := by
  have hm : (BitVec.ofInt 64 1048575).toNat = 2 ^ 20 - 1 := by decide
  have key : (BitVec.ofInt 64 (F : Int) &&& BitVec.ofInt 64 1048575).toNat = ((F : Int) % ((2 ^ 64 : Nat) : Int)).toNat % 2 ^ 20 := by
    rw [BitVec.toNat_and, BitVec.toNat_ofInt, hm, Nat.and_two_pow_sub_one_eq_mod]
  show IntKind.i64.wrap ((BitVec.ofInt 64 (F : Int) &&& BitVec.ofInt 64 1048575).toNat : Nat) = _
  rw [key, IntKind.wrap_i64]
  omega
end Go.Proofs.YtckbleiikldloaaDoor

/- What the reference's Address and Text of sixteen bytes compute. No condition but sizes. -/
namespace Go.Proofs.YtckbleiikldloaaDoor
open Go.RowKit
set_option linter.unusedVariables false
set_option maxRecDepth 20000
set_option linter.unusedSimpArgs false
end Go.Proofs.YtckbleiikldloaaDoor

/- What the reference's reading of bytes as a header of IPv6 computes. No condition but sizes. -/
namespace Go.Proofs.YtckbleiikldloaaDoor
open Go.RowKit
set_option linter.unusedVariables false
set_option maxRecDepth 20000
set_option linter.unusedSimpArgs false
end Go.Proofs.YtckbleiikldloaaDoor

/- What the program's and the reference's Body, Ttl and Put of IPv6 compute. No condition but sizes. -/
namespace Go.Proofs.YtckbleiikldloaaDoor
open Go.RowKit
set_option linter.unusedVariables false
set_option maxRecDepth 20000
set_option linter.unusedSimpArgs false

/-- what stands behind the header -/
def body6 (l : List UInt8) : List UInt8 := if (par6 l).2 = 0 then (l.drop 40).take (par6 l).1.len.toNat else []
theorem par6_fit (l : List UInt8) (h6 : H6) (hp : par6 l = (h6, 0)) : 0 ≤ h6.len ∧ 40 + h6.len ≤ l.length ∧ 40 ≤ l.length := by
  unfold par6 at hp
  split at hp
  · injection hp with _ h; cases h
  split at hp
  · injection hp with _ h; cases h
  split at hp
  · injection hp with _ h; cases h
  rename_i h1 h2 h3
  injection hp with h _
  subst h
  simp only
  omega

/-- a packet with another time to live -/
def ttl6 (l : List UInt8) (t : Int) : List UInt8 := if (par6 l).2 = 0 then l.take 7 ++ UInt8.ofNat t.toNat :: l.drop 8 else []
end Go.Proofs.YtckbleiikldloaaDoor

/- What the program's and the reference's Put of IPv6 compute. No condition but sizes. -/
namespace Go.Proofs.YtckbleiikldloaaDoor
open Go.RowKit
set_option linter.unusedVariables false
set_option maxRecDepth 20000
set_option linter.unusedSimpArgs false

/-- a header's numbers are those of its fields' kinds -/
structure H6.fit (h : H6) : Prop where
  ok : h.ok
  cls : 0 ≤ h.cls ∧ h.cls ≤ 255
  flow : -9223372036854775808 ≤ h.flow ∧ h.flow ≤ 9223372036854775807
  len : -9223372036854775808 ≤ h.len ∧ h.len ≤ 9223372036854775807
  next : 0 ≤ h.next ∧ h.next ≤ 255
  ttl : 0 ≤ h.ttl ∧ h.ttl ≤ 255
/-- the front of a header -/
def front6 (h : H6) (n : Nat) : List UInt8 := toBe 4 (1610612736 + h.cls * 1048576 + h.flow).toNat ++ toBe 2 n ++ [ub h.next, ub h.ttl]
/-- a packet, and its error -/
def put6 (h : H6) (l : List UInt8) : List UInt8 × Int :=
  if h.flow < 0 ∨ 1048576 ≤ h.flow then ([], 1) else if 65495 < l.length then ([], 13) else (front6 h l.length ++ h.src ++ h.dst ++ l, 0)

theorem or6 (c f : Int) (c0 : 0 ≤ c) (c1 : c ≤ 255) (f0 : 0 ≤ f) (f1 : f < 1048576) :
    bits .or .u64 1610612736 (c * 1048576) = 1610612736 + c * 1048576 ∧ bits .or .u64 (1610612736 + c * 1048576) f = 1610612736 + c * 1048576 + f := by
  obtain ⟨c, rfl⟩ := Int.eq_ofNat_of_zero_le c0
  obtain ⟨f, rfl⟩ := Int.eq_ofNat_of_zero_le f0
  refine ⟨?_, ?_⟩
  · rw [show (1610612736 : Int) = ((6 * 268435456 : Nat) : Int) by omega, show ((c : Int) * 1048576) = ((c * 1048576 : Nat) : Int) by omega, u64_or_nat _ _ (by omega) (by omega), nat_join 28 _ _ (by omega) (by omega)]
    omega
  · rw [show (1610612736 + (c : Int) * 1048576) = (((1536 + c) * 1048576 : Nat) : Int) by omega, u64_or_nat _ _ (by omega) (by omega), nat_join 20 _ _ (by omega) (by omega)]
    omega
theorem make8 (W : World) : (Instr.makeSlice 22 (.int .i64 8) (.int .i64 8)).run Tryd.prog W = .ok (.slice (some ⟨W.heap.size, 0, none⟩) 8 8) (W.alloc (.cells (bv [0, 0, 0, 0, 0, 0, 0, 0]).toArray 5)) := by kernel_rfl

theorem set2_bv (l : List UInt8) (x y : Int) (h : l.length = 8) (x0 : 0 ≤ x) (x1 : x ≤ 255) (y0 : 0 ≤ y) (y1 : y ≤ 255) : ((bv l).set 6 (.int .u8 x)).set 7 (.int .u8 y) = bv (l.take 6 ++ [ub x, ub y]) := by
  rw [set_bv l 6 x x0 x1 (by omega), set_bv _ 7 y y0 y1 (by simp; omega)]
  congr 1
  have h7 : (l.take 6 ++ UInt8.ofNat x.toNat :: l.drop 7) = l.take 6 ++ [UInt8.ofNat x.toNat] ++ l.drop 7 := by simp
  rw [h7, List.take_left' (by simp; omega), List.drop_of_length_le (by simp; omega)]
  simp [ub]
end Go.Proofs.YtckbleiikldloaaDoor

/- What the reference's Put of IPv6 computes. No condition but sizes. -/
namespace Go.Proofs.YtckbleiikldloaaDoor
open Go.RowKit
set_option linter.unusedVariables false
set_option maxRecDepth 20000
set_option linter.unusedSimpArgs false
end Go.Proofs.YtckbleiikldloaaDoor

/- What the small functions of the references 23 and 24 compute. No condition but sizes. -/
namespace Go.Proofs.YtckbleiikldloaaDoor
open Go.RowKit
set_option linter.unusedVariables false
set_option maxRecDepth 20000
set_option linter.unusedSimpArgs false

def frontK (k : Int) : List UInt8 := if k = 0 then [11, 0] else if k = 1 then [3, 4] else [3, 0]
def zerosN (n : Nat) : List UInt8 := List.replicate n 0
def begin23 (s : List UInt8) (full : Bool) : List UInt8 := if 128 < s.length then s.take 128 else if full then s ++ zerosN (128 - s.length) else s
def begin24 (s : List UInt8) (full : Bool) : List UInt8 := if full then begin23 s true else s.take 1232
theorem frontK_length (k : Int) : (frontK k).length = 2 := by
  unfold frontK
  split
  · rfl
  · split <;> rfl
theorem begin23_le (s : List UInt8) (f : Bool) : (begin23 s f).length ≤ 128 := by
  unfold begin23
  split
  · simp; omega
  · split
    · simp [zerosN]; omega
    · omega
theorem begin24_le (s : List UInt8) (f : Bool) : (begin24 s f).length ≤ 1232 := by
  unfold begin24
  split
  · have := begin23_le s true; omega
  · simp; omega

set_option maxHeartbeats 1000000 in
theorem front_any (k : Int) (h0 : 0 ≤ k) (h2 : k ≤ 2) (w : World) :
    Calls Tryd.prog 25 #[.int .i64 k] w fun e w' => e = .returned (str (frontK k)) ∧ Below w.heap.size w w' := by
  rcases (show k = 0 ∨ k = 1 ∨ k = 2 by omega) with rfl | rfl | rfl
  all_goals
    go_enter Tryd.func25, Tryd.ntmps25
    go_wp2_with fail
    go_ret
    exact ⟨rfl, (Below.refl _ _).alloc (Nat.le_refl _) _⟩

set_option maxHeartbeats 1000000 in
theorem zeros_any (n : Nat) (hn : n ≤ 1000) (w : World) :
    Calls Tryd.prog 39 #[.int .i64 (n : Int)] w fun e w' => e = .returned (str (zerosN n)) ∧ w = w' := by
  go_enter Tryd.func39, Tryd.ntmps39
  go_wp2_with fail
  go_loop [3, 4] (fun s i => ∃ k : Nat, k ≤ n ∧ i = .int .i64 k ∧ s = str (zerosN k)) (fun _ i => n - (intOf i).toNat)
  case atStart => exact ⟨0, by omega, rfl, rfl⟩
  case round =>
    obtain ⟨k, hk, rfl, rfl⟩ := hrel
    by_cases hlt : k < n
    · have hz : (zerosN k).length = k := by simp [zerosN]
      have HZ : Hid (zerosN (k + 1) = zerosN k ++ [0]) := Lib.hid (by simp [zerosN, List.replicate_succ'])
      obtain ⟨S, hS⟩ : ∃ S, zerosN k = S := ⟨_, rfl⟩
      rw [hS] at hz HZ ⊢
      clear hS
      go_wp2_with (refine wpList_value (by rfl) (exec_add _ _ _ _ rfl Tryd.underlying9 S [0] rfl rfl (by simp; omega)) ?_)
      go_round
      case rel => exact ⟨k + 1, by omega, by simp, by rw [HZ.out]⟩
      case measure => simp [intOf]; omega
    · obtain rfl : k = n := by omega
      go_wp2_with fail
      go_ret
      exact ⟨rfl, rfl⟩

set_option maxHeartbeats 1000000 in
theorem begin23_any (s : List UInt8) (full : Bool) (hn : s.length ≤ 1099511627776) (w : World) :
    Calls Tryd.prog 16 #[str s, .bool full] w fun e w' => e = .returned (str (begin23 s full)) ∧ w = w' := by
  by_cases h : 128 < s.length
  · have h' : (128 : Int) < (s.length : Int) := by omega
    have h3 : ¬ (s.length : Int) < 128 := by omega
    have hv : begin23 s full = s.take 128 := by unfold begin23; rw [if_pos h]
    have HV := Lib.hid hv
    clear hv
    go_enter Tryd.func16, Tryd.ntmps16
    go_wp2_with fail
    go_ret
    exact ⟨by rw [HV.out]; simp [str_ex], rfl⟩
  · have h' : ¬ (128 : Int) < (s.length : Int) := by omega
    cases full
    · have hv : begin23 s false = s := by unfold begin23; rw [if_neg h]; rfl
      have HV := Lib.hid hv
      clear hv
      go_enter Tryd.func16, Tryd.ntmps16
      go_wp2_with fail
      go_ret
      exact ⟨by rw [HV.out]; rfl, rfl⟩
    · have hv : begin23 s true = s ++ zerosN (128 - s.length) := by unfold begin23; rw [if_neg h]; rfl
      have HV := Lib.hid hv
      clear hv
      obtain ⟨m, hm⟩ : ∃ m, 128 - s.length = m := ⟨_, rfl⟩
      rw [hm] at HV
      have hmi : (128 : Int) - (s.length : Int) = (m : Int) := by omega
      have hwr : IntKind.i64.wrap ((128 : Int) - (s.length : Int)) = (m : Int) := by rw [IntKind.wrap_i64]; omega
      have hzl : (zerosN m).length = m := by simp [zerosN]
      go_enter Tryd.func16, Tryd.ntmps16
      go_wp2_with fail
      refine (zeros_any m (by omega) w).mono ?_
      rintro e w' ⟨rfl, rfl⟩
      obtain ⟨Z, hZ⟩ : ∃ Z, zerosN m = Z := ⟨_, rfl⟩
      rw [hZ] at HV hzl ⊢
      go_wp2_with (refine wpList_value (by rfl) (exec_add _ _ _ _ rfl Tryd.underlying9 s Z rfl rfl (by omega)) ?_)
      go_ret
      exact ⟨by rw [HV.out]; rfl, rfl⟩
end Go.Proofs.YtckbleiikldloaaDoor


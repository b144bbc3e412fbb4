/- Texts of this claim put together, in build order: each one's own remark stands ahead of it. -/
import Derived.Test.YtckbleiikldloaaDoorG13
import Derived.Test.YtckbleiikldloaaDoorG03
/- What the program's and the reference's Body and Ttl of IPv4 compute. No condition but sizes. -/
namespace Go.Proofs.YtckbleiikldloaaDoor
open Go.RowKit
set_option linter.unusedVariables false
set_option maxRecDepth 20000
set_option linter.unusedSimpArgs false

/-- what stands behind the header -/
def body4 (l : List UInt8) : List UInt8 := if (par4 l).2 = 0 then (l.take (par4 l).1.len.toNat).drop (20 + (par4 l).1.opt.length) else []
theorem par4_fit (l : List UInt8) (h4 : H4) (hp : par4 l = (h4, 0)) : ∃ L S : Nat, h4.len = (L : Nat) ∧ 20 + h4.opt.length = S ∧ S ≤ L ∧ L ≤ l.length ∧ 20 ≤ l.length ∧ S ≤ 60 ∧ numF l 2 2 = L := by
  unfold par4 at hp
  split at hp
  · injection hp with _ h; cases h
  split at hp
  · injection hp with _ h; cases h
  split at hp
  · injection hp with _ h; cases h
  split at hp
  · injection hp with _ h; cases h
  rename_i h1 h2 h3 h5
  injection hp with h _
  subst h
  refine ⟨numF l 2 2, 20 + ((l.take (size4n l)).drop 20).length, rfl, rfl, ?_, ?_, ?_, ?_, rfl⟩
  all_goals try simp only [List.length_drop, List.length_take]
  · omega
  · omega
  · omega
  · have : size4n l ≤ 60 := by unfold size4n; omega
    omega
theorem addr_add (b o k : Nat) : Option.map (fun x : Addr => x.add k) (some ⟨b, o, none⟩) = some ⟨b, o + k, none⟩ := by
  show some (Addr.add ⟨b, o, none⟩ k) = _
  unfold Addr.add
  split
  · rename_i h0; rw [h0]; rfl
  · rfl

set_option maxHeartbeats 4000000 in
theorem body4_any (A : Option Addr) (n c : Nat) (l : List UInt8) (w : World) (h : Row w w.heap.size 1 A n (bv l)) (hc : n ≤ c) (hcm : c ≤ maxLen) (hn : n ≤ 1099511627776) :
    Calls Tryd.prog 37 #[.slice A n c] w fun e w' => ∃ r : Bs, e = .returned r.v ∧ r.l = body4 l ∧ r.ok w' ∧ Below w.heap.size w w' := by
  have hll : l.length = n := by have := h.1; rw [bv_length] at this; omega
  have P := parse4_any A n c l w h hc hcm hn
  have hok := par4_ok l
  unfold body4
  cases hp : par4 l with
  | mk h4 er =>
  rw [hp] at P hok
  simp only at P hok ⊢
  have HP := Lib.hid P
  have HOK := Lib.hid hok
  have HPP := Lib.hid hp
  have HH := Lib.hid h
  have HLL := Lib.hid hll
  clear P hok hp h hll
  by_cases he : er = 0
  · subst he
    obtain ⟨L, S, hLen, hS, f1, f2, f3, f4, _⟩ := par4_fit l h4 HPP.out
    have f2' : L ≤ n := by rw [← HLL.out]; exact f2
    have f3' : 20 ≤ n := by rw [← HLL.out]; exact f3
    obtain ⟨b, o, rfl, hbB, _⟩ := HH.out.2 (by omega)
    rw [hLen, if_pos rfl, hS, Int.toNat_natCast]
    have HLen := Lib.hid hLen
    clear hLen
    have HSL : Hid (∀ W : World, Below w.heap.size w W → ∀ A cc, L - S ≤ cc → cc ≤ maxLen → (A = some ⟨b, o + S, none⟩ ∨ L = S) → (Bs.mk A (L - S) cc ((l.take L).drop S)).ok W) := Lib.hid fun W hW A cc h1 h2 h3 => by
      rcases h3 with rfl | h3
      · have hr := ((HH.out.below hW).more hW.size).sub1 (i := S) (k := L - S) (by omega)
        rw [← bv_drop, ← bv_take, addr_add] at hr
        refine ⟨?_, h1, h2⟩
        rw [List.drop_take]
        exact hr
      · refine ⟨?_, h1, h2⟩
        have e : (l.take L).drop S = [] := List.drop_of_length_le (by rw [List.length_take]; omega)
        show Row W W.heap.size 1 A (L - S) (bv ((l.take L).drop S))
        rw [e, show L - S = 0 by omega]
        exact Row.nil _ _ _ _
    have HCS : Hid (¬ c = S ∨ c = S ∧ L = S) := Lib.hid (by omega)
    have kSL : (S : Int) ≤ (L : Int) := by omega
    have kLc : (L : Int) ≤ (c : Int) := by omega
    go_enter Tryd.func37, Tryd.ntmps37
    go_wp2_with fail
    refine HP.out.mono ?_
    rintro e w1 ⟨rfl, hb1⟩
    go_wp2_with (first
    | (refine wpList_alloc_blk rfl 56 rfl H4.zero.cells zero4 ?_; intro w2 hbw2 hBw2 hsw2)
    | (refine wpList_store_all rfl 56 _ _ rfl w1.heap.size h4.cells rfl rfl 56 _ hbw2 (size4 _ HOK.out) (H4.cells_same _ _ HOK.out H4.zero_ok) (H4.one _) ?_; intro w3 hbw3 hgw3 hsw3; have hBw3 : Below w1.heap.size w1 w3 := bgrown hBw2 hgw3 (by omega) (by omega)))
    have hB3 := bthen hb1 hBw3
    refine wp_region_rel (fun A B => A.grownBy B none) (fun A => grown_refl A _) (fun A B C h k => grown_trans h k) (relAt (List.cons (fun v _ => v = .slice (some ⟨b, o, none⟩) n c) (List.cons (fun v _ => v = .agg h4.cells.toArray) (List.cons (fun v _ => v = .int .i64 (S : Int)) (List.cons (fun v _ => v = .pointer (some ⟨w1.heap.size, 1, none⟩)) (List.cons (fun v _ => v = .int .i64 (L : Int)) (List.cons (fun v _ => ∃ A' cc, v = .slice A' (L - S) cc ∧ ∀ W' : World, Below w.heap.size w W' → (Bs.mk A' (L - S) cc ((l.take L).drop S)).ok W') (List.cons (BsR ((l.take L).drop S)) (List.cons (BsR ((l.take L).drop S)) ([])))))))))) (MonoL.at_ (.cons (mono_val _) (.cons (mono_val _) (.cons (mono_val _) (.cons (mono_val _) (.cons (mono_val _) (.cons (fun _ _ _ h _ => h) (.cons (mono_bs _) (.cons (mono_bs _) .nil))))))))) (by kernel_rfl) (by kernel_rfl) ⟨?_, ?_, ?_, ?_, ?_, ?_, ?_, ?_, trivial⟩ ?_
    · intro a vs W hX hR he hf K hK
      rw [if_pos (wanted_none rfl)]
      have e0 : a.eval (.tmp 0) = .slice (some ⟨b, o, none⟩) n c := hf 0 (by kernel_rfl)
      refine wp_value (v := .slice (some ⟨b, o, none⟩) n c) ?_ (hK _ _ rfl (grown_refl W _))
      simp only [execOp, e0]
      try go_simp
      try (first | rfl | omega | (simp only [IntKind.wrap_i64, IntKind.wrap_u8, IntKind.wrap_u64, IntKind.wrap_u16, IntKind.wrap_u32]; omega) | (rw [Int.tmod_eq_emod_of_nonneg (by omega)]) | (rw [Int.tmod_eq_emod_of_nonneg (by omega)]; omega))
    · intro a vs W hX hR he hf K hK
      rw [if_pos (wanted_none rfl)]
      have e3 : a.eval (.tmp 3) = .pointer (some ⟨w1.heap.size, 0, none⟩) := hf 3 (by kernel_rfl)
      have hbW := bthen (below_drew _) (grow_below hX)
      exact wp_value (exec_load 56 _ rfl w1.heap.size e3 56 h4.cells _ (hbw3.on hbW) Tryd.underlying56 rfl (size4 _ HOK.out)) (hK _ _ rfl (grown_refl W _))
    · intro a vs W hX hR he hf K hK
      rw [if_pos (wanted_none rfl)]
      have e13 : a.eval (.tmp 13) = .agg h4.cells.toArray := (he 1 13 (by kernel_rfl) rfl).trans (hR 1 (by kernel_rfl))
      refine wp_enter (f := 42) (args := #[.agg h4.cells.toArray]) (by simp only [execOp, e13]; go_simp; simpa [Act.eval] using e13) ((size4_any h4 HOK.out W (by omega)).mono ?_)
      rintro e w' ⟨rfl, hb⟩
      rw [show (20 + (h4.opt.length : Int)) = (S : Int) by omega]
      exact ⟨_, rfl, hK _ _ rfl (below_grow hb _)⟩
    · intro a vs W hX hR he hf K hK
      rw [if_pos (wanted_none rfl)]
      have e3 : a.eval (.tmp 3) = .pointer (some ⟨w1.heap.size, 0, none⟩) := hf 3 (by kernel_rfl)
      refine wp_value (v := .pointer (some ⟨w1.heap.size, 1, none⟩)) ?_ (hK _ _ rfl (grown_refl W _))
      simp only [execOp, e3]
      try go_simp
      try (first | rfl | omega | (simp only [IntKind.wrap_i64, IntKind.wrap_u8, IntKind.wrap_u64, IntKind.wrap_u16, IntKind.wrap_u32]; omega) | (rw [Int.tmod_eq_emod_of_nonneg (by omega)]) | (rw [Int.tmod_eq_emod_of_nonneg (by omega)]; omega))
    · intro a vs W hX hR he hf K hK
      rw [if_pos (wanted_none rfl)]
      have e15 : a.eval (.tmp 15) = .pointer (some ⟨w1.heap.size, 1, none⟩) := (he 3 15 (by kernel_rfl) rfl).trans (hR 3 (by kernel_rfl))
      have hbW := bthen (below_drew _) (grow_below hX)
      have hc : W.cell? ⟨w1.heap.size, 1, none⟩ = some (.int .i64 (L : Int)) := ((hbw3.on hbW).cell 1).trans (congrArg (fun x => some (Value.int .i64 x)) HLen.out)
      refine wp_value (v := _) ?_ (hK _ _ rfl (grown_refl W _))
      simp only [execOp, e15]
      try go_simp
    · intro a vs W hX hR he hf K hK
      rw [if_pos (wanted_none rfl)]
      have e12 : a.eval (.tmp 12) = .slice (some ⟨b, o, none⟩) n c := (he 0 12 (by kernel_rfl) rfl).trans (hR 0 (by kernel_rfl))
      have e14 : a.eval (.tmp 14) = .int .i64 (S : Int) := (he 2 14 (by kernel_rfl) rfl).trans (hR 2 (by kernel_rfl))
      have e16 : a.eval (.tmp 16) = .int .i64 (L : Int) := (he 4 16 (by kernel_rfl) rfl).trans (hR 4 (by kernel_rfl))
      have f12 := e12
      simp only [Act.eval, Array.getD_eq_getD_getElem?] at f12
      have f14 := e14
      simp only [Act.eval, Array.getD_eq_getD_getElem?] at f14
      have f16 := e16
      simp only [Act.eval, Array.getD_eq_getD_getElem?] at f16
      rcases HCS.out with hcS | ⟨hcS, hLS⟩
      · refine wp_value (v := .slice (some ⟨b, o + S, none⟩) (L - S) (c - S)) ?_ (hK _ _ ⟨_, _, rfl, fun W' hW' => HSL.out W' hW' _ _ (by omega) (by omega) (.inl rfl)⟩ (grown_refl W _))
        simp only [execOp, e12]
        go_simp
      · refine wp_value (v := .slice (some ⟨b, o, none⟩) (L - S) 0) ?_ (hK _ _ ⟨_, _, rfl, fun W' hW' => HSL.out W' hW' _ _ (by omega) (by omega) (.inr hLS)⟩ (grown_refl W _))
        subst hcS
        simp only [execOp, e12]
        go_simp
        try rw [if_pos (by omega)]
    · intro a vs W hX hR he hf K hK
      rw [if_pos (wanted_none rfl)]
      have e17 := he 5 17 (by kernel_rfl) rfl
      have p17 := hR 5 (by kernel_rfl)
      change (fun v _ => ∃ A' cc, v = .slice A' (L - S) cc ∧ ∀ W' : World, Below w.heap.size w W' → (Bs.mk A' (L - S) cc ((l.take L).drop S)).ok W') (vs 5) W at p17
      obtain ⟨A', cc, hv, ho⟩ := p17
      rw [hv] at e17
      have hbW := bthen hB3 (bthen (below_drew _) (grow_below hX))
      refine wp_enter (f := 65) (args := #[.slice A' (L - S) cc]) (by simp only [execOp, e17]; go_simp; simpa [Act.eval] using e17) ((clone_bytes A' (L - S) cc _ W (ho W hbW).row (by omega)).mono ?_)
      rintro e w' ⟨A2, c2, rfl, hown, hb⟩
      exact ⟨_, rfl, hK _ _ ⟨A2, _, c2, rfl, hown.ok⟩ (below_grow hb _)⟩
    · intro a vs W hX hR he hf K hK
      rw [if_pos (wanted_none rfl)]
      have e18 := he 6 18 (by kernel_rfl) rfl
      have p18 := hR 6 (by kernel_rfl)
      change (BsR ((l.take L).drop S)) (vs 6) W at p18
      refine wp_value (v := _) ?_ (hK _ _ p18 (grown_refl W _))
      simp only [execOp, e18]
      try go_simp
    · intro vs w4 hX4 hR
      have q0 := hR 0 (by decide)
      have q1 := hR 1 (by decide)
      have q2 := hR 2 (by decide)
      have q3 := hR 3 (by decide)
      have q4 := hR 4 (by decide)
      have q5 := hR 5 (by decide)
      have q6 := hR 6 (by decide)
      have q7 := hR 7 (by decide)
      change vs 0 = .slice (some ⟨b, o, none⟩) n c at q0
      change vs 1 = .agg h4.cells.toArray at q1
      change vs 2 = .int .i64 (S : Int) at q2
      change vs 3 = .pointer (some ⟨w1.heap.size, 1, none⟩) at q3
      change vs 4 = .int .i64 (L : Int) at q4
      change (fun v _ => ∃ A' cc, v = .slice A' (L - S) cc ∧ ∀ W' : World, Below w.heap.size w W' → (Bs.mk A' (L - S) cc ((l.take L).drop S)).ok W') (vs 5) w4 at q5
      change (BsR ((l.take L).drop S)) (vs 6) w4 at q6
      change (BsR ((l.take L).drop S)) (vs 7) w4 at q7
      simp only [putAll, Act.put, List.setIfInBounds_toArray, List.set_cons_zero, List.set_cons_succ, q0, q1, q2, q3, q4]
      clear q0 q1 q2 q3 q4
      clear hR
      obtain ⟨A9, n9, c9, hv9, ho9⟩ := q7
      rw [hv9]
      go_wp2
      go_ret
      exact ⟨⟨A9, n9, c9, _⟩, rfl, rfl, ho9, bthen hB3 (bthen (below_drew _) (grow_below hX4))⟩
  · have hne : (er != 0) = true := by simpa using he
    rw [if_neg he]
    clear he
    go_enter Tryd.func37, Tryd.ntmps37
    go_wp2_with fail
    refine HP.out.mono ?_
    rintro e w1 ⟨rfl, hb1⟩
    go_wp2_with (first
    | (refine wpList_alloc_blk rfl 56 rfl H4.zero.cells zero4 ?_; intro w2 hbw2 hBw2 hsw2)
    | (refine wpList_store_all rfl 56 _ _ rfl w1.heap.size h4.cells rfl rfl 56 _ hbw2 (size4 _ HOK.out) (H4.cells_same _ _ HOK.out H4.zero_ok) (H4.one _) ?_; intro w3 hbw3 hgw3 hsw3; have hBw3 : Below w1.heap.size w1 w3 := bgrown hBw2 hgw3 (by omega) (by omega)))
    go_ret
    exact ⟨⟨none, 0, 0, []⟩, rfl, rfl, ok_nil _, bthen hb1 hBw3⟩

set_option maxHeartbeats 4000000 in
theorem rbody4_any (l : List UInt8) (w : World) (hn : l.length ≤ 1099511627776) :
    Calls Tryd.prog 32 #[str l] w fun e w' => e = .returned (str (body4 l)) ∧ Below w.heap.size w w' := by
  have P := rparse4_any l w hn
  have hok := par4_ok l
  unfold body4
  cases hp : par4 l with
  | mk h4 er =>
  rw [hp] at P hok
  simp only at P hok ⊢
  have HP := Lib.hid P
  have HOK := Lib.hid hok
  have HPP := Lib.hid hp
  clear P hok hp
  by_cases he : er = 0
  · subst he
    obtain ⟨L, S, hLen, hS, f1, f2, f3, f4, _⟩ := par4_fit l h4 HPP.out
    rw [hLen, if_pos rfl, hS, Int.toNat_natCast]
    have HLen := Lib.hid hLen
    clear hLen
    have kSL : (S : Int) ≤ (L : Int) := by omega
    have kLl : (L : Int) ≤ (l.length : Int) := by omega
    go_enter Tryd.func32, Tryd.ntmps32
    go_wp2_with fail
    refine HP.out.mono ?_
    rintro e w1 ⟨rfl, hb1⟩
    go_wp2_with (first
    | (refine wpList_alloc_blk rfl 56 rfl H4.zero.cells zero4 ?_; intro w2 hbw2 hBw2 hsw2)
    | (refine wpList_store_all rfl 56 _ _ rfl w1.heap.size h4.cells rfl rfl 56 _ hbw2 (size4 _ HOK.out) (H4.cells_same _ _ HOK.out H4.zero_ok) (H4.one _) ?_; intro w3 hbw3 hgw3 hsw3; have hBw3 : Below w1.heap.size w1 w3 := bgrown hBw2 hgw3 (by omega) (by omega)))
    have hB3 := bthen hb1 hBw3
    refine wp_region_rel (fun A B => A.grownBy B none) (fun A => grown_refl A _) (fun A B C h k => grown_trans h k) (relAt (List.cons (fun v _ => v = str l) (List.cons (fun v _ => v = .agg h4.cells.toArray) (List.cons (fun v _ => v = .int .i64 (S : Int)) (List.cons (fun v _ => v = .pointer (some ⟨w1.heap.size, 1, none⟩)) (List.cons (fun v _ => v = .int .i64 (L : Int)) (List.cons (fun v _ => v = str ((l.take L).drop S)) (List.cons (fun v _ => v = str ((l.take L).drop S)) ([]))))))))) (MonoL.at_ (.cons (mono_val _) (.cons (mono_val _) (.cons (mono_val _) (.cons (mono_val _) (.cons (mono_val _) (.cons (mono_val _) (.cons (mono_val _) .nil)))))))) (by kernel_rfl) (by kernel_rfl) ⟨?_, ?_, ?_, ?_, ?_, ?_, ?_, trivial⟩ ?_
    · intro a vs W hX hR he hf K hK
      rw [if_pos (wanted_none rfl)]
      have e0 : a.eval (.tmp 0) = str l := hf 0 (by kernel_rfl)
      refine wp_value (v := str l) ?_ (hK _ _ rfl (grown_refl W _))
      simp only [execOp, e0]
      try go_simp
      try (first | rfl | omega | (simp only [IntKind.wrap_i64, IntKind.wrap_u8, IntKind.wrap_u64, IntKind.wrap_u16, IntKind.wrap_u32]; omega) | (rw [Int.tmod_eq_emod_of_nonneg (by omega)]) | (rw [Int.tmod_eq_emod_of_nonneg (by omega)]; omega))
    · intro a vs W hX hR he hf K hK
      rw [if_pos (wanted_none rfl)]
      have e3 : a.eval (.tmp 3) = .pointer (some ⟨w1.heap.size, 0, none⟩) := hf 3 (by kernel_rfl)
      have hbW := bthen (below_drew _) (grow_below hX)
      exact wp_value (exec_load 56 _ rfl w1.heap.size e3 56 h4.cells _ (hbw3.on hbW) Tryd.underlying56 rfl (size4 _ HOK.out)) (hK _ _ rfl (grown_refl W _))
    · intro a vs W hX hR he hf K hK
      rw [if_pos (wanted_none rfl)]
      have e13 : a.eval (.tmp 13) = .agg h4.cells.toArray := (he 1 13 (by kernel_rfl) rfl).trans (hR 1 (by kernel_rfl))
      refine wp_enter (f := 49) (args := #[.agg h4.cells.toArray]) (by simp only [execOp, e13]; go_simp; simpa [Act.eval] using e13) ((rsize4_any h4 HOK.out W (by omega)).mono ?_)
      rintro e w' ⟨rfl, hb⟩
      rw [show (20 + (h4.opt.length : Int)) = (S : Int) by omega]
      exact ⟨_, rfl, hK _ _ rfl (below_grow hb _)⟩
    · intro a vs W hX hR he hf K hK
      rw [if_pos (wanted_none rfl)]
      have e3 : a.eval (.tmp 3) = .pointer (some ⟨w1.heap.size, 0, none⟩) := hf 3 (by kernel_rfl)
      refine wp_value (v := .pointer (some ⟨w1.heap.size, 1, none⟩)) ?_ (hK _ _ rfl (grown_refl W _))
      simp only [execOp, e3]
      try go_simp
      try (first | rfl | omega | (simp only [IntKind.wrap_i64, IntKind.wrap_u8, IntKind.wrap_u64, IntKind.wrap_u16, IntKind.wrap_u32]; omega) | (rw [Int.tmod_eq_emod_of_nonneg (by omega)]) | (rw [Int.tmod_eq_emod_of_nonneg (by omega)]; omega))
    · intro a vs W hX hR he hf K hK
      rw [if_pos (wanted_none rfl)]
      have e15 : a.eval (.tmp 15) = .pointer (some ⟨w1.heap.size, 1, none⟩) := (he 3 15 (by kernel_rfl) rfl).trans (hR 3 (by kernel_rfl))
      have hbW := bthen (below_drew _) (grow_below hX)
      have hc : W.cell? ⟨w1.heap.size, 1, none⟩ = some (.int .i64 (L : Int)) := ((hbw3.on hbW).cell 1).trans (congrArg (fun x => some (Value.int .i64 x)) HLen.out)
      refine wp_value (v := _) ?_ (hK _ _ rfl (grown_refl W _))
      simp only [execOp, e15]
      try go_simp
    · intro a vs W hX hR he hf K hK
      rw [if_pos (wanted_none rfl)]
      have e12 : a.eval (.tmp 12) = str l := (he 0 12 (by kernel_rfl) rfl).trans (hR 0 (by kernel_rfl))
      have e14 : a.eval (.tmp 14) = .int .i64 (S : Int) := (he 2 14 (by kernel_rfl) rfl).trans (hR 2 (by kernel_rfl))
      have e16 : a.eval (.tmp 16) = .int .i64 (L : Int) := (he 4 16 (by kernel_rfl) rfl).trans (hR 4 (by kernel_rfl))
      have f12 := e12
      simp only [Act.eval, Array.getD_eq_getD_getElem?] at f12
      have f14 := e14
      simp only [Act.eval, Array.getD_eq_getD_getElem?] at f14
      have f16 := e16
      simp only [Act.eval, Array.getD_eq_getD_getElem?] at f16
      refine wp_value (v := _) ?_ (hK _ _ rfl (grown_refl W _))
      simp only [execOp, e12]
      go_simp
      rw [str_ex]
    · intro a vs W hX hR he hf K hK
      rw [if_pos (wanted_none rfl)]
      have e17 : a.eval (.tmp 17) = str ((l.take L).drop S) := (he 5 17 (by kernel_rfl) rfl).trans (hR 5 (by kernel_rfl))
      refine wp_value (v := str ((l.take L).drop S)) ?_ (hK _ _ rfl (grown_refl W _))
      simp only [execOp, e17]
      try go_simp
      try (first | rfl | omega | (simp only [IntKind.wrap_i64, IntKind.wrap_u8, IntKind.wrap_u64, IntKind.wrap_u16, IntKind.wrap_u32]; omega) | (rw [Int.tmod_eq_emod_of_nonneg (by omega)]) | (rw [Int.tmod_eq_emod_of_nonneg (by omega)]; omega))
    · intro vs w4 hX4 hR
      have q0 := hR 0 (by decide)
      have q1 := hR 1 (by decide)
      have q2 := hR 2 (by decide)
      have q3 := hR 3 (by decide)
      have q4 := hR 4 (by decide)
      have q5 := hR 5 (by decide)
      have q6 := hR 6 (by decide)
      change vs 0 = str l at q0
      change vs 1 = .agg h4.cells.toArray at q1
      change vs 2 = .int .i64 (S : Int) at q2
      change vs 3 = .pointer (some ⟨w1.heap.size, 1, none⟩) at q3
      change vs 4 = .int .i64 (L : Int) at q4
      change vs 5 = str ((l.take L).drop S) at q5
      change vs 6 = str ((l.take L).drop S) at q6
      simp only [putAll, Act.put, List.setIfInBounds_toArray, List.set_cons_zero, List.set_cons_succ, q0, q1, q2, q3, q4, q5, q6]
      clear q0 q1 q2 q3 q4 q5 q6
      clear hR
      go_wp2
      go_ret
      exact ⟨rfl, bthen hB3 (bthen (below_drew _) (grow_below hX4))⟩
  · have hne : (er != 0) = true := by simpa using he
    rw [if_neg he]
    clear he
    go_enter Tryd.func32, Tryd.ntmps32
    go_wp2_with fail
    refine HP.out.mono ?_
    rintro e w1 ⟨rfl, hb1⟩
    go_wp2_with (first
    | (refine wpList_alloc_blk rfl 56 rfl H4.zero.cells zero4 ?_; intro w2 hbw2 hBw2 hsw2)
    | (refine wpList_store_all rfl 56 _ _ rfl w1.heap.size h4.cells rfl rfl 56 _ hbw2 (size4 _ HOK.out) (H4.cells_same _ _ HOK.out H4.zero_ok) (H4.one _) ?_; intro w3 hbw3 hgw3 hsw3; have hBw3 : Below w1.heap.size w1 w3 := bgrown hBw2 hgw3 (by omega) (by omega)))
    go_ret
    exact ⟨rfl, bthen hb1 hBw3⟩

/-- a checksum where a word was another one -/
def turnN (c o n : Nat) : Nat := 65535 - foldN (65535 - c + (65535 - o) + n)
theorem turnN_le (c o n : Nat) : turnN c o n ≤ 65535 := by unfold turnN; omega
theorem turnN_eq (c o n : Nat) (h1 : c ≤ 65535) (h2 : o ≤ 65535) : 65535 - foldN (65535 - (c : Int) + (65535 - (o : Int)) + (n : Int)).toNat = turnN c o n := by
  unfold turnN
  congr 2
  omega
/-- a packet with another time to live, ahead of its checksum -/
def ttlA (l : List UInt8) (t : Int) : List UInt8 := l.take 8 ++ ub t :: l.drop 9
/-- its checksum -/
def ttlC (l : List UInt8) (t : Int) : Nat := turnN (numF l 10 2) (numF l 8 2) (numF (ttlA l t) 8 2)
/-- a packet with another time to live -/
def ttl4 (l : List UInt8) (t : Int) : List UInt8 := if (par4 l).2 = 0 then (ttlA l t).take 10 ++ toBe 2 (ttlC l t) ++ (ttlA l t).drop 12 else []
theorem ttlA_length (l : List UInt8) (t : Int) (h : 20 ≤ l.length) : (ttlA l t).length = l.length := by
  unfold ttlA
  simp only [List.length_append, List.length_take, List.length_cons, List.length_drop]
  omega

theorem row_ints {e : TypeId} (w : World) (cs : Array Value) (xs : List Int) (n g : Nat) (h : cs.toList = xs.map (Value.int .i64)) (hn : xs.length = n) (hg : w.heap.size = g) : Row (w.alloc (.cells cs e)) (w.alloc (.cells cs e)).heap.size 1 (some ⟨g, 0, none⟩) n (xs.map (Value.int .i64)) := by
  subst hg
  have hsz : cs.size = n * 1 := by rw [← Array.length_toList, h]; simp [hn]
  have := Row.new (e := e) w cs hsz
  rw [h] at this
  rw [World.size_alloc]
  exact this
/-- a literal row of ints, of its own block, not older than base -/
def IntsR (base k : Nat) (xs : List Int) (v : Value) (W : World) : Prop := ∃ p, v = .slice (some ⟨p, 0, none⟩) k k ∧ base ≤ p ∧ Row W W.heap.size 1 (some ⟨p, 0, none⟩) k (xs.map (Value.int .i64))
theorem mono_ints (base k : Nat) (xs : List Int) : ∀ v A B, IntsR base k xs v A → World.grownBy A B none → IntsR base k xs v B := fun _ _ _ ⟨p, h, hp, hr⟩ hg => ⟨p, h, hp, (hr.below (grow_below hg)).more hg.size⟩
/-- bytes of the call's own, so many -/
def OwnB (base m : Nat) (l : List UInt8) (v : Value) (W : World) : Prop := ∃ A' c', v = .slice A' m c' ∧ Own W base 5 1 A' m c' (bv l)
theorem mono_ownB (base m : Nat) (l : List UInt8) : ∀ v A B, OwnB base m l v A → World.grownBy A B none → OwnB base m l v B := fun _ _ _ ⟨X, c, h, ho⟩ hg => ⟨X, c, h, ho.below (grow_below hg)⟩

theorem ttlA_num (l : List UInt8) (t : Int) (h0 : 0 ≤ t) (h1 : t ≤ 255) (u9 : UInt8) (hu : l[9]? = some u9) : numF (ttlA l t) 8 2 = (256 * t + (u9.toNat : Int)).toNat := by
  have hl : 9 < l.length := (List.getElem?_eq_some_iff.1 hu).1
  have e : ttlA l t = l.take 8 ++ [ub t, u9] ++ l.drop 10 := by
    unfold ttlA
    rw [List.drop_eq_getElem_cons hl]
    have : l[9] = u9 := by
      have := List.getElem?_eq_some_iff.1 hu
      exact this.2
    rw [this]
    simp
  rw [e, numF_mid _ _ _ 8 2 (by rw [List.length_take]; omega) rfl]
  simp only [be, List.foldl_cons, List.foldl_nil]
  have := ub_nat t h0 h1
  omega
theorem ttlA_cut (l : List UInt8) (t : Int) (u9 : UInt8) (hu : l[9]? = some u9) : (ttlA l t).take 10 = l.take 8 ++ [ub t, u9] ∧ (ttlA l t).drop 12 = l.drop 12 := by
  have hl : 9 < l.length := (List.getElem?_eq_some_iff.1 hu).1
  have e : ttlA l t = l.take 8 ++ [ub t, u9] ++ l.drop 10 := by
    unfold ttlA
    rw [List.drop_eq_getElem_cons hl]
    have : l[9] = u9 := by
      have := List.getElem?_eq_some_iff.1 hu
      exact this.2
    rw [this]
    simp
  have h10 : (l.take 8 ++ [ub t, u9]).length = 10 := by simp; omega
  refine ⟨by rw [e]; exact List.take_left' h10, ?_⟩
  rw [e, show (12 : Nat) = 10 + 2 from rfl, ← List.drop_drop, List.drop_left' h10, List.drop_drop]
end Go.Proofs.YtckbleiikldloaaDoor

/- What the program's Put of IPv4 computes. No condition but sizes. -/
namespace Go.Proofs.YtckbleiikldloaaDoor
open Go.RowKit
set_option linter.unusedVariables false
set_option maxRecDepth 20000
set_option linter.unusedSimpArgs false

/-- a header's numbers are those of its fields' kinds -/
structure H4.fit (h : H4) : Prop where
  ok : h.ok
  tos : 0 ≤ h.tos ∧ h.tos ≤ 255
  len : -9223372036854775808 ≤ h.len ∧ h.len ≤ 9223372036854775807
  id : 0 ≤ h.id ∧ h.id ≤ 65535
  off : -9223372036854775808 ≤ h.off ∧ h.off ≤ 9223372036854775807
  ttl : 0 ≤ h.ttl ∧ h.ttl ≤ 255
  pro : 0 ≤ h.pro ∧ h.pro ≤ 255
  opt : h.opt.length ≤ 9223372036854775807
/-- a header may not be put -/
def H4.bad (h : H4) : Prop := 40 < h.opt.length ∨ h.opt.length % 4 ≠ 0 ∨ h.off < 0 ∨ 8192 ≤ h.off
instance (h : H4) : Decidable h.bad := by unfold H4.bad; infer_instance
def flag4 (h : H4) : Int := h.off + (if h.keep then 16384 else 0) + (if h.more then 8192 else 0)
def word0 (h : H4) : Int := (64 + ((20 + h.opt.length : Nat) : Int) / 4) * 256 + h.tos
def word4 (h : H4) : Int := h.ttl * 256 + h.pro
/-- the header's bytes ahead of the checksum, and behind it -/
def hdA (h : H4) (all : Nat) : List UInt8 := twos [word0 h, (all : Int), h.id, flag4 h, word4 h]
def bk4 (h : H4) : List UInt8 := h.src ++ h.dst ++ h.opt
def sumC (h : H4) (all : Nat) : Nat := 65535 - rawN (hdA h all ++ bk4 h)
/-- a packet's header, and a packet -/
def head4 (h : H4) (all : Nat) : List UInt8 := hdA h all ++ toBe 2 (sumC h all) ++ bk4 h
def pkt4 (h : H4) (l : List UInt8) : List UInt8 := head4 h (20 + h.opt.length + l.length) ++ l
def put4 (h : H4) (l : List UInt8) : List UInt8 × Int :=
  if h.bad then ([], 1) else if 65535 < 20 + h.opt.length + l.length then ([], 13) else (pkt4 h l, 0)
theorem hdA_length (h : H4) (all : Nat) : (hdA h all).length = 10 := twos_length _
theorem bk4_length (h : H4) (hk : h.ok) : (bk4 h).length = 8 + h.opt.length := by simp only [bk4, List.length_append, hk.src, hk.dst]
theorem head4_length (h : H4) (hk : h.ok) (all : Nat) : (head4 h all).length = 20 + h.opt.length := by
  simp only [head4, List.length_append, hdA_length, toBe_length, bk4_length h hk]; omega
theorem pkt4_length (h : H4) (hk : h.ok) (l : List UInt8) : (pkt4 h l).length = 20 + h.opt.length + l.length := by
  simp only [pkt4, List.length_append, head4_length h hk]
theorem raw_mid (X Y : List UInt8) (hX : X.length % 2 = 0) : rawN (X ++ [0, 0] ++ Y) = rawN (X ++ Y) := by
  unfold rawN
  rw [sumB_append, sumB_append, sumB_append, sumB_zeros]
  unfold oddB
  simp [hX]

theorem head4_cut (X T Y : List UInt8) (hX : X.length = 10) : (X ++ [0, 0] ++ Y).take 10 ++ T ++ (X ++ [0, 0] ++ Y).drop (10 + 2) = X ++ T ++ Y := by
  rw [List.append_assoc X, List.take_left' hX, ← List.drop_drop, List.drop_left' hX]
  rfl
theorem or_64 (q : Int) (h0 : 0 ≤ q) (h1 : q ≤ 63) : bits .or .i64 64 q = 64 + q := by
  obtain ⟨q, rfl⟩ := Int.eq_ofNat_of_zero_le h0
  have := i64_or_nat 64 q (by omega) (by omega)
  rw [nat_join 6 64 q (by omega) (by omega)] at this
  rw [show (64 : Int) = ((64 : Nat) : Int) from rfl, this]
  omega
theorem or_byte (a b : Int) (h0 : 0 ≤ a) (h1 : a ≤ 65535) (h2 : 0 ≤ b) (h3 : b ≤ 255) : bits .or .i64 (a * 256) b = a * 256 + b := by
  obtain ⟨a, rfl⟩ := Int.eq_ofNat_of_zero_le h0
  obtain ⟨b, rfl⟩ := Int.eq_ofNat_of_zero_le h2
  have := i64_or_nat (a * 256) b (by omega) (by omega)
  rw [nat_join 8 _ _ (by omega) (by omega)] at this
  rw [show (a : Int) * 256 = ((a * 256 : Nat) : Int) by omega, this]
  omega
theorem or_keep (q : Int) (h0 : 0 ≤ q) (h1 : q < 8192) : bits .or .i64 q 16384 = q + 16384 := by
  obtain ⟨q, rfl⟩ := Int.eq_ofNat_of_zero_le h0
  have := i64_or_nat q 16384 (by omega) (by omega)
  rw [Nat.or_comm, nat_join 14 16384 q (by omega) (by omega)] at this
  rw [show (16384 : Int) = ((16384 : Nat) : Int) from rfl, this]
  omega
theorem or_more (q : Int) (h0 : 0 ≤ q) (h1 : q < 8192) : bits .or .i64 q 8192 = q + 8192 := by
  obtain ⟨q, rfl⟩ := Int.eq_ofNat_of_zero_le h0
  have := i64_or_nat q 8192 (by omega) (by omega)
  rw [Nat.or_comm, nat_join 13 8192 q (by omega) (by omega)] at this
  rw [show (8192 : Int) = ((8192 : Nat) : Int) from rfl, this]
  omega
theorem or_both (q : Int) (h0 : 0 ≤ q) (h1 : q < 8192) : bits .or .i64 (q + 16384) 8192 = q + 16384 + 8192 := by
  obtain ⟨q, rfl⟩ := Int.eq_ofNat_of_zero_le h0
  have h := i64_or_nat (q + 16384) 8192 (by omega) (by omega)
  have e : (q + 16384) ||| 8192 = q + 16384 + 8192 := by
    have h1 := nat_join 14 16384 q (by omega) (by omega)
    have h2 := nat_join 13 8192 q (by omega) (by omega)
    rw [show q + 16384 = 16384 + q by omega, ← h1, Nat.or_assoc, Nat.or_comm q 8192, h2, nat_join 14 16384 (8192 + q) (by omega) (by omega)]
    omega
  rw [e] at h
  rw [show ((q : Int) + 16384) = ((q + 16384 : Nat) : Int) by omega, show (8192 : Int) = ((8192 : Nat) : Int) from rfl, h]
  omega

set_option maxHeartbeats 1000000 in
theorem put4_arg (h : H4) (hf : h.fit) (A : Option Addr) (n c : Nat) (w : World) (hn : n ≤ 1099511627776) (hx : h.bad) :
    Calls Tryd.prog 20 #[.agg h.cells.toArray, .slice A n c] w fun e w' => e = .returned (.tuple #[.slice none 0 0, .int .i64 1]) ∧ Below w.heap.size w w' := by
  have HK := Lib.hid hf.ok
  have HOPT := Lib.hid (h.get_opt hf.ok)
  have hcase : (40 < (h.opt.length : Int)) ∨ (¬ (40 < (h.opt.length : Int)) ∧ ((h.opt.length : Int) % 4 != 0) = true) ∨ (¬ (40 < (h.opt.length : Int)) ∧ ((h.opt.length : Int) % 4 != 0) = false ∧ h.off < 0) ∨ (¬ (40 < (h.opt.length : Int)) ∧ ((h.opt.length : Int) % 4 != 0) = false ∧ ¬ h.off < 0 ∧ 8192 ≤ h.off) := by
    simp only [bne_iff_ne, bne_eq_false_iff_eq]
    unfold H4.bad at hx
    omega
  clear hx hf
  rcases hcase with k1 | ⟨k1, k2⟩ | ⟨k1, k2, k3⟩ | ⟨k1, k2, k3, k4⟩
  all_goals
    go_enter Tryd.func20, Tryd.ntmps20
    go_wp2_with (first
    | (refine wpList_box_blk rfl 56 _ rfl h.cells rfl ?_; intro w1 hb1 hB1 hs1; have c16 : w1.cell? ⟨w.heap.size, 16, none⟩ = some (str h.opt) := (hb1.cell 16).trans HOPT.out; have c5 : w1.cell? ⟨w.heap.size, 5, none⟩ = some (.int .i64 h.off) := hb1.cell 5)
    | (refine wpList_load_blk rfl 56 _ rfl w.heap.size rfl 56 _ _ hb1 Tryd.underlying56 rfl (size4 _ HK.out) ?_))
    refine (size4_wrap h HK.out _).mono ?_
    rintro e w2 ⟨rfl, hb2⟩
    have hbx2 := hb1.on hb2
    have hB2 := bthen hB1 hb2
    have c16' : w2.cell? ⟨w.heap.size, 16, none⟩ = some (str h.opt) := (hbx2.cell 16).trans HOPT.out
    have c5' : w2.cell? ⟨w.heap.size, 5, none⟩ = some (.int .i64 h.off) := hbx2.cell 5
    clear hb1 hB1 hb2 c16 c5
    go_wp2_with fail
    go_ret2
    exact ⟨rfl, hB2⟩

set_option maxHeartbeats 1000000 in
theorem put4_len (h : H4) (hf : h.fit) (A : Option Addr) (n c : Nat) (w : World) (hn : n ≤ 1099511627776) (hx : ¬ h.bad) (hl : 65535 < 20 + h.opt.length + n) :
    Calls Tryd.prog 20 #[.agg h.cells.toArray, .slice A n c] w fun e w' => e = .returned (.tuple #[.slice none 0 0, .int .i64 13]) ∧ Below w.heap.size w w' := by
  have HK := Lib.hid hf.ok
  have HOPT := Lib.hid (h.get_opt hf.ok)
  unfold H4.bad at hx
  have hfo : h.opt.length ≤ 1099511627776 := by omega
  have k1 : ¬ (40 < (h.opt.length : Int)) := by omega
  have k2 : ((h.opt.length : Int) % 4 != 0) = false := by rw [bne_eq_false_iff_eq]; omega
  have k3 : ¬ h.off < 0 := by omega
  have k4 : ¬ 8192 ≤ h.off := by omega
  have k5 : (65535 : Int) < 20 + (h.opt.length : Int) + n := by omega
  clear hx hf
  go_enter Tryd.func20, Tryd.ntmps20
  go_wp2_with (first
    | (refine wpList_box_blk rfl 56 _ rfl h.cells rfl ?_; intro w1 hb1 hB1 hs1; have c16 : w1.cell? ⟨w.heap.size, 16, none⟩ = some (str h.opt) := (hb1.cell 16).trans HOPT.out; have c5 : w1.cell? ⟨w.heap.size, 5, none⟩ = some (.int .i64 h.off) := hb1.cell 5)
    | (refine wpList_load_blk rfl 56 _ rfl w.heap.size rfl 56 _ _ hb1 Tryd.underlying56 rfl (size4 _ HK.out) ?_))
  refine (size4_any h HK.out _ hfo).mono ?_
  rintro e w2 ⟨rfl, hb2⟩
  have hbx2 := hb1.on hb2
  have hB2 := bthen hB1 hb2
  have c16' : w2.cell? ⟨w.heap.size, 16, none⟩ = some (str h.opt) := (hbx2.cell 16).trans HOPT.out
  have c5' : w2.cell? ⟨w.heap.size, 5, none⟩ = some (.int .i64 h.off) := hbx2.cell 5
  clear hb1 hB1 hb2 c16 c5
  go_wp2_with fail
  go_ret2
  exact ⟨rfl, hB2⟩

set_option maxHeartbeats 4000000 in
theorem put4_ok (h : H4) (hf : h.fit) (A : Option Addr) (n c : Nat) (l : List UInt8) (w : World) (hr : Row w w.heap.size 1 A n (bv l)) (hc : n ≤ c) (hcm : c ≤ maxLen) (hx : ¬ h.bad) (all : Nat) (hall : 20 + h.opt.length + n = all) (hl : all ≤ 65535) (kb mb : Bool) (hkb : h.keep = kb) (hmb : h.more = mb) :
    Calls Tryd.prog 20 #[.agg h.cells.toArray, .slice A n c] w fun e w' => ∃ r : Bs, e = .returned (.tuple #[r.v, .int .i64 0]) ∧ r.l = head4 h all ++ l ∧ Own w' w.heap.size 5 1 r.A r.n r.c (bv r.l) ∧ Below w.heap.size w w' := by
  have HK := Lib.hid hf.ok
  have HOPT := Lib.hid (h.get_opt hf.ok)
  unfold H4.bad at hx
  have hfo : h.opt.length ≤ 1099511627776 := by omega
  obtain ⟨t0, t1⟩ := hf.tos
  obtain ⟨d0, d1⟩ := hf.id
  obtain ⟨l0, l1⟩ := hf.ttl
  obtain ⟨p0, p1⟩ := hf.pro
  have k1 : ¬ (40 < (h.opt.length : Int)) := by omega
  have k2 : ((h.opt.length : Int) % 4 != 0) = false := by rw [bne_eq_false_iff_eq]; omega
  have k3 : ¬ h.off < 0 := by omega
  have k4 : ¬ 8192 ≤ h.off := by omega
  have k5 : ¬ (65535 : Int) < (all : Int) := by omega
  have h40 : h.opt.length ≤ 40 := by omega
  have o1 := or_64 (((20 + h.opt.length : Nat) : Int) / 4) (by omega) (by omega)
  have o2 := or_byte (64 + ((20 + h.opt.length : Nat) : Int) / 4) h.tos (by omega) (by omega) t0 t1
  have o3 := or_byte h.ttl h.pro l0 (by omega) p0 p1
  have HX0 := Lib.hid (show word0 h = (64 + ((20 + h.opt.length : Nat) : Int) / 4) * 256 + h.tos from rfl)
  have HX4 := Lib.hid (show word4 h = h.ttl * 256 + h.pro from rfl)
  have HFL : Hid (flag4 h = h.off + (if kb then 16384 else 0) + (if mb then 8192 else 0)) := Lib.hid (by unfold flag4; rw [hkb, hmb])
  have b0 : 0 ≤ word0 h ∧ word0 h ≤ 65535 := by rw [HX0.out]; omega
  have b4 : 0 ≤ word4 h ∧ word4 h ≤ 65535 := by rw [HX4.out]; omega
  have bf : 0 ≤ flag4 h ∧ flag4 h ≤ 65535 := by rw [HFL.out]; split <;> split <;> omega
  obtain ⟨Cs, hCs⟩ : ∃ Cs, Cs = sumC h all := ⟨_, rfl⟩
  have bs : Cs ≤ 65535 := by rw [hCs]; unfold sumC; omega
  have HCs := Lib.hid hCs
  clear hCs
  have ok1 := or_keep h.off (by omega) (by omega)
  have ok2 := or_more h.off (by omega) (by omega)
  have ok3 := or_both h.off (by omega) (by omega)
  have HR := Lib.hid hr
  have HLL : Hid (l.length = n) := Lib.hid (by have := hr.1; rw [bv_length] at this; omega)
  obtain ⟨S, hS⟩ : ∃ S, 20 + h.opt.length = S := ⟨_, rfl⟩
  have hSa : S + n = all := by omega
  have HS := Lib.hid hS
  have HKB := Lib.hid hkb
  have HMB := Lib.hid hmb
  have hSz : 20 + (h.opt.length : Int) = (S : Int) := by omega
  have HSz := Lib.hid hSz
  have hSA : (S : Int) + (n : Int) = (all : Int) := by omega
  rw [hS] at o1 o2 HX0
  clear hx hf hr hkb hmb hS hall hSz hSa
  cases kb <;> cases mb
  all_goals
    go_enter Tryd.func20, Tryd.ntmps20
    go_wp2_with (first
    | (refine wpList_box_blk rfl 56 _ rfl h.cells rfl ?_; intro w1 hb1 hB1 hs1; have c16 : w1.cell? ⟨w.heap.size, 16, none⟩ = some (str h.opt) := (hb1.cell 16).trans HOPT.out; have c5 : w1.cell? ⟨w.heap.size, 5, none⟩ = some (.int .i64 h.off) := hb1.cell 5)
    | (refine wpList_load_blk rfl 56 _ rfl w.heap.size rfl 56 _ _ hb1 Tryd.underlying56 rfl (size4 _ HK.out) ?_))
    refine (size4_any h HK.out _ hfo).mono ?_
    rintro e w2 ⟨rfl, hb2⟩
    have hbx2 := hb1.on hb2
    have hB2 := bthen hB1 hb2
    have c16' : w2.cell? ⟨w.heap.size, 16, none⟩ = some (str h.opt) := (hbx2.cell 16).trans HOPT.out
    have c5' : w2.cell? ⟨w.heap.size, 5, none⟩ = some (.int .i64 h.off) := hbx2.cell 5
    clear hb1 hB1 hb2 c16 c5
    have c3' : w2.cell? ⟨w.heap.size, 3, none⟩ = some (.bool h.keep) := hbx2.cell 3
    rw [HKB.out] at c3'
    have c4' : w2.cell? ⟨w.heap.size, 4, none⟩ = some (.bool h.more) := hbx2.cell 4
    rw [HMB.out] at c4'
    have c0' : w2.cell? ⟨w.heap.size, 0, none⟩ = some (.int .u8 h.tos) := hbx2.cell 0
    have c2' : w2.cell? ⟨w.heap.size, 2, none⟩ = some (.int .u16 h.id) := hbx2.cell 2
    have c6' : w2.cell? ⟨w.heap.size, 6, none⟩ = some (.int .u8 h.ttl) := hbx2.cell 6
    have c7' : w2.cell? ⟨w.heap.size, 7, none⟩ = some (.int .u8 h.pro) := hbx2.cell 7
    rw [HSz.out]
    have HX2 := Lib.hid hbx2
    clear hbx2 hs1
    go_wp2_with fail
    refine (puts4_any _ 6 6 [word0 h, (all : Int), h.id, flag4 h, word4 h, 0] _ (row_ints w2 _ [word0 h, (all : Int), h.id, flag4 h, word4 h, 0] 6 _ (by simp [HX0.out, HX4.out, HFL.out]) rfl rfl) ?_ (by omega)).mono ?_
    · intro x hx
      simp only [List.mem_cons, List.not_mem_nil, or_false] at hx
      rcases hx with rfl | rfl | rfl | rfl | rfl | rfl
      · exact b0
      · omega
      · exact ⟨d0, d1⟩
      · exact bf
      · exact b4
      · omega
    rintro e w3 ⟨A3, n3, c3, rfl, hn3, hown3, hb3⟩
    obtain rfl : n3 = 12 := hn3
    rw [show twos [word0 h, (all : Int), h.id, flag4 h, word4 h, 0] = hdA h all ++ [0, 0] from twos_snoc [word0 h, (all : Int), h.id, flag4 h, word4 h] 0] at hown3
    have hB3 := bthen hB2 (ballocd hb3)
    have hX3 := (HX2.out.alloc _).on hb3
    have HO3 := Lib.hid hown3.ok
    have HX3 := Lib.hid hX3
    have HS3 : Hid ((Bs.mk (some ⟨w.heap.size, 8, none⟩) 4 4 h.src).ok w3) := by
      have := hX3.row 1 8 4 (by rw [h.cells_length HK.out]; omega)
      rw [show 4 * 1 = 4 from rfl, h.drop_src HK.out] at this
      exact Lib.hid ⟨this, Nat.le_refl _, by simp [maxLen]⟩
    have HD3 : Hid ((Bs.mk (some ⟨w.heap.size, 12, none⟩) 4 4 h.dst).ok w3) := by
      have := hX3.row 1 12 4 (by rw [h.cells_length HK.out]; omega)
      rw [show 4 * 1 = 4 from rfl, h.drop_dst HK.out] at this
      exact Lib.hid ⟨this, Nat.le_refl _, by simp [maxLen]⟩
    have HB3 := Lib.hid hB3
    clear hown3 hb3 hB3 hX3 hB2 c16' c5' c3' c4' c0' c2' c6' c7'
    go_wp2_with fail
    refine wp_region_rel (fun A B => A.grownBy B none) (fun A => grown_refl A _) (fun A B C h k => grown_trans h k) (relAt (List.cons (fun v _ => v = .slice A3 12 c3) (List.cons (fun v _ => v = .pointer (some ⟨w.heap.size, 8, none⟩)) (List.cons (fun v _ => v = .slice (some ⟨w.heap.size, 8, none⟩) 4 4) (List.cons (fun v _ => v = .pointer (some ⟨w.heap.size, 12, none⟩)) (List.cons (fun v _ => v = .slice (some ⟨w.heap.size, 12, none⟩) 4 4) (List.cons (fun v _ => v = .pointer (some ⟨w.heap.size, 16, none⟩)) (List.cons (fun v _ => v = str h.opt) (List.cons (fun v W => ∃ A5 c5, v = .slice A5 h.opt.length c5 ∧ (Bs.mk A5 h.opt.length c5 h.opt).ok W) (List.cons (RowsR [hdA h all ++ [0, 0], h.src, h.dst, h.opt]) (List.cons (OwnB w3.heap.size S (hdA h all ++ [0, 0] ++ bk4 h)) (List.cons (OwnB w3.heap.size S (hdA h all ++ [0, 0] ++ bk4 h)) ([]))))))))))))) (MonoL.at_ (.cons (mono_val _) (.cons (mono_val _) (.cons (mono_val _) (.cons (mono_val _) (.cons (mono_val _) (.cons (mono_val _) (.cons (mono_val _) (.cons (fun _ _ _ ⟨A, c, hv, ho⟩ hg => ⟨A, c, hv, ho.below (grow_below hg)⟩) (.cons (mono_rows _) (.cons (mono_ownB _ _ _) (.cons (mono_ownB _ _ _) .nil)))))))))))) (by kernel_rfl) (by kernel_rfl) ⟨?_, ?_, ?_, ?_, ?_, ?_, ?_, ?_, ?_, ?_, ?_, trivial⟩ ?_
    · intro a vs W hX hR he hf K hK
      rw [if_pos (wanted_none rfl)]
      have e9 : a.eval (.tmp 9) = .slice A3 12 c3 := hf 9 (by kernel_rfl)
      refine wp_value (v := .slice A3 12 c3) ?_ (hK _ _ rfl (grown_refl W _))
      simp only [execOp, e9]
      try go_simp
      try (first | rfl | omega | (simp only [IntKind.wrap_i64, IntKind.wrap_u8, IntKind.wrap_u64, IntKind.wrap_u16, IntKind.wrap_u32]; omega) | (rw [Int.tmod_eq_emod_of_nonneg (by omega)]) | (rw [Int.tmod_eq_emod_of_nonneg (by omega)]; omega))
    · intro a vs W hX hR he hf K hK
      rw [if_pos (wanted_none rfl)]
      have e2 : a.eval (.tmp 2) = .pointer (some ⟨w.heap.size, 0, none⟩) := hf 2 (by kernel_rfl)
      refine wp_value (v := .pointer (some ⟨w.heap.size, 8, none⟩)) ?_ (hK _ _ rfl (grown_refl W _))
      simp only [execOp, e2]
      try go_simp
      try (first | rfl | omega | (simp only [IntKind.wrap_i64, IntKind.wrap_u8, IntKind.wrap_u64, IntKind.wrap_u16, IntKind.wrap_u32]; omega) | (rw [Int.tmod_eq_emod_of_nonneg (by omega)]) | (rw [Int.tmod_eq_emod_of_nonneg (by omega)]; omega))
    · intro a vs W hX hR he hf K hK
      rw [if_pos (wanted_none rfl)]
      have e75 : a.eval (.tmp 75) = .pointer (some ⟨w.heap.size, 8, none⟩) := (he 1 75 (by kernel_rfl) rfl).trans (hR 1 (by kernel_rfl))
      have f75 := e75
      simp only [Act.eval, Array.getD_eq_getD_getElem?] at f75
      refine wp_value (v := _) ?_ (hK _ _ rfl (grown_refl W _))
      simp only [execOp, e75]
      go_simp
    · intro a vs W hX hR he hf K hK
      rw [if_pos (wanted_none rfl)]
      have e2 : a.eval (.tmp 2) = .pointer (some ⟨w.heap.size, 0, none⟩) := hf 2 (by kernel_rfl)
      refine wp_value (v := .pointer (some ⟨w.heap.size, 12, none⟩)) ?_ (hK _ _ rfl (grown_refl W _))
      simp only [execOp, e2]
      try go_simp
      try (first | rfl | omega | (simp only [IntKind.wrap_i64, IntKind.wrap_u8, IntKind.wrap_u64, IntKind.wrap_u16, IntKind.wrap_u32]; omega) | (rw [Int.tmod_eq_emod_of_nonneg (by omega)]) | (rw [Int.tmod_eq_emod_of_nonneg (by omega)]; omega))
    · intro a vs W hX hR he hf K hK
      rw [if_pos (wanted_none rfl)]
      have e77 : a.eval (.tmp 77) = .pointer (some ⟨w.heap.size, 12, none⟩) := (he 3 77 (by kernel_rfl) rfl).trans (hR 3 (by kernel_rfl))
      have f77 := e77
      simp only [Act.eval, Array.getD_eq_getD_getElem?] at f77
      refine wp_value (v := _) ?_ (hK _ _ rfl (grown_refl W _))
      simp only [execOp, e77]
      go_simp
    · intro a vs W hX hR he hf K hK
      rw [if_pos (wanted_none rfl)]
      have e2 : a.eval (.tmp 2) = .pointer (some ⟨w.heap.size, 0, none⟩) := hf 2 (by kernel_rfl)
      refine wp_value (v := .pointer (some ⟨w.heap.size, 16, none⟩)) ?_ (hK _ _ rfl (grown_refl W _))
      simp only [execOp, e2]
      try go_simp
      try (first | rfl | omega | (simp only [IntKind.wrap_i64, IntKind.wrap_u8, IntKind.wrap_u64, IntKind.wrap_u16, IntKind.wrap_u32]; omega) | (rw [Int.tmod_eq_emod_of_nonneg (by omega)]) | (rw [Int.tmod_eq_emod_of_nonneg (by omega)]; omega))
    · intro a vs W hX hR he hf K hK
      rw [if_pos (wanted_none rfl)]
      have e79 : a.eval (.tmp 79) = .pointer (some ⟨w.heap.size, 16, none⟩) := (he 5 79 (by kernel_rfl) rfl).trans (hR 5 (by kernel_rfl))
      have hbW := bthen (below_drew _) (grow_below hX)
      have hc : W.cell? ⟨w.heap.size, 16, none⟩ = some (str h.opt) := ((HX3.out.on hbW).cell 16).trans HOPT.out
      refine wp_value (v := _) ?_ (hK _ _ rfl (grown_refl W _))
      simp only [execOp, e79]
      try go_simp
    · intro a vs W hX hR he hf K hK
      rw [if_pos (wanted_none rfl)]
      have e80 : a.eval (.tmp 80) = str h.opt := (he 6 80 (by kernel_rfl) rfl).trans (hR 6 (by kernel_rfl))
      refine wp_toBytes (.tmp 80) 9 22 5 rfl Tryd.underlying22 Tryd.underlying5 Tryd.underlying9 h.opt e80 (by simp only [maxLen]; omega) ?_
      intro A5 c5 w' ho hb
      exact hK _ _ ⟨A5, c5, rfl, ho⟩ (below_grow hb _)
    · intro a vs W hX hR he hf K hK
      rw [if_pos (wanted_none rfl)]
      have e74 : a.eval (.tmp 74) = .slice A3 12 c3 := (he 0 74 (by kernel_rfl) rfl).trans (hR 0 (by kernel_rfl))
      have e76 : a.eval (.tmp 76) = .slice (some ⟨w.heap.size, 8, none⟩) 4 4 := (he 2 76 (by kernel_rfl) rfl).trans (hR 2 (by kernel_rfl))
      have e78 : a.eval (.tmp 78) = .slice (some ⟨w.heap.size, 12, none⟩) 4 4 := (he 4 78 (by kernel_rfl) rfl).trans (hR 4 (by kernel_rfl))
      have e81 := he 7 81 (by kernel_rfl) rfl
      have p81 := hR 7 (by kernel_rfl)
      change (fun v W => ∃ A5 c5, v = .slice A5 h.opt.length c5 ∧ (Bs.mk A5 h.opt.length c5 h.opt).ok W) (vs 7) W at p81
      have f74 := e74
      simp only [Act.eval, Array.getD_eq_getD_getElem?] at f74
      have f76 := e76
      simp only [Act.eval, Array.getD_eq_getD_getElem?] at f76
      have f78 := e78
      simp only [Act.eval, Array.getD_eq_getD_getElem?] at f78
      have f81 := e81
      simp only [Act.eval, Array.getD_eq_getD_getElem?] at f81
      obtain ⟨A5, c5, hv5, ho5⟩ := p81
      rw [hv5] at e81
      have f81 := e81
      simp only [Act.eval, Array.getD_eq_getD_getElem?] at f81
      have hbW := bthen (below_drew _) (grow_below hX)
      refine wp_value (v := .slice (some ⟨W.heap.size, 0, none⟩) 4 4) (w' := W.alloc (.cells #[.slice A3 12 c3, .slice (some ⟨w.heap.size, 8, none⟩) 4 4, .slice (some ⟨w.heap.size, 12, none⟩) 4 4, .slice A5 h.opt.length c5] 22)) ?_ (hK _ _ ⟨[⟨A3, 12, c3, hdA h all ++ [0, 0]⟩, ⟨some ⟨w.heap.size, 8, none⟩, 4, 4, h.src⟩, ⟨some ⟨w.heap.size, 12, none⟩, 4, 4, h.dst⟩, ⟨A5, h.opt.length, c5, h.opt⟩], _, _, _, rfl, rfl, ?_, ?_⟩ (World.grownBy_alloc _ _ _))
      · simp only [execOp]
        go_simp
      · rw [World.size_alloc]
        exact Row.new (n := 4) (sz := 1) W _ rfl
      · have k := fun r (hr : Bs.ok W r) => hr.below (alloc_below W (.cells #[.slice A3 12 c3, .slice (some ⟨w.heap.size, 8, none⟩) 4 4, .slice (some ⟨w.heap.size, 12, none⟩) 4 4, .slice A5 h.opt.length c5] 22))
        simp only [List.mem_cons, List.not_mem_nil, or_false]
        rintro r (rfl | rfl | rfl | rfl)
        · exact k _ (HO3.out.below hbW)
        · exact k _ (HS3.out.below hbW)
        · exact k _ (HD3.out.below hbW)
        · exact k _ ho5
    · intro a vs W hX hR he hf K hK
      rw [if_pos (wanted_none rfl)]
      have e82 := he 8 82 (by kernel_rfl) rfl
      have p82 := hR 8 (by kernel_rfl)
      change (RowsR [hdA h all ++ [0, 0], h.src, h.dst, h.opt]) (vs 8) W at p82
      obtain ⟨rows, R, k, c', hv, hl, hr, ho⟩ := p82
      rw [hv] at e82
      have hfl : flat rows = hdA h all ++ [0, 0] ++ bk4 h := by rw [flat_map, hl]; simp [bk4]
      have hln : (hdA h all ++ [0, 0] ++ bk4 h).length = S := by simp only [List.length_append, hdA_length, bk4_length h HK.out, List.length_cons, List.length_nil]; have := HS.out; omega
      have hlb := lenV_bs rows ho
      have hk4 : k ≤ 4 := by have h1 := hr.1; rw [List.length_map] at h1; have h2 := congrArg List.length hl; simp at h2; omega
      refine wp_enter (f := 44) (args := #[.slice R k c']) (by simp only [execOp, e82]; go_simp; simpa [Act.eval] using e82) ((concat_bytes R k c' (rows.map Bs.sl) W (by rw [vs_bs]; exact hr) (fun r hx => by obtain ⟨x, hx2, rfl⟩ := List.mem_map.1 hx; exact (ho x hx2).sl) (by omega) (by rw [hlb, hfl, hln]; omega)).mono ?_)
      rintro e w' ⟨A', cc, rfl, hown, hb⟩
      rw [flatV_bs, hfl, hlb, hfl, hln] at hown
      exact ⟨_, rfl, hK _ _ ⟨A', cc, by rw [hlb, hfl, hln], hown.mono (grow_below hX).size⟩ (below_grow hb _)⟩
    · intro a vs W hX hR he hf K hK
      rw [if_pos (wanted_none rfl)]
      have e83 := he 9 83 (by kernel_rfl) rfl
      have p83 := hR 9 (by kernel_rfl)
      change (OwnB w3.heap.size S (hdA h all ++ [0, 0] ++ bk4 h)) (vs 9) W at p83
      refine wp_value (v := _) ?_ (hK _ _ p83 (grown_refl W _))
      simp only [execOp, e83]
      try go_simp
    · intro vs w4 hX4 hR
      have q0 := hR 0 (by decide)
      have q1 := hR 1 (by decide)
      have q2 := hR 2 (by decide)
      have q3 := hR 3 (by decide)
      have q4 := hR 4 (by decide)
      have q5 := hR 5 (by decide)
      have q6 := hR 6 (by decide)
      have q7 := hR 7 (by decide)
      have q8 := hR 8 (by decide)
      have q9 := hR 9 (by decide)
      have q10 := hR 10 (by decide)
      change vs 0 = .slice A3 12 c3 at q0
      change vs 1 = .pointer (some ⟨w.heap.size, 8, none⟩) at q1
      change vs 2 = .slice (some ⟨w.heap.size, 8, none⟩) 4 4 at q2
      change vs 3 = .pointer (some ⟨w.heap.size, 12, none⟩) at q3
      change vs 4 = .slice (some ⟨w.heap.size, 12, none⟩) 4 4 at q4
      change vs 5 = .pointer (some ⟨w.heap.size, 16, none⟩) at q5
      change vs 6 = str h.opt at q6
      change (fun v W => ∃ A5 c5, v = .slice A5 h.opt.length c5 ∧ (Bs.mk A5 h.opt.length c5 h.opt).ok W) (vs 7) w4 at q7
      change (RowsR [hdA h all ++ [0, 0], h.src, h.dst, h.opt]) (vs 8) w4 at q8
      change (OwnB w3.heap.size S (hdA h all ++ [0, 0] ++ bk4 h)) (vs 9) w4 at q9
      change (OwnB w3.heap.size S (hdA h all ++ [0, 0] ++ bk4 h)) (vs 10) w4 at q10
      simp only [putAll, Act.put, List.setIfInBounds_toArray, List.set_cons_zero, List.set_cons_succ, q0, q1, q2, q3, q4, q5, q6]
      clear q0 q1 q2 q3 q4 q5 q6
      clear hR
      obtain ⟨A4, c4, hv, hown4⟩ := q10
      rw [hv]
      have hB4 := bthen HB3.out (bthen (below_drew _) (grow_below hX4))
      have hS20 : 20 ≤ S := by have := HS.out; omega
      obtain ⟨g, rfl, hg1, hg2, _, _⟩ := hown4.open_ (by omega)
      have hgw : w.heap.size ≤ g := by have := HB3.out.size; omega
      have hown5 := hown4.mono HB3.out.size
      have hc4 := hown4.le
      have HO4 := Lib.hid hown5
      clear hv hX4 q7 q8 q9 hown4 hown5
      have kc : ¬ c4 = 10 := by omega
      have kc2 : (10 : Int) ≤ (S : Int) := by omega
      have kc3 : (S : Int) ≤ (c4 : Int) := by omega
      go_wp2_with fail
      refine wp_region_last 8 (fun A B => A.grownBy B none) (fun A => grown_refl A _) (fun A B C h k => grown_trans h k) (relAt (List.cons (fun v _ => v = .slice (some ⟨g, 0, none⟩) S c4) (List.cons (fun v _ => v = .slice (some ⟨g, 10, none⟩) (S - 10) (c4 - 10)) (List.cons (fun v _ => v = .slice (some ⟨g, 0, none⟩) S c4) (List.cons (RowsR [hdA h all ++ [0, 0] ++ bk4 h]) (List.cons (fun v _ => v = .int .u16 (Cs : Int)) (List.cons (fun v _ => v = .int .i64 (Cs : Int)) (List.cons (IntsR w4.heap.size 1 [(Cs : Int)]) (List.cons (OwnB w4.heap.size 2 (toBe 2 Cs)) ([])))))))))) (MonoL.at_ (.cons (mono_val _) (.cons (mono_val _) (.cons (mono_val _) (.cons (mono_rows _) (.cons (mono_val _) (.cons (mono_val _) (.cons (mono_ints _ _ _) (.cons (mono_ownB _ _ _) .nil))))))))) (by kernel_rfl) (by kernel_rfl) rfl (by kernel_rfl) _ rfl rfl ⟨?_, ?_, ?_, ?_, ?_, ?_, ?_, ?_, trivial⟩ ?_
      · intro a vs W hX hR he hf K hK
        rw [if_pos (wanted_none rfl)]
        have e9 : a.eval (.tmp 9) = .slice (some ⟨g, 0, none⟩) S c4 := hf 9 (by kernel_rfl)
        refine wp_value (v := .slice (some ⟨g, 0, none⟩) S c4) ?_ (hK _ _ rfl (grown_refl W _))
        simp only [execOp, e9]
        try go_simp
        try (first | rfl | omega | (simp only [IntKind.wrap_i64, IntKind.wrap_u8, IntKind.wrap_u64, IntKind.wrap_u16, IntKind.wrap_u32]; omega) | (rw [Int.tmod_eq_emod_of_nonneg (by omega)]) | (rw [Int.tmod_eq_emod_of_nonneg (by omega)]; omega))
      · intro a vs W hX hR he hf K hK
        rw [if_pos (wanted_none rfl)]
        have e84 : a.eval (.tmp 84) = .slice (some ⟨g, 0, none⟩) S c4 := (he 0 84 (by kernel_rfl) rfl).trans (hR 0 (by kernel_rfl))
        have f84 := e84
        simp only [Act.eval, Array.getD_eq_getD_getElem?] at f84
        refine wp_value (v := _) ?_ (hK _ _ rfl (grown_refl W _))
        simp only [execOp, e84]
        go_simp
      · intro a vs W hX hR he hf K hK
        rw [if_pos (wanted_none rfl)]
        have e9 : a.eval (.tmp 9) = .slice (some ⟨g, 0, none⟩) S c4 := hf 9 (by kernel_rfl)
        refine wp_value (v := .slice (some ⟨g, 0, none⟩) S c4) ?_ (hK _ _ rfl (grown_refl W _))
        simp only [execOp, e9]
        try go_simp
        try (first | rfl | omega | (simp only [IntKind.wrap_i64, IntKind.wrap_u8, IntKind.wrap_u64, IntKind.wrap_u16, IntKind.wrap_u32]; omega) | (rw [Int.tmod_eq_emod_of_nonneg (by omega)]) | (rw [Int.tmod_eq_emod_of_nonneg (by omega)]; omega))
      · intro a vs W hX hR he hf K hK
        rw [if_pos (wanted_none rfl)]
        have e86 : a.eval (.tmp 86) = .slice (some ⟨g, 0, none⟩) S c4 := (he 2 86 (by kernel_rfl) rfl).trans (hR 2 (by kernel_rfl))
        have f86 := e86
        simp only [Act.eval, Array.getD_eq_getD_getElem?] at f86
        have hbW := bthen (below_drew _) (grow_below hX)
        refine wp_value (v := .slice (some ⟨W.heap.size, 0, none⟩) 1 1) (w' := W.alloc (.cells #[.slice (some ⟨g, 0, none⟩) S c4] 22)) ?_ (hK _ _ ⟨[⟨some ⟨g, 0, none⟩, S, c4, hdA h all ++ [0, 0] ++ bk4 h⟩], _, _, _, rfl, rfl, ?_, ?_⟩ (World.grownBy_alloc _ _ _))
        · simp only [execOp]
          go_simp
        · rw [World.size_alloc]
          exact Row.new (n := 1) (sz := 1) W _ rfl
        · have k := fun r (hr : Bs.ok W r) => hr.below (alloc_below W (.cells #[.slice (some ⟨g, 0, none⟩) S c4] 22))
          simp only [List.mem_cons, List.not_mem_nil, or_false]
          rintro r rfl
          exact k _ (HO4.out.ok.below hbW)
      · intro a vs W hX hR he hf K hK
        rw [if_pos (wanted_none rfl)]
        have e87 := he 3 87 (by kernel_rfl) rfl
        have p87 := hR 3 (by kernel_rfl)
        change (RowsR [hdA h all ++ [0, 0] ++ bk4 h]) (vs 3) W at p87
        obtain ⟨rows, R, k, c', hv, hl, hr, ho⟩ := p87
        rw [hv] at e87
        have hfl : flat rows = hdA h all ++ [0, 0] ++ bk4 h := by rw [flat_map, hl]; simp
        have hln : (hdA h all ++ [0, 0] ++ bk4 h).length = S := by simp only [List.length_append, hdA_length, bk4_length h HK.out, List.length_cons, List.length_nil]; have := HS.out; omega
        have hk4 : k ≤ 4 := by have h1 := hr.1; rw [List.length_map] at h1; have h2 := congrArg List.length hl; simp at h2; omega
        refine wp_enter (f := 45) (args := #[.slice R k c']) (by simp only [execOp, e87]; go_simp; simpa [Act.eval] using e87) ((of_any R k c' rows W hr ho (by omega) (by rw [hfl, hln]; omega)).mono ?_)
        rintro e w' ⟨rfl, hb⟩
        rw [hfl, raw_mid _ _ (by rw [hdA_length]), show 65535 - rawN (hdA h all ++ bk4 h) = Cs from HCs.out.symm]
        exact ⟨_, rfl, hK _ _ rfl (below_grow hb _)⟩
      · intro a vs W hX hR he hf K hK
        rw [if_pos (wanted_none rfl)]
        have e88 : a.eval (.tmp 88) = .int .u16 (Cs : Int) := (he 4 88 (by kernel_rfl) rfl).trans (hR 4 (by kernel_rfl))
        refine wp_value (v := .int .i64 (Cs : Int)) ?_ (hK _ _ rfl (grown_refl W _))
        simp only [execOp, e88]
        try go_simp
        try (first | rfl | omega | (simp only [IntKind.wrap_i64, IntKind.wrap_u8, IntKind.wrap_u64, IntKind.wrap_u16, IntKind.wrap_u32]; omega) | (rw [Int.tmod_eq_emod_of_nonneg (by omega)]) | (rw [Int.tmod_eq_emod_of_nonneg (by omega)]; omega))
      · intro a vs W hX hR he hf K hK
        rw [if_pos (wanted_none rfl)]
        have e89 : a.eval (.tmp 89) = .int .i64 (Cs : Int) := (he 5 89 (by kernel_rfl) rfl).trans (hR 5 (by kernel_rfl))
        have f89 := e89
        simp only [Act.eval, Array.getD_eq_getD_getElem?] at f89
        refine wp_value (v := .slice (some ⟨W.heap.size, 0, none⟩) 1 1) (w' := W.alloc (.cells #[.int .i64 (Cs : Int)] 3)) ?_ (hK _ _ ⟨_, rfl, (grow_below hX).size, row_ints W _ [(Cs : Int)] 1 _ rfl rfl rfl⟩ (World.grownBy_alloc _ _ _))
        simp only [execOp]
        go_simp
      · intro a vs W hX hR he hf K hK
        rw [if_pos (wanted_none rfl)]
        have e90 := he 6 90 (by kernel_rfl) rfl
        have p90 := hR 6 (by kernel_rfl)
        change (IntsR w4.heap.size 1 [(Cs : Int)]) (vs 6) W at p90
        obtain ⟨p, hv, hp, hr⟩ := p90
        rw [hv] at e90
        refine wp_enter (f := 43) (args := #[.slice (some ⟨p, 0, none⟩) 1 1]) (by simp only [execOp, e90]; go_simp; simpa [Act.eval] using e90) ((puts4_any _ 1 1 [(Cs : Int)] W hr (by simp; omega) (by omega)).mono ?_)
        rintro e w' ⟨A2, n2, c2, rfl, rfl, hown, hb⟩
        rw [show twos [(Cs : Int)] = toBe 2 Cs by simp [twos]] at hown
        exact ⟨_, rfl, hK _ _ ⟨A2, c2, rfl, hown.mono (grow_below hX).size⟩ (below_grow hb _)⟩
      · intro vs w5 hX5 hR
        have q0 := hR 0 (by decide)
        have q1 := hR 1 (by decide)
        have q2 := hR 2 (by decide)
        have q3 := hR 3 (by decide)
        have q4 := hR 4 (by decide)
        have q5 := hR 5 (by decide)
        have q6 := hR 6 (by decide)
        have q7 := hR 7 (by decide)
        change vs 0 = .slice (some ⟨g, 0, none⟩) S c4 at q0
        change vs 1 = .slice (some ⟨g, 10, none⟩) (S - 10) (c4 - 10) at q1
        change vs 2 = .slice (some ⟨g, 0, none⟩) S c4 at q2
        change (RowsR [hdA h all ++ [0, 0] ++ bk4 h]) (vs 3) w5 at q3
        change vs 4 = .int .u16 (Cs : Int) at q4
        change vs 5 = .int .i64 (Cs : Int) at q5
        change (IntsR w4.heap.size 1 [(Cs : Int)]) (vs 6) w5 at q6
        change (OwnB w4.heap.size 2 (toBe 2 Cs)) (vs 7) w5 at q7
        simp only [putAll, Act.put, List.setIfInBounds_toArray, List.set_cons_zero, List.set_cons_succ, List.take_succ_cons, List.take_zero, q0, q1, q2, q4, q5]
        clear q0 q1 q2 q4 q5
        clear hR
        obtain ⟨A2, c2, hv, hown2⟩ := q7
        rw [hv]
        have ho5 : Own w5 w.heap.size 5 1 (some ⟨g, 0, none⟩) S c4 (bv (hdA h all ++ [0, 0] ++ bk4 h)) := HO4.out.below (bthen (below_drew _) (grow_below hX5))
        have hB5 := bthen hB4 (bthen (below_drew _) (grow_below hX5))
        refine wp_copy_Own (.tmp 85) (.tmp 91) 22 22 rfl Tryd.underlying22 (by kernel_rfl) 10 rfl rfl ho5 (by omega) (by omega) hown2.row (bv_one _) ?_
        intro w6 ho6 hg6 hs6
        have hB6 : Below w.heap.size w w6 := bgrown hB5 hg6 hB5.size hgw
        rw [← bv_take, ← bv_drop, ← bv_append, ← bv_append, head4_cut _ _ _ (hdA_length h all)] at ho6
        have HO6 := Lib.hid ho6
        have hall' : S + n ≤ 65535 := by omega
        clear ho6 ho5 hown2 hv hX5 q3 q6 hB5 hg6
        go_wp2_with (at_builtin; refine wpList_append_Own _ rfl _ _ 22 rfl w.heap.size 5 _ 1 1 Tryd.underlying22 infoByte rfl (by decide) (some ⟨g, 0, none⟩) S c4 _ rfl HO6.out w.heap.size A n c (bv l) rfl (HR.out.below hB6) (bv_one _) (by simp only [maxLen]; omega) (by omega) hB6.size ?_; intro A7 c7 w7 hown7 hg7 _)
        go_ret2
        have hB7 : Below w.heap.size w w7 := hB6.grown hg7 hB6.size (fun k hk => (HO6.out.lt k hk).1)
        refine ⟨⟨A7, S + n, c7, head4 h all ++ l⟩, rfl, rfl, ?_, hB7⟩
        show Own w7 w.heap.size 5 1 A7 (S + n) c7 (bv (head4 h all ++ l))
        rw [bv_append, head4, ← HCs.out]
        exact hown7

theorem put4_any (h : H4) (hf : h.fit) (A : Option Addr) (n c : Nat) (l : List UInt8) (w : World) (hr : Row w w.heap.size 1 A n (bv l)) (hc : n ≤ c) (hcm : c ≤ maxLen) (hn : n ≤ 1099511627776) :
    Calls Tryd.prog 20 #[.agg h.cells.toArray, .slice A n c] w fun e w' => ∃ r : Bs, e = .returned (.tuple #[r.v, .int .i64 (put4 h l).2]) ∧ r.l = (put4 h l).1 ∧ Own w' w.heap.size 5 1 r.A r.n r.c (bv r.l) ∧ Below w.heap.size w w' := by
  have hll : l.length = n := by have := hr.1; rw [bv_length] at this; omega
  unfold put4
  by_cases hx : h.bad
  · rw [if_pos hx]
    refine (put4_arg h hf A n c w hn hx).mono ?_
    rintro e w' ⟨rfl, hb⟩
    exact ⟨⟨none, 0, 0, []⟩, rfl, rfl, Own.nil _ _ _ _ _, hb⟩
  · rw [if_neg hx]
    by_cases hl : 65535 < 20 + h.opt.length + l.length
    · rw [if_pos hl]
      refine (put4_len h hf A n c w hn hx (by omega)).mono ?_
      rintro e w' ⟨rfl, hb⟩
      exact ⟨⟨none, 0, 0, []⟩, rfl, rfl, Own.nil _ _ _ _ _, hb⟩
    · rw [if_neg hl]
      unfold pkt4
      rw [hll]
      exact put4_ok h hf A n c l w hr hc hcm hx _ rfl (by omega) _ _ rfl rfl
end Go.Proofs.YtckbleiikldloaaDoor


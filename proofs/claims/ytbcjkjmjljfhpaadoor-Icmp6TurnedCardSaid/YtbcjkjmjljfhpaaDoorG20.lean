/- Texts of this claim put together, in build order: each one's own remark stands ahead of it. -/
import Derived.Test.YtbcjkjmjljfhpaaDoorG06
import Derived.Test.YtbcjkjmjljfhpaaDoorG16
import Derived.Test.YtbcjkjmjljfhpaaDoorG01
import Derived.Test.YtbcjkjmjljfhpaaDoorG12
import Derived.Test.YtbcjkjmjljfhpaaDoorG17
import Derived.Test.YtbcjkjmjljfhpaaDoorG19
import Derived.Deep.DeepCutAuto
/- What Put of IPv6 returns is the caller's own row. No condition but sizes. -/
namespace Go.Proofs.YtbcjkjmjljfhpaaDoor
open Go.RowKit
set_option linter.unusedVariables false
set_option maxRecDepth 20000
set_option linter.unusedSimpArgs false

set_option maxHeartbeats 1000000 in
theorem put6_okO (h : H6) (hf : h.fit) (A : Option Addr) (n c : Nat) (l : List UInt8) (w : World) (hr : Row w w.heap.size 1 A n (bv l)) (hc : n ≤ c) (hcm : c ≤ maxLen) (hx0 : 0 ≤ h.flow) (hx1 : h.flow < 1048576) (hl : n ≤ 65495) :
    Calls Tryd.prog 21 #[.agg h.cells.toArray, .slice A n c] w fun e w' => ∃ r : Bs, e = .returned (.tuple #[r.v, .int .i64 0]) ∧ r.l = front6 h n ++ h.src ++ h.dst ++ l ∧ Own w' w.heap.size 5 1 r.A r.n r.c (bv r.l) ∧ Below w.heap.size w w' := by
  have hll : l.length = n := by have := hr.1; rw [bv_length] at this; omega
  obtain ⟨o1, o2⟩ := or6 h.cls h.flow hf.cls.1 hf.cls.2 hx0 hx1
  have k0 := hf.cls.1
  have k1 := hf.cls.2
  have n0 := hf.next.1
  have n1 := hf.next.2
  have t0 := hf.ttl.1
  have t1 := hf.ttl.2
  have hw1 : IntKind.u64.wrap h.flow = h.flow := wrap64_id h.flow (by omega) (by omega)
  have hw2 : IntKind.u64.wrap (n : Int) = (n : Int) := wrap64_id (n : Int) (by omega) (by omega)
  have hl' : ¬ (65495 : Int) < n := by omega
  have HT := Lib.hid (show (front6 h n ++ h.src ++ h.dst ++ l).length ≤ 1099511627776 by
    simp only [List.length_append, front6, toBe_length, List.length_cons, List.length_nil, hf.ok.src, hf.ok.dst]; omega)
  have HR := Lib.hid hr
  have HLL := Lib.hid hll
  have HF := Lib.hid hf
  have hmk := make8
  have HM := Lib.hid hmk
  obtain ⟨Nv, hNv⟩ : ∃ Nv, Nv = 1610612736 + h.cls * 1048576 + h.flow := ⟨_, rfl⟩
  rw [← hNv] at o2
  have N0 : 0 ≤ Nv := by omega
  have N1 : Nv < 4294967296 := by omega
  have HN := Lib.hid hNv
  clear hNv
  clear hr hll hf hmk
  go_enter Tryd.func21, Tryd.ntmps21
  go_wp2_with (first
    | (refine wpList_box_blk rfl 58 _ rfl h.cells rfl ?_; intro w1 hb1 hB1 hs1; have c0 : w1.cell? ⟨w.heap.size, 0, none⟩ = some (.int .u8 h.cls) := hb1.cell 0; have c1 : w1.cell? ⟨w.heap.size, 1, none⟩ = some (.int .i64 h.flow) := hb1.cell 1; have hmk := HM.out w1)
    | fail)
  have hrow2 : Row (w1.alloc (.cells (bv [0, 0, 0, 0, 0, 0, 0, 0]).toArray 5)) (w1.alloc (.cells (bv [0, 0, 0, 0, 0, 0, 0, 0]).toArray 5)).heap.size 1 (some ⟨w.heap.size + 1, 0, none⟩) 8 (bv [0, 0, 0, 0, 0, 0, 0, 0]) := by
    rw [World.size_alloc, ← hs1]
    exact row_lit w1 (bv [0, 0, 0, 0, 0, 0, 0, 0]).toArray [0, 0, 0, 0, 0, 0, 0, 0] 8 rfl rfl
  refine (put_yes _ 8 8 [0, 0, 0, 0, 0, 0, 0, 0] 0 4 _ _ hrow2 (by omega) (show (8 : Nat) ≤ maxLen by simp [maxLen]) (by omega) (by omega) (by omega) (by omega) (by omega) N0 (by rw [show ((256 : Int) ^ (4 : Int).toNat) = 4294967296 from rfl]; exact N1)).mono ?_
  rintro e w3 ⟨A3, c3, rfl, hown3, hb3⟩
  have e3 : ([0, 0, 0, 0, 0, 0, 0, 0] : List UInt8).take (0 : Int).toNat ++ toBe (4 : Int).toNat Nv.toNat ++ ([0, 0, 0, 0, 0, 0, 0, 0] : List UInt8).drop ((0 : Int).toNat + (4 : Int).toNat) = toBe 4 Nv.toNat ++ [0, 0, 0, 0] := by simp
  rw [e3] at hown3
  have hB3 : Below w.heap.size w w3 := bthen hB1 (ballocd hb3)
  have hbx3 := (hb1.alloc (.cells (bv [0, 0, 0, 0, 0, 0, 0, 0]).toArray 5)).on hb3
  have HO3 := Lib.hid hown3
  clear hown3 hb3 hrow2 e3 c0 c1 hmk
  go_wp2_with fail
  refine (put_yes _ 8 c3 _ 4 2 n w3 HO3.out.row HO3.out.le HO3.out.cap (by omega) (by omega) (by omega) (by omega) (by omega) (by omega) (by rw [show ((256 : Int) ^ (2 : Int).toNat) = 65536 from rfl]; omega)).mono ?_
  rintro e w4 ⟨A4, c4, rfl, hown4, hb4⟩
  have hT4 : (toBe 4 Nv.toNat).length = 4 := toBe_length _ _
  have e4 : (toBe 4 Nv.toNat ++ [0, 0, 0, 0]).take (4 : Int).toNat ++ toBe (2 : Int).toNat ((n : Int)).toNat ++ (toBe 4 Nv.toNat ++ [0, 0, 0, 0]).drop ((4 : Int).toNat + (2 : Int).toNat) = toBe 4 Nv.toNat ++ toBe 2 n ++ [0, 0] := by
    rw [Int.toNat_natCast, show (4 : Int).toNat = 4 from rfl, show (2 : Int).toNat = 2 from rfl, List.take_left' hT4, show (4 + 2 : Nat) = 4 + 2 from rfl, ← List.drop_drop, List.drop_left' hT4]
    rfl
  rw [e4] at hown4
  have hB4 := bthen hB3 hb4
  have hbx4 := hbx3.on hb4
  obtain ⟨g5, rfl, hg5, hg5', hcl, hfr⟩ := hown4.open_ (by omega)
  have hl8 : (toBe 4 Nv.toNat ++ toBe 2 n ++ [0, 0]).length = 8 := by simp [toBe_length]
  have HL8 := Lib.hid hl8
  obtain ⟨u6, hu6⟩ := get_ex (toBe 4 Nv.toNat ++ toBe 2 n ++ [0, 0]) (k := 6) (by omega)
  obtain ⟨u7, hu7⟩ := get_ex (toBe 4 Nv.toNat ++ toBe 2 n ++ [0, 0]) (k := 7) (by omega)
  have hc6 := hcl 6 _ (bv_get _ 6 u6 hu6)
  have hc7 := hcl 7 _ (bv_get _ 7 u7 hu7)
  have hf6 := hfr 6
  have hf7 := hfr 7
  have hne : w.heap.size ≠ g5 := by have := hB3.size; have := hb1.lt; have := hbx3.lt; omega
  have c3' : w4.cell? ⟨w.heap.size, 3, none⟩ = some (.int .u8 h.next) := hbx4.cell 3
  have c4' : w4.cell? ⟨w.heap.size, 4, none⟩ = some (.int .u8 h.ttl) := hbx4.cell 4
  have HO4 := Lib.hid hown4
  have HX4 := Lib.hid hbx4
  clear hown4 hbx4 hbx3 hb4 e4 hT4 hl8 hcl hfr hu6 hu7
  go_wp2_with fail
  obtain ⟨w5, hw5⟩ : ∃ w5, w5 = (w4.setCell ⟨g5, 6, none⟩ (.int .u8 h.next)).setCell ⟨g5, 7, none⟩ (.int .u8 h.ttl) := ⟨_, rfl⟩
  rw [← hw5]
  have ho5 : Own w5 w3.heap.size 5 1 (some ⟨g5, 0, none⟩) 8 c4 (bv (front6 h n)) := by
    have h6 := (HO4.out.set (j := 6) (by omega) (.int .u8 h.next)).set (j := 7) (by omega) (.int .u8 h.ttl)
    rw [set2_bv _ _ _ HL8.out n0 n1 t0 t1, ← hw5] at h6
    have e6 : (toBe 4 Nv.toNat ++ toBe 2 n ++ [0, 0]).take 6 ++ [ub h.next, ub h.ttl] = front6 h n := by
      unfold front6
      rw [← HN.out]
      rw [List.take_left' (by simp [toBe_length])]
    rw [e6] at h6
    exact h6
  have hx5 : Blk w5 w.heap.size 58 h.cells := by
    rw [hw5]
    exact (HX4.out.far (p := ⟨g5, 6, none⟩) hne _).far (p := ⟨g5, 7, none⟩) hne _
  have hB5 : Below w.heap.size w w5 := by
    rw [hw5]
    exact (hB4.setCell (show w.heap.size ≤ g5 by have := hB3.size; omega) _).setCell (show w.heap.size ≤ g5 by have := hB3.size; omega) _
  have HO5 := Lib.hid ho5.ok
  have HS5 : Hid ((Bs.mk (some ⟨w.heap.size, 5, none⟩) 16 16 h.src).ok w5) := by
    have := hx5.row 1 5 16 (by rw [h.cells_length HF.out.ok]; omega)
    rw [show 16 * 1 = 16 from rfl, h.drop_src HF.out.ok] at this
    exact Lib.hid ⟨this, Nat.le_refl _, by simp [maxLen]⟩
  have HD5 : Hid ((Bs.mk (some ⟨w.heap.size, 21, none⟩) 16 16 h.dst).ok w5) := by
    have := hx5.row 1 21 16 (by rw [h.cells_length HF.out.ok]; omega)
    rw [show 16 * 1 = 16 from rfl, h.drop_dst HF.out.ok] at this
    exact Lib.hid ⟨this, Nat.le_refl _, by simp [maxLen]⟩
  have HL5 : Hid ((Bs.mk A n c l).ok w5) := Lib.hid ⟨(HR.out.below hB5).more hB5.size, hc, hcm⟩
  have HB5 := Lib.hid hB5
  obtain ⟨c5, rfl⟩ : ∃ c5, c5 = c4 := ⟨_, rfl⟩
  clear hw5 ho5 hx5 hB5 hc6 hc7 hf6 hf7 c3' c4' HO4 HX4 HO3 hB4 hB3 hb1 hB1 hs1
  refine wp_region_rel (fun A B => A.grownBy B none) (fun A => grown_refl A _) (fun A B C h k => grown_trans h k) (relAt [fun v _ => v = .slice (some ⟨g5, 0, none⟩) 8 c5, fun v _ => v = .pointer (some ⟨w.heap.size, 5, none⟩), fun v _ => v = .slice (some ⟨w.heap.size, 5, none⟩) 16 16, fun v _ => v = .pointer (some ⟨w.heap.size, 21, none⟩), fun v _ => v = .slice (some ⟨w.heap.size, 21, none⟩) 16 16, fun v _ => v = .slice A n c, RowsR [front6 h n, h.src, h.dst, l], OwnR w.heap.size (front6 h n ++ h.src ++ h.dst ++ l), OwnR w.heap.size (front6 h n ++ h.src ++ h.dst ++ l), fun v _ => v = .int .i64 0]) (MonoL.at_ (.cons (mono_val _) (.cons (mono_val _) (.cons (mono_val _) (.cons (mono_val _) (.cons (mono_val _) (.cons (mono_val _) (.cons (mono_rows _) (.cons (mono_own _ _) (.cons (mono_own _ _) (.cons (mono_val _) .nil))))))))))) (by kernel_rfl) (by kernel_rfl) ⟨?_, ?_, ?_, ?_, ?_, ?_, ?_, ?_, ?_, ?_, trivial⟩ ?_
  · intro a vs W hX hR he hf K hK
    rw [if_pos (wanted_none rfl)]
    have e6 : a.eval (.tmp 6) = .slice (some ⟨g5, 0, none⟩) 8 c5 := hf 6 (by kernel_rfl)
    refine wp_value (v := .slice (some ⟨g5, 0, none⟩) 8 c5) ?_ (hK _ _ rfl (grown_refl W _))
    simp only [execOp, e6]
    try go_simp
    try (first | rfl | omega | (simp only [IntKind.wrap_i64, IntKind.wrap_u8, IntKind.wrap_u64, IntKind.wrap_u16, IntKind.wrap_u32]; omega) | (rw [Int.tmod_eq_emod_of_nonneg (by omega)]) | (rw [Int.tmod_eq_emod_of_nonneg (by omega)]; omega))
  · intro a vs W hX hR he hf K hK
    rw [if_pos (wanted_none rfl)]
    have e2 : a.eval (.tmp 2) = .pointer (some ⟨w.heap.size, 0, none⟩) := hf 2 (by kernel_rfl)
    refine wp_value (v := .pointer (some ⟨w.heap.size, 5, none⟩)) ?_ (hK _ _ rfl (grown_refl W _))
    simp only [execOp, e2]
    try go_simp
    try (first | rfl | omega | (simp only [IntKind.wrap_i64, IntKind.wrap_u8, IntKind.wrap_u64, IntKind.wrap_u16, IntKind.wrap_u32]; omega) | (rw [Int.tmod_eq_emod_of_nonneg (by omega)]) | (rw [Int.tmod_eq_emod_of_nonneg (by omega)]; omega))
  · intro a vs W hX hR he hf K hK
    rw [if_pos (wanted_none rfl)]
    have e54 : a.eval (.tmp 54) = .pointer (some ⟨w.heap.size, 5, none⟩) := (he 1 54 (by kernel_rfl) rfl).trans (hR 1 (by kernel_rfl))
    refine wp_value (v := .slice (some ⟨w.heap.size, 5, none⟩) 16 16) ?_ (hK _ _ rfl (grown_refl W _))
    simp only [execOp, e54]
    try go_simp
    try (first | rfl | omega | (simp only [IntKind.wrap_i64, IntKind.wrap_u8, IntKind.wrap_u64, IntKind.wrap_u16, IntKind.wrap_u32]; omega) | (rw [Int.tmod_eq_emod_of_nonneg (by omega)]) | (rw [Int.tmod_eq_emod_of_nonneg (by omega)]; omega))
  · intro a vs W hX hR he hf K hK
    rw [if_pos (wanted_none rfl)]
    have e2 : a.eval (.tmp 2) = .pointer (some ⟨w.heap.size, 0, none⟩) := hf 2 (by kernel_rfl)
    refine wp_value (v := .pointer (some ⟨w.heap.size, 21, none⟩)) ?_ (hK _ _ rfl (grown_refl W _))
    simp only [execOp, e2]
    try go_simp
    try (first | rfl | omega | (simp only [IntKind.wrap_i64, IntKind.wrap_u8, IntKind.wrap_u64, IntKind.wrap_u16, IntKind.wrap_u32]; omega) | (rw [Int.tmod_eq_emod_of_nonneg (by omega)]) | (rw [Int.tmod_eq_emod_of_nonneg (by omega)]; omega))
  · intro a vs W hX hR he hf K hK
    rw [if_pos (wanted_none rfl)]
    have e56 : a.eval (.tmp 56) = .pointer (some ⟨w.heap.size, 21, none⟩) := (he 3 56 (by kernel_rfl) rfl).trans (hR 3 (by kernel_rfl))
    refine wp_value (v := .slice (some ⟨w.heap.size, 21, none⟩) 16 16) ?_ (hK _ _ rfl (grown_refl W _))
    simp only [execOp, e56]
    try go_simp
    try (first | rfl | omega | (simp only [IntKind.wrap_i64, IntKind.wrap_u8, IntKind.wrap_u64, IntKind.wrap_u16, IntKind.wrap_u32]; omega) | (rw [Int.tmod_eq_emod_of_nonneg (by omega)]) | (rw [Int.tmod_eq_emod_of_nonneg (by omega)]; omega))
  · intro a vs W hX hR he hf K hK
    rw [if_pos (wanted_none rfl)]
    have e1 : a.eval (.tmp 1) = .slice A n c := hf 1 (by kernel_rfl)
    refine wp_value (v := .slice A n c) ?_ (hK _ _ rfl (grown_refl W _))
    simp only [execOp, e1]
    try go_simp
    try (first | rfl | omega | (simp only [IntKind.wrap_i64, IntKind.wrap_u8, IntKind.wrap_u64, IntKind.wrap_u16, IntKind.wrap_u32]; omega) | (rw [Int.tmod_eq_emod_of_nonneg (by omega)]) | (rw [Int.tmod_eq_emod_of_nonneg (by omega)]; omega))
  · intro a vs W hX hR he hf K hK
    rw [if_pos (wanted_none rfl)]
    have e53 : a.eval (.tmp 53) = .slice (some ⟨g5, 0, none⟩) 8 c5 := (he 0 53 (by kernel_rfl) rfl).trans (hR 0 (by kernel_rfl))
    have e55 : a.eval (.tmp 55) = .slice (some ⟨w.heap.size, 5, none⟩) 16 16 := (he 2 55 (by kernel_rfl) rfl).trans (hR 2 (by kernel_rfl))
    have e57 : a.eval (.tmp 57) = .slice (some ⟨w.heap.size, 21, none⟩) 16 16 := (he 4 57 (by kernel_rfl) rfl).trans (hR 4 (by kernel_rfl))
    have e58 : a.eval (.tmp 58) = .slice A n c := (he 5 58 (by kernel_rfl) rfl).trans (hR 5 (by kernel_rfl))
    have f53 : a.tmps[53]?.getD undef = .slice (some ⟨g5, 0, none⟩) 8 c5 := by simpa [Act.eval] using e53
    have f55 : a.tmps[55]?.getD undef = .slice (some ⟨w.heap.size, 5, none⟩) 16 16 := by simpa [Act.eval] using e55
    have f57 : a.tmps[57]?.getD undef = .slice (some ⟨w.heap.size, 21, none⟩) 16 16 := by simpa [Act.eval] using e57
    have f58 : a.tmps[58]?.getD undef = .slice A n c := by simpa [Act.eval] using e58
    have hbW := bthen (below_drew _) (grow_below hX)
    refine wp_value (v := .slice (some ⟨W.heap.size, 0, none⟩) 4 4) (w' := W.alloc (.cells #[.slice (some ⟨g5, 0, none⟩) 8 c5, .slice (some ⟨w.heap.size, 5, none⟩) 16 16, .slice (some ⟨w.heap.size, 21, none⟩) 16 16, .slice A n c] 22)) ?_ (hK _ _ ⟨[⟨some ⟨g5, 0, none⟩, 8, c5, front6 h n⟩, ⟨some ⟨w.heap.size, 5, none⟩, 16, 16, h.src⟩, ⟨some ⟨w.heap.size, 21, none⟩, 16, 16, h.dst⟩, ⟨A, n, c, l⟩], _, _, _, rfl, rfl, ?_, ?_⟩ (World.grownBy_alloc _ _ _))
    · simp only [execOp]
      go_simp
    · rw [World.size_alloc]
      exact Row.new (n := 4) (sz := 1) W _ rfl
    · have k := fun r (hr : Bs.ok W r) => hr.below (alloc_below W (.cells #[.slice (some ⟨g5, 0, none⟩) 8 c5, .slice (some ⟨w.heap.size, 5, none⟩) 16 16, .slice (some ⟨w.heap.size, 21, none⟩) 16 16, .slice A n c] 22))
      simp only [List.mem_cons, List.not_mem_nil, or_false]
      rintro r (rfl | rfl | rfl | rfl)
      · exact k _ (HO5.out.below hbW)
      · exact k _ (HS5.out.below hbW)
      · exact k _ (HD5.out.below hbW)
      · exact k _ (HL5.out.below hbW)
  · intro a vs W hX hR he hf K hK
    rw [if_pos (wanted_none rfl)]
    have e59 := he 6 59 (by kernel_rfl) rfl
    have p59 := hR 6 (by kernel_rfl)
    obtain ⟨rows, R, k, c', hv, hl, hr, ho⟩ := p59
    rw [hv] at e59
    have hfl : flat rows = front6 h n ++ h.src ++ h.dst ++ l := by rw [flat_map, hl]; simp
    have hlb := lenV_bs rows ho
    have hk4 : k ≤ 4 := by have h1 := hr.1; rw [List.length_map] at h1; have h2 := congrArg List.length hl; simp at h2; omega
    refine wp_enter (f := 45) (args := #[.slice R k c']) (by simp only [execOp, e59]; go_simp; simpa [Act.eval] using e59) ((concat_bytes R k c' (rows.map Bs.sl) W (by rw [vs_bs]; exact hr) (fun r hx => by obtain ⟨x, hx2, rfl⟩ := List.mem_map.1 hx; exact (ho x hx2).sl) (by omega) (by rw [hlb, hfl]; exact HT.out)).mono ?_)
    rintro e w' ⟨A', cc, rfl, hown, hb⟩
    rw [flatV_bs, hfl, hlb, hfl] at hown
    exact ⟨_, rfl, hK _ _ ⟨A', _, cc, by rw [hlb, hfl], hown.mono (by have := (bthen (below_drew _) (grow_below hX)).size; have := HB5.out.size; omega)⟩ (below_grow hb _)⟩
  · intro a vs W hX hR he hf K hK
    rw [if_pos (wanted_none rfl)]
    have e60 := he 7 60 (by kernel_rfl) rfl
    have p60 := hR 7 (by kernel_rfl)
    refine wp_value (v := vs 7) ?_ (hK _ _ p60 (grown_refl W _))
    simp only [execOp, e60]
    try go_simp
  · intro a vs W hX hR he hf K hK
    rw [if_pos (wanted_none rfl)]
    refine wp_value (v := .int .i64 0) ?_ (hK _ _ rfl (grown_refl W _))
    simp only [execOp]
    try go_simp
    try (first | rfl | omega | (simp only [IntKind.wrap_i64, IntKind.wrap_u8, IntKind.wrap_u64, IntKind.wrap_u16, IntKind.wrap_u32]; omega) | (rw [Int.tmod_eq_emod_of_nonneg (by omega)]) | (rw [Int.tmod_eq_emod_of_nonneg (by omega)]; omega))
  · intro vs W hX hR
    have q0 := hR 0 (by decide)
    have q1 := hR 1 (by decide)
    have q2 := hR 2 (by decide)
    have q3 := hR 3 (by decide)
    have q4 := hR 4 (by decide)
    have q5 := hR 5 (by decide)
    have q6 := hR 6 (by decide)
    have q7 := hR 7 (by decide)
    have q8 := hR 8 (by decide)
    have q9 := hR 9 (by decide)
    change vs 0 = .slice (some ⟨g5, 0, none⟩) 8 c5 at q0
    change vs 1 = .pointer (some ⟨w.heap.size, 5, none⟩) at q1
    change vs 2 = .slice (some ⟨w.heap.size, 5, none⟩) 16 16 at q2
    change vs 3 = .pointer (some ⟨w.heap.size, 21, none⟩) at q3
    change vs 4 = .slice (some ⟨w.heap.size, 21, none⟩) 16 16 at q4
    change vs 5 = .slice A n c at q5
    change (RowsR [front6 h n, h.src, h.dst, l]) (vs 6) W at q6
    change (OwnR w.heap.size (front6 h n ++ h.src ++ h.dst ++ l)) (vs 7) W at q7
    change (OwnR w.heap.size (front6 h n ++ h.src ++ h.dst ++ l)) (vs 8) W at q8
    change vs 9 = .int .i64 0 at q9
    simp only [putAll, Act.put, List.setIfInBounds_toArray, List.set_cons_zero, List.set_cons_succ, q0, q1, q2, q3, q4, q5, q9]
    clear q0 q1 q2 q3 q4 q5 q9
    clear hR
    obtain ⟨A9, n9, c9, hv9, ho9⟩ := q8
    rw [hv9]
    go_wp2
    go_ret2
    exact ⟨⟨A9, n9, c9, _⟩, rfl, rfl, ho9, bthen HB5.out (bthen (below_drew _) (grow_below hX))⟩


theorem put6_own (h : H6) (hf : h.fit) (A : Option Addr) (n c : Nat) (l : List UInt8) (w : World) (hr : Row w w.heap.size 1 A n (bv l)) (hc : n ≤ c) (hcm : c ≤ maxLen) :
    Calls Tryd.prog 21 #[.agg h.cells.toArray, .slice A n c] w fun e w' => ∃ r : Bs, e = .returned (.tuple #[r.v, .int .i64 (put6 h l).2]) ∧ r.l = (put6 h l).1 ∧ Own w' w.heap.size 5 1 r.A r.n r.c (bv r.l) ∧ Below w.heap.size w w' := by
  have hll : l.length = n := by have := hr.1; rw [bv_length] at this; omega
  unfold put6
  by_cases hx : h.flow < 0 ∨ 1048576 ≤ h.flow
  · rw [if_pos hx]
    refine (put6_arg h hf A n c w hx).mono ?_
    rintro e w' ⟨rfl, hb⟩
    exact ⟨⟨none, 0, 0, []⟩, rfl, rfl, Own.nil _ _ _ _ _, hb⟩
  · rw [if_neg hx]
    by_cases hl : 65495 < l.length
    · rw [if_pos hl]
      refine (put6_len h hf A n c w (by omega) (by omega) (by omega)).mono ?_
      rintro e w' ⟨rfl, hb⟩
      exact ⟨⟨none, 0, 0, []⟩, rfl, rfl, Own.nil _ _ _ _ _, hb⟩
    · rw [if_neg hl, hll]
      exact put6_okO h hf A n c l w hr hc hcm (by omega) (by omega) (by omega)
end Go.Proofs.YtbcjkjmjljfhpaaDoor

/- Plain laws of extensions (layer 22): what is put is told; a bit turned; objects of other kinds. No condition. -/
namespace Go.Proofs.YtbcjkjmjljfhpaaDoor
open Go.RowKit
set_option linter.unusedVariables false
set_option maxRecDepth 20000
set_option linter.unusedSimpArgs false

theorem unp_packedX (x : Ent) (hf : x.fit) (hg : x.good) (r : List UInt8) : unpE (packL x ++ r) = x := by
  have hl : (packL x).length = 4 := packL_four hg
  have hp : packL x = toBe 4 x.num.toNat := if_pos hg
  obtain ⟨l, c, b, t⟩ := x
  obtain ⟨g0, g1, g2⟩ := hg
  have c0 := hf.c0
  have t0 := hf.t0
  have t1 := hf.t1
  simp only at g0 g1 g2 c0 t0 t1
  obtain ⟨N, hN⟩ : ∃ N : Nat, (Ent.mk l c b t).num = (N : Int) := ⟨(Ent.mk l c b t).num.toNat, by unfold Ent.num; simp only; split <;> omega⟩
  have hb : be ((packL ⟨l, c, b, t⟩ ++ r).take 4) = N := by
    rw [List.take_left' hl, hp, hN, be_toBe, Int.toNat_natCast]
    have : (N : Int) < 4294967296 := by rw [← hN]; unfold Ent.num; simp only; split <;> omega
    omega
  unfold unpE
  rw [if_neg (by rw [List.length_append]; omega), hb]
  unfold Ent.num at hN
  simp only at hN
  cases b
  · simp only [Bool.false_eq_true, if_false] at hN
    congr 1
    · omega
    · omega
    · simp; omega
    · omega
  · simp only [if_true] at hN
    congr 1
    · omega
    · omega
    · simp; omega
    · omega
theorem xor_bitX (u b : Nat) (hu : u < 256) (hb : b < 8) : ((u ^^^ 2 ^ b) = u + 2 ^ b ∨ (u ^^^ 2 ^ b) + 2 ^ b = u) ∧ (u ^^^ 2 ^ b) < 256 := by
  have key : ∀ (u : Fin 256) (b : Fin 8), ((u.val ^^^ 2 ^ b.val) = u.val + 2 ^ b.val ∨ (u.val ^^^ 2 ^ b.val) + 2 ^ b.val = u.val) ∧ (u.val ^^^ 2 ^ b.val) < 256 := by decide +kernel
  exact key ⟨u, hu⟩ ⟨b, hb⟩
theorem pow_le7X (b : Nat) (h : b < 8) : 1 ≤ 2 ^ b ∧ 2 ^ b ≤ 128 := by
  have : 2 ^ b ≤ 2 ^ 7 := Nat.pow_le_pow_right (by omega) (by omega)
  exact ⟨Nat.one_le_two_pow, by omega⟩
theorem raw_turnedX (l : List UInt8) (j : Nat) (u : UInt8) (b : Nat) (hb : b < 8) (hu : l[j]? = some u) (hr : rawN l = 65535) : rawN (l.set j (UInt8.ofNat (u.toNat ^^^ 2 ^ b))) ≠ 65535 := by
  obtain ⟨hx, hlt⟩ := xor_bitX u.toNat b u.toNat_lt hb
  obtain ⟨p1, p2⟩ := pow_le7X b hb
  have hs := sumB_set false l j (UInt8.ofNat (u.toNat ^^^ 2 ^ b)) u hu
  rw [UInt8.toNat_ofNat', Nat.mod_eq_of_lt (show u.toNat ^^^ 2 ^ b < 2 ^ 8 by omega)] at hs
  unfold rawN at hr ⊢
  generalize sumB false l = s at *
  generalize sumB false (l.set j (UInt8.ofNat (u.toNat ^^^ 2 ^ b))) = s' at *
  generalize u.toNat ^^^ 2 ^ b = v at *
  generalize 2 ^ b = p at *
  generalize u.toNat = x at *
  intro hr'
  unfold foldN at hr hr'
  split at hr
  · omega
  split at hr'
  · omega
  split at hs <;> omega
theorem toBe2_eq (c : Nat) (h : c ≤ 65535) : toBe 2 c = [UInt8.ofNat (c / 256), UInt8.ofNat (c % 256)] := by
  have h1 := toBe_cons 1 c
  have h2 := toBe_cons 0 c
  rw [h1, h2]
  simp only [Nat.pow_one, Nat.pow_zero, Nat.div_one, toBe]
  rw [Nat.mod_eq_of_lt (show c / 256 < 256 by omega)]
theorem raw_hd22 (s : List UInt8) : rawN (hd22 s) = 65535 := by
  have h := sum_right ([32, 0, 0, 0] ++ s) 1 (by simp) (65535 - rawN ([32, 0, 0, 0] ++ s)) rfl
  unfold hd22
  rw [toBe2_eq _ (by omega)]
  exact h

structure Ob.fine (x : Ob) : Prop where
  good : x.good = true
  cls : 0 ≤ x.cls ∧ x.cls ≤ 255
  kind : 0 ≤ x.kind ∧ x.kind ≤ 255
theorem Ob.good_len {x : Ob} (h : x.good = true) : x.body.length ≤ 1000 ∧ x.body.length % 4 = 0 := by
  unfold Ob.good at h
  simpa using h
theorem goG_obs : ∀ (l : List Ob) (f : Nat) (acc : List Ob), l.length ≤ f → (∀ x ∈ l, x.fine) → goG f acc (obsB l) = (acc ++ l, 0) := by
  intro l
  induction l with
  | nil =>
    intro f acc _ _
    rw [List.append_nil]
    cases f with
    | zero => rfl
    | succ f => unfold goG; rw [if_pos (show (obsB []).length = 0 from rfl)]
  | cons x l ih =>
    intro f acc hf hx
    obtain ⟨f, rfl⟩ : ∃ q, f = q + 1 := ⟨f - 1, by simp at hf; omega⟩
    have hxf := hx x (by simp)
    obtain ⟨h1, h2⟩ := Ob.good_len hxf.good
    have he : obsB (x :: l) = obB x ++ obsB l := rfl
    have hbl := obB_length x
    have ho : obB x = toBe 2 (x.body.length + 4) ++ ([ub x.cls, ub x.kind] ++ x.body) := by unfold obB; rw [List.append_assoc]
    have ht : be ((obB x ++ obsB l).take 2) = x.body.length + 4 := by
      rw [ho, List.append_assoc, List.take_left' (toBe_length _ _), be_toBe]
      exact Nat.mod_eq_of_lt (by omega)
    have hbad : badG (obB x ++ obsB l) = false := by
      unfold badG
      rw [ht, List.length_append, hbl]
      simp
      omega
    have hob : obG (obB x ++ obsB l) = x := by
      unfold obG
      rw [ht, List.take_left' hbl, ho, toBe2_eq _ (by omega)]
      have e1 := ub_nat x.cls hxf.cls.1 hxf.cls.2
      have e2 := ub_nat x.kind hxf.kind.1 hxf.kind.2
      obtain ⟨c, k, b⟩ := x
      simp only [List.cons_append, List.nil_append, List.getD_cons_succ, List.getD_cons_zero, List.drop_succ_cons, List.drop_zero] at e1 e2 ⊢
      rw [e1, e2]
    rw [he]
    unfold goG
    rw [if_neg (by rw [List.length_append, hbl]; omega), if_neg (by rw [List.length_append, hbl]; omega), hbad, if_neg (by decide), hob, ht, List.drop_left' hbl, ih f (acc ++ [x]) (by simp at hf; omega) (fun y hy => hx y (by simp [hy]))]
    simp
theorem obsB_ge (l : List Ob) : l.length ≤ (obsB l).length := by
  induction l with
  | nil => simp
  | cons x l ih =>
    have he : obsB (x :: l) = obB x ++ obsB l := rfl
    rw [he, List.length_append, obB_length, List.length_cons]
    omega
theorem hd22_cons (s : List UInt8) : ∃ a b, hd22 s = 32 :: 0 :: a :: b :: s := by
  unfold hd22
  rw [toBe2_eq _ (by omega)]
  exact ⟨_, _, rfl⟩
theorem getG_hd (l : List Ob) (h : ∀ x ∈ l, x.fine) : getG (hd22 (obsB l)) = (l, 0) := by
  have hr := raw_hd22 (obsB l)
  obtain ⟨a, b, he⟩ := hd22_cons (obsB l)
  rw [he] at hr ⊢
  unfold getG
  rw [if_neg (by simp), if_neg (by simp), if_neg (by rw [hr]; simp)]
  simp only [List.length_cons, List.drop_succ_cons, List.drop_zero]
  have := goG_obs l ((obsB l).length) [] (obsB_ge l) h
  simpa using this
theorem getG_turned (z : List UInt8) (h4 : 4 ≤ z.length) (hr : rawN z = 65535) (j : Nat) (u : UInt8) (b : Nat) (hb : b < 8) (hu : z[j]? = some u) :
    (getG (z.set j (UInt8.ofNat (u.toNat ^^^ 2 ^ b)))).2 = 12 ∨ (getG (z.set j (UInt8.ofNat (u.toNat ^^^ 2 ^ b)))).2 = 14 := by
  have hne := raw_turnedX z j u b hb hu hr
  have hl : (z.set j (UInt8.ofNat (u.toNat ^^^ 2 ^ b))).length = z.length := by simp
  generalize z.set j (UInt8.ofNat (u.toNat ^^^ 2 ^ b)) = z' at hne hl ⊢
  unfold getG
  rw [if_neg (by omega)]
  by_cases hv : (z'.getD 0 0).toNat / 16 ≠ 2
  · rw [if_pos hv]
    exact .inl rfl
  · rw [if_neg hv, if_pos hne]
    exact .inr rfl
theorem entAt_cons (p T : List UInt8) (hp : p.length = 4) (k : Nat) : entAt (p ++ T) (k + 1) = entAt T k := by
  unfold entAt
  rw [show 4 * (k + 1) = 4 + 4 * k by omega, ← List.drop_drop, List.drop_left' hp]
theorem outs_packs (l : List Ent) (hf : ∀ x ∈ l, x.fit) (hg : ∀ x ∈ l, x.good) : outs (l.flatMap packL) l.length = l := by
  induction l with
  | nil => rfl
  | cons x l ih =>
    have hp := packL_four (hg x (by simp))
    have ih' := ih (fun y hy => hf y (by simp [hy])) (fun y hy => hg y (by simp [hy]))
    unfold outs at ih' ⊢
    rw [List.length_cons, List.range_succ_eq_map, List.map_cons, List.map_map, List.flatMap_cons]
    rw [show entAt (packL x ++ l.flatMap packL) 0 = x by unfold entAt; rw [Nat.mul_zero, List.drop_zero]; exact unp_packedX x (hf x (by simp)) (hg x (by simp)) _]
    congr 1
    exact Eq.trans (List.map_congr_left fun k _ => entAt_cons _ _ hp k) ih'
theorem told_of (L : List Ob) (hL : ∀ x ∈ L, x.fine) (l : List Ent) (hf : ∀ x ∈ l, x.fit) (hg : ∀ x ∈ l, x.good) (h16 : l.length ≤ 16) (hfd : L.find? Ob.lab = some ⟨1, 1, l.flatMap packL⟩) : toldG (hd22 (obsB L)) = (l, 0) := by
  unfold toldG
  rw [getG_hd L hL]
  simp only [hfd, packs_len l hg]
  rw [if_neg (by decide), if_neg (by omega), show 4 * l.length / 4 = l.length by omega, outs_packs l hf hg]
end Go.Proofs.YtbcjkjmjljfhpaaDoor

/- What icmp6.Message.may and icmp6.whole (layer 24) compute. No condition but sizes. -/
namespace Go.Proofs.YtbcjkjmjljfhpaaDoor
open Go.RowKit
set_option linter.unusedVariables false
set_option maxRecDepth 20000
set_option linter.unusedSimpArgs false

/-- a message of the program's own -/
structure Mp where
  kind : Int
  mtu : Int
  P : Option Addr
  pn : Nat
  pc : Nat
  beg : List UInt8
  A : Option Addr
  n : Nat
  c : Nat
  st : List Ent
def Mp.cells (m : Mp) : List Value := [.int .i64 m.kind, .int .i64 m.mtu, .slice m.P m.pn m.pc, .slice m.A m.n m.c]
def Mp.m (m : Mp) : Mm := ⟨m.kind, m.mtu, m.beg, m.A, m.n, m.c, m.st⟩
structure Mp.ok (w : World) (m : Mp) : Prop where
  kind : -9223372036854775808 ≤ m.kind ∧ m.kind ≤ 9223372036854775807
  mtu : -9223372036854775808 ≤ m.mtu ∧ m.mtu ≤ 9223372036854775807
  brow : Row w w.heap.size 1 m.P m.pn (bv m.beg)
  ble : m.pn ≤ m.pc
  bcap : m.pc ≤ maxLen
  row : Row w w.heap.size 4 m.A m.n (evs m.st)
  le : m.n ≤ m.c
  cap : m.c ≤ maxLen
  fit : ∀ x ∈ m.st, x.fit
theorem Mp.ok.on {w w' : World} {m : Mp} (h : m.ok w) (hb : Below w.heap.size w w') : m.ok w' := ⟨h.kind, h.mtu, (h.brow.below hb).more hb.size, h.ble, h.bcap, (h.row.below hb).more hb.size, h.le, h.cap, h.fit⟩
theorem Mp.ok.blen {w : World} {m : Mp} (h : m.ok w) : m.beg.length = m.pn := by have := h.brow.1; rw [bv_length] at this; omega
theorem Mp.ok.slen {w : World} {m : Mp} (h : m.ok w) : m.st.length = m.n := ent_len h.row
theorem oneMp (x : Mp) : ∀ v ∈ x.cells, v.oneCell' = true := by
  intro v hv
  simp [Mp.cells] at hv
  rcases hv with rfl | rfl | rfl | rfl <;> rfl
theorem sizeMp (x : Mp) : (Tryd.prog.info? 25).map (·.size) = some x.cells.length := by show _ = some 4; kernel_rfl
theorem zeroMp (w : World) : (zeroValue 25).run Tryd.prog w = .ok (.agg (Mp.cells ⟨0, 0, none, 0, 0, [], none, 0, 0, []⟩).toArray) w := by kernel_rfl

def Mp.good6 (m : Mp) : Bool := decide (¬ m.m.bad6)
set_option maxHeartbeats 4000000 in
theorem may6_any (m : Mp) (w : World) (hm : m.ok w) : Calls Tryd.prog 18 #[.agg m.cells.toArray] w fun e w' => e = .returned (.bool m.good6) ∧ Below w.heap.size w w' := by
  obtain ⟨kd, mt, P, pn, pc, beg, A, n, c, st⟩ := m
  have hk := hm.kind
  have ht := hm.mtu
  have hc1 := hm.le
  have hc2 := hm.cap
  dsimp only at hk ht hc1 hc2
  obtain ⟨hk0, hk1⟩ := hk
  obtain ⟨ht0, ht1⟩ := ht
  unfold maxLen at hc2
  show Calls Tryd.prog 18 #[.agg #[.int .i64 kd, .int .i64 mt, .slice P pn pc, .slice A n c]] w fun e w' => e = .returned (.bool (Mp.good6 ⟨kd, mt, P, pn, pc, beg, A, n, c, st⟩)) ∧ Below w.heap.size w w'
  have fin : ∀ b : Bool, (b = true ↔ ¬ Mm.bad6 ⟨kd, mt, beg, A, n, c, st⟩) → Mp.good6 ⟨kd, mt, P, pn, pc, beg, A, n, c, st⟩ = b := fun b h => by
    unfold Mp.good6 Mp.m
    by_cases hb : b = true
    · rw [hb, decide_eq_true (h.1 hb)]
    · rw [Bool.not_eq_true] at hb
      rw [hb, decide_eq_false (fun h2 => by rw [h.2 h2] at hb; cases hb)]
  have hn0 : (0 : Int) ≤ (n : Int) := by omega
  clear hm
  by_cases h1 : kd = 1
  · subst h1
    by_cases h2 : 0 ≤ mt
    · by_cases h3 : mt ≤ 65535
      · by_cases h4 : n = 0
        · have HF := Lib.hid (fin true (by unfold Mm.bad6; simp; omega))
          have e2 : decide ((0 : Int) ≤ mt) = true := by simpa using h2
          have e3 : decide (mt ≤ (65535 : Int)) = true := by simpa using h3
          subst h4
          clear fin
          go_enter Tryd.func18, Tryd.ntmps18
          go_wp2
          go_ret
          exact ⟨by rw [HF.out]; rfl, alloc_below _ _⟩
        · have HF := Lib.hid (fin false (by unfold Mm.bad6; simp; omega))
          have e2 : decide ((0 : Int) ≤ mt) = true := by simpa using h2
          have e3 : decide (mt ≤ (65535 : Int)) = true := by simpa using h3
          have e4 : ((n : Int) == 0) = false := by simp; omega
          clear fin h4
          go_enter Tryd.func18, Tryd.ntmps18
          go_wp2
          go_ret
          exact ⟨by rw [HF.out]; rfl, alloc_below _ _⟩
      · have HF := Lib.hid (fin false (by unfold Mm.bad6; simp; omega))
        have e2 : decide ((0 : Int) ≤ mt) = true := by simpa using h2
        have e3 : decide (mt ≤ (65535 : Int)) = false := by simpa using h3
        clear fin h3
        go_enter Tryd.func18, Tryd.ntmps18
        go_wp2
        go_ret
        exact ⟨by rw [HF.out]; rfl, alloc_below _ _⟩
    · have HF := Lib.hid (fin false (by unfold Mm.bad6; simp; omega))
      have e2 : decide ((0 : Int) ≤ mt) = false := by simpa using h2
      clear fin h2
      go_enter Tryd.func18, Tryd.ntmps18
      go_wp2
      go_ret
      exact ⟨by rw [HF.out]; rfl, alloc_below _ _⟩
  · have e1 : (kd == 1) = false := by simpa using h1
    by_cases h2 : 0 ≤ kd
    · by_cases h3 : kd ≤ 2
      · by_cases h4 : mt = 0
        · have HF := Lib.hid (fin true (by unfold Mm.bad6; simp; omega))
          have e2 : decide ((0 : Int) ≤ kd) = true := by simpa using h2
          have e3 : decide (kd ≤ (2 : Int)) = true := by simpa using h3
          subst h4
          clear fin h1
          go_enter Tryd.func18, Tryd.ntmps18
          go_wp2
          go_ret
          exact ⟨by rw [HF.out]; rfl, alloc_below _ _⟩
        · have HF := Lib.hid (fin false (by unfold Mm.bad6; simp; omega))
          have e2 : decide ((0 : Int) ≤ kd) = true := by simpa using h2
          have e3 : decide (kd ≤ (2 : Int)) = true := by simpa using h3
          have e4 : (mt == 0) = false := by simpa using h4
          clear fin h4 h1
          go_enter Tryd.func18, Tryd.ntmps18
          go_wp2
          go_ret
          exact ⟨by rw [HF.out]; rfl, alloc_below _ _⟩
      · have HF := Lib.hid (fin false (by unfold Mm.bad6; simp; omega))
        have e2 : decide ((0 : Int) ≤ kd) = true := by simpa using h2
        have e3 : decide (kd ≤ (2 : Int)) = false := by simpa using h3
        clear fin h3 h1
        go_enter Tryd.func18, Tryd.ntmps18
        go_wp2
        go_ret
        exact ⟨by rw [HF.out]; rfl, alloc_below _ _⟩
    · have HF := Lib.hid (fin false (by unfold Mm.bad6; simp; omega))
      have e2 : decide ((0 : Int) ≤ kd) = false := by simpa using h2
      clear fin h2 h1
      go_enter Tryd.func18, Tryd.ntmps18
      go_wp2
      go_ret
      exact ⟨by rw [HF.out]; rfl, alloc_below _ _⟩

def wholeF (src dst b : List UInt8) : List UInt8 := b.take 2 ++ toBe 2 (65535 - rawN (pseudoF src dst 58 (b.length : Int) ++ b)) ++ b.drop 4
set_option maxHeartbeats 4000000 in
theorem whole24_any (src dst : List UInt8) (hsl : src.length = 16) (hdl : dst.length = 16) (R : Option Addr) (k c : Nat) (rows : List Bs) (w : World) (h : Row w w.heap.size 1 R k (rows.map Bs.v)) (hr : ∀ r ∈ rows, r.ok w) (hk : k ≤ 1000)
    (B : List UInt8) (hB : flat rows = B) (N : Nat) (hN : B.length = N) (hN4 : 4 ≤ N) (hNm : N ≤ 65000) :
    Calls Tryd.prog 22 #[.agg (bv src).toArray, .agg (bv dst).toArray, .slice R k c] w fun e w' => ∃ A' c', e = .returned (.slice A' N c') ∧ Own w' w.heap.size 5 1 A' N c' (bv (wholeF src dst B)) ∧ Below w.heap.size w w' := by
  have HSL := Lib.hid hsl
  have HDL := Lib.hid hdl
  have HR := Lib.hid h
  have HRS := Lib.hid hr
  have HBB := Lib.hid hB
  have HN := Lib.hid hN
  obtain ⟨ps, hps⟩ : ∃ ps, pseudoF src dst 58 (N : Int) = ps := ⟨_, rfl⟩
  have HPS := Lib.hid hps
  have hpsl : ps.length ≤ 40 := by rw [← hps]; exact pseudoF_le _ _ _ _
  obtain ⟨Cs, hCs⟩ : ∃ Cs, 65535 - rawN (ps ++ B) = Cs := ⟨_, rfl⟩
  have hCsm : Cs ≤ 65535 := by omega
  have HCS := Lib.hid hCs
  have HW : Hid (wholeF src dst B = B.take 2 ++ toBe 2 Cs ++ B.drop 4) := Lib.hid (by unfold wholeF; rw [hN, hps, hCs])
  clear hsl hdl h hr hB hN hps hCs
  obtain ⟨gs, hgs⟩ : ∃ g, w.heap.size = g := ⟨_, rfl⟩
  have HG := Lib.hid hgs
  go_enter Tryd.func22, Tryd.ntmps22
  go_upto_region 1 with (first
    | (refine wpList_box_blk (by rfl) 26 (.tmp 0) rfl (bv src) rfl ?_; intro w1 hb1 hB1 hs1)
    | (refine wpList_box_blk (by rfl) 26 (.tmp 1) rfl (bv dst) rfl ?_; intro w2 hb2 hB2 hs2))
  rw [hgs] at hb1 hs1
  rw [hs1] at hb2
  have hb12 := hb1.on hB2
  have hBB2 : Below w.heap.size w w2 := bthen hB1 hB2
  have HS1 := Lib.hid hb12
  have HD1 := Lib.hid hb2
  have HBW := Lib.hid hBB2
  try rw [hgs]
  try rw [hs1]
  clear hb1 hb2 hB1 hB2 hs1 hs2 hb12 hBB2 hgs
  go_wp2_with fail
  have hlb := lenV_bs rows HRS.out
  refine (concat_bytes R k c (rows.map Bs.sl) w2 (by rw [vs_bs]; exact (HR.out.below HBW.out).more HBW.out.size) (fun r hx => by obtain ⟨x, hx2, rfl⟩ := List.mem_map.1 hx; exact ((HRS.out x hx2).below HBW.out).sl) (by omega) (by rw [hlb, HBB.out, HN.out]; omega)).mono ?_
  rintro e w3 ⟨A3, c3, rfl, hown, hb3⟩
  rw [flatV_bs, HBB.out, hlb, HBB.out, HN.out] at hown
  rw [hlb, HBB.out, HN.out]
  replace HS1 := Lib.hid (HS1.out.on hb3)
  replace HD1 := Lib.hid (HD1.out.on hb3)
  have HO3 := Lib.hid (hown.mono (show w.heap.size ≤ w2.heap.size from HBW.out.size))
  replace HBW := Lib.hid (bthen HBW.out hb3)
  clear hown hb3 hlb
  go_wp2_with fail
  refine wp_region_rel (fun A B => A.grownBy B none) (fun A => grown_refl A _) (fun A B C h k => grown_trans h k) (relAt (List.cons (fun v _ => v = .slice (some ⟨gs, 0, none⟩) 16 16) (List.cons (fun v _ => v = .slice (some ⟨gs + 1, 0, none⟩) 16 16) (List.cons (fun v _ => v = .slice A3 N c3) (List.cons (fun v _ => v = .int .i64 (N : Int)) (List.cons (BsR ps) (List.cons (fun v _ => v = .slice A3 N c3) (List.cons (RowsR [ps, B]) (List.cons (fun v _ => v = .int .u16 (Cs : Int)) (List.cons (fun v _ => v = .int .u16 (Cs : Int)) ([]))))))))))) (MonoL.at_ (.cons (mono_val _) (.cons (mono_val _) (.cons (mono_val _) (.cons (mono_val _) (.cons (mono_bs _) (.cons (mono_val _) (.cons (mono_rows _) (.cons (mono_val _) (.cons (mono_val _) .nil)))))))))) (by kernel_rfl) (by kernel_rfl) ⟨?_, ?_, ?_, ?_, ?_, ?_, ?_, ?_, ?_, trivial⟩ ?_
  · intro a vs W hX hR he hf K hK
    rw [if_pos (wanted_none rfl)]
    have e3 : a.eval (.tmp 3) = .pointer (some ⟨gs, 0, none⟩) := hf 3 (by kernel_rfl)
    have f3 := e3
    simp only [Act.eval, Array.getD_eq_getD_getElem?] at f3
    refine wp_value (v := _) ?_ (hK _ _ rfl (grown_refl W _))
    simp only [execOp, e3]
    go_simp
  · intro a vs W hX hR he hf K hK
    rw [if_pos (wanted_none rfl)]
    have e4 : a.eval (.tmp 4) = .pointer (some ⟨gs + 1, 0, none⟩) := hf 4 (by kernel_rfl)
    have f4 := e4
    simp only [Act.eval, Array.getD_eq_getD_getElem?] at f4
    refine wp_value (v := _) ?_ (hK _ _ rfl (grown_refl W _))
    simp only [execOp, e4]
    go_simp
  · intro a vs W hX hR he hf K hK
    rw [if_pos (wanted_none rfl)]
    have e7 : a.eval (.tmp 7) = .slice A3 N c3 := hf 7 (by kernel_rfl)
    refine wp_value (v := .slice A3 N c3) ?_ (hK _ _ rfl (grown_refl W _))
    simp only [execOp, e7]
    try go_simp
    try (first | rfl | omega | (simp only [IntKind.wrap_i64, IntKind.wrap_u8, IntKind.wrap_u64, IntKind.wrap_u16, IntKind.wrap_u32]; omega) | (rw [Int.tmod_eq_emod_of_nonneg (by omega)]) | (rw [Int.tmod_eq_emod_of_nonneg (by omega)]; omega))
  · intro a vs W hX hR he hf K hK
    rw [if_pos (wanted_none rfl)]
    have e13 : a.eval (.tmp 13) = .slice A3 N c3 := (he 2 13 (by kernel_rfl) rfl).trans (hR 2 (by kernel_rfl))
    have f13 := e13
    simp only [Act.eval, Array.getD_eq_getD_getElem?] at f13
    refine wp_value (v := .int .i64 (N : Int)) ?_ (hK _ _ rfl (grown_refl W _))
    simp only [execOp, e13]
    try go_simp
    try (first | rfl | omega | (simp only [IntKind.wrap_i64, IntKind.wrap_u8, IntKind.wrap_u64, IntKind.wrap_u16, IntKind.wrap_u32]; omega) | (rw [Int.tmod_eq_emod_of_nonneg (by omega)]) | (rw [Int.tmod_eq_emod_of_nonneg (by omega)]; omega))
  · intro a vs W hX hR he hf K hK
    rw [if_pos (wanted_none rfl)]
    have e11 : a.eval (.tmp 11) = .slice (some ⟨gs, 0, none⟩) 16 16 := (he 0 11 (by kernel_rfl) rfl).trans (hR 0 (by kernel_rfl))
    have e12 : a.eval (.tmp 12) = .slice (some ⟨gs + 1, 0, none⟩) 16 16 := (he 1 12 (by kernel_rfl) rfl).trans (hR 1 (by kernel_rfl))
    have e14 : a.eval (.tmp 14) = .int .i64 (N : Int) := (he 3 14 (by kernel_rfl) rfl).trans (hR 3 (by kernel_rfl))
    have hbW := bthen (below_drew _) (grow_below hX)
    refine wp_enter (f := 47) (args := #[.slice (some ⟨gs, 0, none⟩) 16 16, .slice (some ⟨gs + 1, 0, none⟩) 16 16, .int .u8 58, .int .i64 (N : Int)]) (by simp only [execOp, e11, e12, e14]; go_simp; exact ⟨by simpa [Act.eval] using e11, by simpa [Act.eval] using e12, by simpa [Act.eval] using e14⟩) ((pseudo_any _ _ 16 16 16 16 src dst 58 (N : Int) W (show (Bs.mk (some ⟨gs, 0, none⟩) 16 16 src).ok W from ⟨by have h9 := (HS1.out.on hbW).row 1 0 16 (by rw [bv_length, HSL.out]; omega); rw [List.drop_zero, List.take_of_length_le (by rw [bv_length, HSL.out]; omega)] at h9; exact h9, Nat.le_refl _, by show 16 ≤ maxLen; simp only [maxLen]; omega⟩) (show (Bs.mk (some ⟨gs + 1, 0, none⟩) 16 16 dst).ok W from ⟨by have h9 := (HD1.out.on hbW).row 1 0 16 (by rw [bv_length, HDL.out]; omega); rw [List.drop_zero, List.take_of_length_le (by rw [bv_length, HDL.out]; omega)] at h9; exact h9, Nat.le_refl _, by show 16 ≤ maxLen; simp only [maxLen]; omega⟩) (by omega) (by omega) (by omega) (by omega) (by omega) (by omega)).mono ?_)
    rintro q' w' ⟨r9, rfl, hr9, hl9, hb⟩
    rw [show (58 : Int).toNat = 58 from rfl, HPS.out] at hl9
    exact ⟨_, rfl, hK _ _ ⟨r9.A, r9.n, r9.c, rfl, by rw [← hl9]; exact hr9⟩ (below_grow hb _)⟩
  · intro a vs W hX hR he hf K hK
    rw [if_pos (wanted_none rfl)]
    have e7 : a.eval (.tmp 7) = .slice A3 N c3 := hf 7 (by kernel_rfl)
    refine wp_value (v := .slice A3 N c3) ?_ (hK _ _ rfl (grown_refl W _))
    simp only [execOp, e7]
    try go_simp
    try (first | rfl | omega | (simp only [IntKind.wrap_i64, IntKind.wrap_u8, IntKind.wrap_u64, IntKind.wrap_u16, IntKind.wrap_u32]; omega) | (rw [Int.tmod_eq_emod_of_nonneg (by omega)]) | (rw [Int.tmod_eq_emod_of_nonneg (by omega)]; omega))
  · intro a vs W hX hR he hf K hK
    rw [if_pos (wanted_none rfl)]
    have e15 := he 4 15 (by kernel_rfl) rfl
    have p15 := hR 4 (by kernel_rfl)
    change (BsR ps) (vs 4) W at p15
    have e16 : a.eval (.tmp 16) = .slice A3 N c3 := (he 5 16 (by kernel_rfl) rfl).trans (hR 5 (by kernel_rfl))
    have f15 := e15
    simp only [Act.eval, Array.getD_eq_getD_getElem?] at f15
    have f16 := e16
    simp only [Act.eval, Array.getD_eq_getD_getElem?] at f16
    have hbW := bthen (below_drew _) (grow_below hX)
    obtain ⟨A5, n5, c5, hv5, ho5⟩ := p15
    rw [hv5] at e15
    have f15' := e15
    simp only [Act.eval, Array.getD_eq_getD_getElem?] at f15'
    refine wp_value (v := .slice (some ⟨W.heap.size, 0, none⟩) 2 2) (w' := W.alloc (.cells #[.slice A5 n5 c5, .slice A3 N c3] 22)) ?_ (hK _ _ ⟨[⟨A5, n5, c5, ps⟩, ⟨A3, N, c3, B⟩], _, _, _, rfl, rfl, ?_, ?_⟩ (World.grownBy_alloc _ _ _))
    · simp only [execOp, e15, e16]
      go_simp
    · rw [World.size_alloc]
      exact Row.new (n := 2) (sz := 1) W _ rfl
    · have k := fun r (hr : Bs.ok W r) => hr.below (alloc_below W (.cells #[.slice A5 n5 c5, .slice A3 N c3] 22))
      simp only [List.mem_cons, List.not_mem_nil, or_false]
      rintro r (rfl | rfl)
      · exact k _ ho5
      · exact k _ ((HO3.out.below hbW).ok)
  · intro a vs W hX hR he hf K hK
    rw [if_pos (wanted_none rfl)]
    have e17 := he 6 17 (by kernel_rfl) rfl
    have p17 := hR 6 (by kernel_rfl)
    change (RowsR [ps, B]) (vs 6) W at p17
    obtain ⟨rows9, R9, k9, c9, hv, hl, hr, ho⟩ := p17
    rw [hv] at e17
    have hfl : flat rows9 = ps ++ B := by rw [flat_map, hl]; simp
    have hk4 : k9 ≤ 4 := by have h1 := hr.1; rw [List.length_map] at h1; have h2 := congrArg List.length hl; simp at h2; omega
    refine wp_enter (f := 46) (args := #[.slice R9 k9 c9]) (by simp only [execOp, e17]; go_simp; simpa [Act.eval] using e17) ((of_any R9 k9 c9 rows9 W hr ho (by omega) (by rw [hfl, List.length_append, HN.out]; omega)).mono ?_)
    rintro e w' ⟨rfl, hb⟩
    rw [hfl, HCS.out]
    exact ⟨_, rfl, hK _ _ rfl (below_grow hb _)⟩
  · intro a vs W hX hR he hf K hK
    rw [if_pos (wanted_none rfl)]
    have e18 : a.eval (.tmp 18) = .int .u16 (Cs : Int) := (he 7 18 (by kernel_rfl) rfl).trans (hR 7 (by kernel_rfl))
    refine wp_value (v := .int .u16 (Cs : Int)) ?_ (hK _ _ rfl (grown_refl W _))
    simp only [execOp, e18]
    try go_simp
    try (first | rfl | omega | (simp only [IntKind.wrap_i64, IntKind.wrap_u8, IntKind.wrap_u64, IntKind.wrap_u16, IntKind.wrap_u32]; omega) | (rw [Int.tmod_eq_emod_of_nonneg (by omega)]) | (rw [Int.tmod_eq_emod_of_nonneg (by omega)]; omega))
  · intro vs W2 hX2 hR
    have q0 := hR 0 (by decide)
    have q1 := hR 1 (by decide)
    have q2 := hR 2 (by decide)
    have q3 := hR 3 (by decide)
    have q4 := hR 4 (by decide)
    have q5 := hR 5 (by decide)
    have q6 := hR 6 (by decide)
    have q7 := hR 7 (by decide)
    have q8 := hR 8 (by decide)
    change vs 0 = .slice (some ⟨gs, 0, none⟩) 16 16 at q0
    change vs 1 = .slice (some ⟨gs + 1, 0, none⟩) 16 16 at q1
    change vs 2 = .slice A3 N c3 at q2
    change vs 3 = .int .i64 (N : Int) at q3
    change (BsR ps) (vs 4) W2 at q4
    change vs 5 = .slice A3 N c3 at q5
    change (RowsR [ps, B]) (vs 6) W2 at q6
    change vs 7 = .int .u16 (Cs : Int) at q7
    change vs 8 = .int .u16 (Cs : Int) at q8
    simp only [putAll, Act.put, List.setIfInBounds_toArray, List.set_cons_zero, List.set_cons_succ, q0, q1, q2, q3, q5, q7, q8]
    clear q0 q1 q2 q3 q5 q7 q8
    clear hR
    have hbW := bthen (below_drew _) (grow_below hX2)
    have HO4 := Lib.hid (HO3.out.below hbW)
    replace HBW := Lib.hid (bthen HBW.out hbW)
    clear hbW hX2
    go_wp2_with fail
    refine (put_yes A3 N c3 B 2 2 (Cs : Int) _ HO4.out.row HO4.out.le HO4.out.cap (by omega) (by omega) (by omega) (by omega) (by omega) (by omega) (by show (Cs : Int) < 256 ^ 2; omega)).mono ?_
    rintro e w5 ⟨A5, c5, rfl, ho5, hb5⟩
    rw [show ((Cs : Nat) : Int).toNat = Cs from rfl] at ho5
    have HO5 := Lib.hid (show Own w5 _ 5 1 A5 N c5 (bv (B.take 2 ++ toBe 2 Cs ++ B.drop 4)) from ho5)
    replace HBW' := Lib.hid (bthen HBW.out hb5)
    have hle9 := HBW.out.size
    clear ho5 hb5
    go_wp2_with fail
    go_ret
    exact ⟨A5, c5, rfl, by rw [HW.out]; exact HO5.out.mono hle9, HBW'.out⟩
end Go.Proofs.YtbcjkjmjljfhpaaDoor


/- The document's example of layer 3 (entry) holds: awake answers true. No condition. -/
import Derived.Test.YtfcnohhcgbebdaaSame
import Derived.Test.YtfcnohhcgbebdaaPut3
import Derived.Test.YtfcnohhcgbebdaaRel
namespace Go.Proofs.Ytfcnohhcgbebdaa
open Go.RowKit
set_option linter.unusedVariables false
set_option linter.unusedSimpArgs false

theorem below_drew (w : World) : Below w.heap.size w w.drew := below_drewN (Below.refl _ _) 1
/-- a slice of entries -/
def EntR (l : List Ent) (v : Value) (W : World) : Prop := ∃ A n c, v = .slice A n c ∧ Row W W.heap.size 4 A n (evs l)
theorem mono_ent (l : List Ent) : ∀ v A B, EntR l v A → World.grownBy A B none → EntR l v B := fun _ _ _ ⟨X, n, c, h, ho⟩ hg => ⟨X, n, c, h, (ho.below (grow_below hg)).more (grow_below hg).size⟩

set_option maxHeartbeats 4000000 in
set_option maxRecDepth 20000 in
theorem awake_any (w : World) : Calls Try.prog 8 #[] w fun e w' => e = .returned (.bool true) ∧ Below w.heap.size w w' := by
  have hpk : packL ⟨16, 3, true, 64⟩ = [0, 1, 7, 64] := by decide
  have hpe : packE ⟨16, 3, true, 64⟩ = 0 := by decide
  have hue : unpE [0, 1, 7, 64] = ⟨16, 3, true, 64⟩ := by kernel_rfl
  have hst : stackF [0, 1, 0, 1, 0, 1, 7, 64, 9] 16 0 = ([⟨16, 0, false, 1⟩, ⟨16, 3, true, 64⟩], 8, 0) := by kernel_rfl
  have HPK := Lib.hid hpk
  have HPE := Lib.hid hpe
  have HUE := Lib.hid hue
  have HST := Lib.hid hst
  clear hpk hpe hue hst
  go_enter Try.func8, Try.ntmps8
  go_wp2_with fail
  have hE := Blk.new w 23 [.int .i64 16, .int .u8 3, .bool true, .int .u8 64]
  refine (pack_any ⟨16, 3, true, 64⟩ ⟨by simp, by simp, by simp, by simp, by simp, by simp⟩ _).mono ?_
  rintro e w2 ⟨⟨A2, n2, c2, l2⟩, rfl, ho2, hl2, hb2⟩
  rw [HPE.out]
  rw [HPK.out] at hl2
  simp only at hl2
  subst hl2
  obtain rfl : n2 = 4 := ho2.len.symm
  simp only [Bs.v]
  have HE2 := Lib.hid (hE.on hb2)
  have HB2 := Lib.hid (ballocd hb2)
  have HO2' := Lib.hid ho2
  clear hE hb2 ho2
  go_wp2_with fail
  refine (unpack_any A2 4 c2 [0, 1, 7, 64] w2 HO2'.out.row HO2'.out.le HO2'.out.cap (by omega)).mono ?_
  rintro e w3 ⟨rfl, hb3⟩
  rw [HUE.out, show unpN [0, 1, 7, 64] = 0 by decide]
  have HE3 := Lib.hid (HE2.out.on hb3)
  have HB3 := Lib.hid (bthen HB2.out hb3)
  have HO3 := Lib.hid (HO2'.out.below hb3)
  clear hb3
  go_wp2_with fail
  have hU := Blk.new w3 23 [.int .i64 16, .int .u8 3, .bool true, .int .u8 64]
  obtain ⟨w4, hw4⟩ : ∃ w4, w4 = w3.alloc (.cells #[.int .i64 16, .int .u8 3, .bool true, .int .u8 64] 23) := ⟨_, rfl⟩
  have hsz4 : w3.heap.size + 1 = w4.heap.size := by rw [hw4, World.size_alloc]
  have hb4 : Below w3.heap.size w3 w4 := by rw [hw4]; exact alloc_below w3 _
  rw [show w3.alloc (.cells [.int .i64 16, .int .u8 3, .bool true, .int .u8 64].toArray 23) = w4 from hw4.symm] at hU
  rw [← hw4, hsz4]
  refine (stack_any (some ⟨w4.heap.size, 0, none⟩) 9 9 [0, 1, 0, 1, 0, 1, 7, 64, 9] _ (by rw [World.size_alloc]; exact row_lit w4 _ _ 9 (by simp [bv]) rfl) (by omega) (by simp [maxLen]) (by omega)).mono ?_
  rintro e w5 ⟨A6, c6, rfl, hown6, hb5⟩
  rw [HST.out] at hown6 ⊢
  simp only [List.length_cons, List.length_nil, Nat.reduceAdd] at hown6 ⊢
  have hb45 := ballocd hb5
  have HU := Lib.hid (hU.on hb45)
  have HE := Lib.hid ((HE3.out.on hb4).on hb45)
  have HO2 := Lib.hid ((HO3.out.below hb4).below hb45)
  have HW := Lib.hid (bthen HB3.out (bthen hb4 hb45))
  obtain ⟨g6, rfl, hg6, hg6', hcl6, hfr6⟩ := hown6.open_ (by omega)
  have hle6 := hown6.le
  have HR2 := Lib.hid hown6.row
  have HR3 := Lib.hid (show Row w5 w5.heap.size 4 (some ⟨g6, 0, none⟩) 1 (evs [⟨16, 0, false, 1⟩]) from hown6.row.take (k := 1) (by omega))
  have HC := Lib.hid (show c6 ≠ 1 by omega)
  have hR1 := hown6.row.cut (k := 1) (cap := c6) (by omega) hle6
  rw [if_neg HC.out] at hR1
  have HR1 := Lib.hid (show Row w5 w5.heap.size 4 (some ⟨g6, 4, none⟩) 1 (evs [⟨16, 3, true, 64⟩]) from hR1)
  have hc6i : (2 : Int) ≤ (c6 : Int) := by omega
  clear hR1 hown6 hcl6 hfr6 hb5 hb45 hb4 hU hw4 hsz4 hg6 hg6' HE3 HB3 HO3 HE2 HB2 HO2'
  go_wp2_with fail
  refine wp_region_rel (fun A B => A.grownBy B none) (fun A => grown_refl A _) (fun A B C h k => grown_trans h k) (relAt (List.cons (fun v _ => v = .slice A2 4 c2) (List.cons (fun v _ => v = str [0, 1, 7, 64]) (List.cons (fun v _ => v = .bool true) (List.cons (fun v _ => v = .bool true) (List.cons (fun v _ => v = .int .i64 0) (List.cons (fun v _ => v = .bool true) (List.cons (fun v _ => v = .bool true) (List.cons (fun v _ => v = .bool true) (List.cons (fun v _ => v = .agg #[.int .i64 16, .int .u8 3, .bool true, .int .u8 64]) (List.cons (fun v _ => v = .agg #[.int .i64 16, .int .u8 3, .bool true, .int .u8 64]) (List.cons (fun v _ => v = .bool true) (List.cons (fun v _ => v = .bool true) (List.cons (fun v _ => v = .bool true) (List.cons (fun v _ => v = .int .i64 0) (List.cons (fun v _ => v = .bool true) (List.cons (fun v _ => v = .bool true) (List.cons (fun v _ => v = .bool true) (List.cons (fun v _ => v = .slice (some ⟨g6, 0, none⟩) 2 c6) (List.cons (fun v _ => v = .int .i64 2) (List.cons (fun v _ => v = .bool true) (List.cons (fun v _ => v = .bool true) (List.cons (fun v _ => v = .bool true) (List.cons (fun v _ => v = .int .i64 8) (List.cons (fun v _ => v = .bool true) (List.cons (fun v _ => v = .bool true) (List.cons (fun v _ => v = .bool true) (List.cons (fun v _ => v = .int .i64 0) (List.cons (fun v _ => v = .bool true) (List.cons (fun v _ => v = .bool true) (List.cons (fun v _ => v = .bool true) (List.cons (fun v _ => v = .slice (some ⟨g6, 0, none⟩) 2 c6) (List.cons (fun v _ => v = .slice (some ⟨g6, 4, none⟩) 1 (c6 - 1)) (List.cons (fun v _ => v = .agg #[.int .i64 16, .int .u8 3, .bool true, .int .u8 64]) (List.cons (EntR [⟨16, 3, true, 64⟩]) (List.cons (fun v _ => v = .bool true) (List.cons (fun v _ => v = .bool true) (List.cons (fun v _ => v = .bool true) (List.cons (fun v _ => v = .slice (some ⟨g6, 0, none⟩) 2 c6) (List.cons (fun v _ => v = .slice (some ⟨g6, 0, none⟩) 2 c6) (List.cons (fun v _ => v = .slice (some ⟨g6, 0, none⟩) 1 c6) (List.cons (fun v _ => v = .bool false) (List.cons (fun v _ => v = .bool true) (List.cons (fun v _ => v = .bool true) (List.cons (fun v _ => v = .bool true) ([])))))))))))))))))))))))))))))))))))))))))))))) (MonoL.at_ (.cons (mono_val _) (.cons (mono_val _) (.cons (mono_val _) (.cons (mono_val _) (.cons (mono_val _) (.cons (mono_val _) (.cons (mono_val _) (.cons (mono_val _) (.cons (mono_val _) (.cons (mono_val _) (.cons (mono_val _) (.cons (mono_val _) (.cons (mono_val _) (.cons (mono_val _) (.cons (mono_val _) (.cons (mono_val _) (.cons (mono_val _) (.cons (mono_val _) (.cons (mono_val _) (.cons (mono_val _) (.cons (mono_val _) (.cons (mono_val _) (.cons (mono_val _) (.cons (mono_val _) (.cons (mono_val _) (.cons (mono_val _) (.cons (mono_val _) (.cons (mono_val _) (.cons (mono_val _) (.cons (mono_val _) (.cons (mono_val _) (.cons (mono_val _) (.cons (mono_val _) (.cons (mono_ent _) (.cons (mono_val _) (.cons (mono_val _) (.cons (mono_val _) (.cons (mono_val _) (.cons (mono_val _) (.cons (mono_val _) (.cons (mono_val _) (.cons (mono_val _) (.cons (mono_val _) (.cons (mono_val _) .nil))))))))))))))))))))))))))))))))))))))))))))) (by kernel_rfl) (by kernel_rfl) ⟨?_, ?_, ?_, ?_, ?_, ?_, ?_, ?_, ?_, ?_, ?_, ?_, ?_, ?_, ?_, ?_, ?_, ?_, ?_, ?_, ?_, ?_, ?_, ?_, ?_, ?_, ?_, ?_, ?_, ?_, ?_, ?_, ?_, ?_, ?_, ?_, ?_, ?_, ?_, ?_, ?_, ?_, ?_, ?_, trivial⟩ ?_
  · intro a vs W hX hR he hf K hK
    rw [if_pos (wanted_none rfl)]
    have e2 : a.eval (.tmp 2) = .slice A2 4 c2 := hf 2 (by kernel_rfl)
    refine wp_value (v := .slice A2 4 c2) ?_ (hK _ _ rfl (grown_refl W _))
    simp only [execOp, e2]
    try go_simp
    try (first | rfl | omega | (simp only [IntKind.wrap_i64, IntKind.wrap_u8, IntKind.wrap_u64, IntKind.wrap_u16, IntKind.wrap_u32]; omega) | (rw [Int.tmod_eq_emod_of_nonneg (by omega)]) | (rw [Int.tmod_eq_emod_of_nonneg (by omega)]; omega))
  · intro a vs W hX hR he hf K hK
    rw [if_pos (wanted_none rfl)]
    have e26 : a.eval (.tmp 26) = .slice A2 4 c2 := (he 0 26 (by kernel_rfl) rfl).trans (hR 0 (by kernel_rfl))
    have hbW := bthen (below_drew _) (grow_below hX)
    exact wp_value (exec_str 24 9 5 _ rfl Try.underlying24 Try.underlying5 Try.underlying9 A2 4 c2 _ e26 (HO2.out.below hbW)) (hK _ _ rfl (grown_refl W _))
  · intro a vs W hX hR he hf K hK
    rw [if_pos (wanted_none rfl)]
    have e27 : a.eval (.tmp 27) = str [0, 1, 7, 64] := (he 1 27 (by kernel_rfl) rfl).trans (hR 1 (by kernel_rfl))
    refine wp_value (v := .bool true) ?_ (hK _ _ rfl (grown_refl W _))
    simp only [execOp, e27]
    try go_simp
    try (first | rfl | omega | (simp only [IntKind.wrap_i64, IntKind.wrap_u8, IntKind.wrap_u64, IntKind.wrap_u16, IntKind.wrap_u32]; omega) | (rw [Int.tmod_eq_emod_of_nonneg (by omega)]) | (rw [Int.tmod_eq_emod_of_nonneg (by omega)]; omega))
  · intro a vs W hX hR he hf K hK
    rw [if_pos (wanted_none rfl)]
    have e28 : a.eval (.tmp 28) = .bool true := (he 2 28 (by kernel_rfl) rfl).trans (hR 2 (by kernel_rfl))
    refine wp_value (v := .bool true) ?_ (hK _ _ rfl (grown_refl W _))
    simp only [execOp, e28]
    try go_simp
    try (first | rfl | omega | (simp only [IntKind.wrap_i64, IntKind.wrap_u8, IntKind.wrap_u64, IntKind.wrap_u16, IntKind.wrap_u32]; omega) | (rw [Int.tmod_eq_emod_of_nonneg (by omega)]) | (rw [Int.tmod_eq_emod_of_nonneg (by omega)]; omega))
  · intro a vs W hX hR he hf K hK
    have e29 : a.eval (.tmp 29) = .bool true := (he 3 29 (by kernel_rfl) rfl).trans (hR 3 (by kernel_rfl))
    refine Eq.mpr (if_pos (by exact (wanted_some rfl rfl e29).trans rfl)) ?_
    have e3 : a.eval (.tmp 3) = .int .i64 0 := hf 3 (by kernel_rfl)
    refine wp_value (v := .int .i64 0) ?_ (hK _ _ rfl (grown_refl W _))
    simp only [execOp, e3]
    try go_simp
    try (first | rfl | omega | (simp only [IntKind.wrap_i64, IntKind.wrap_u8, IntKind.wrap_u64, IntKind.wrap_u16, IntKind.wrap_u32]; omega) | (rw [Int.tmod_eq_emod_of_nonneg (by omega)]) | (rw [Int.tmod_eq_emod_of_nonneg (by omega)]; omega))
  · intro a vs W hX hR he hf K hK
    have e29 : a.eval (.tmp 29) = .bool true := (he 3 29 (by kernel_rfl) rfl).trans (hR 3 (by kernel_rfl))
    refine Eq.mpr (if_pos (by exact (wanted_some rfl rfl e29).trans rfl)) ?_
    have e30 : a.eval (.tmp 30) = .int .i64 0 := (he 4 30 (by kernel_rfl) rfl).trans (hR 4 (by kernel_rfl))
    refine wp_value (v := .bool true) ?_ (hK _ _ rfl (grown_refl W _))
    simp only [execOp, e30]
    try go_simp
    try (first | rfl | omega | (simp only [IntKind.wrap_i64, IntKind.wrap_u8, IntKind.wrap_u64, IntKind.wrap_u16, IntKind.wrap_u32]; omega) | (rw [Int.tmod_eq_emod_of_nonneg (by omega)]) | (rw [Int.tmod_eq_emod_of_nonneg (by omega)]; omega))
  · intro a vs W hX hR he hf K hK
    rw [if_pos (wanted_none rfl)]
    have e29 : a.eval (.tmp 29) = .bool true := (he 3 29 (by kernel_rfl) rfl).trans (hR 3 (by kernel_rfl))
    have e31 : a.eval (.tmp 31) = .bool true := (he 5 31 (by kernel_rfl) rfl).trans (hR 5 (by kernel_rfl))
    refine wp_value (v := .bool true) ?_ (hK _ _ rfl (grown_refl W _))
    simp only [execOp, e29, e31]
    try go_simp
    try (first | rfl | omega | (simp only [IntKind.wrap_i64, IntKind.wrap_u8, IntKind.wrap_u64, IntKind.wrap_u16, IntKind.wrap_u32]; omega) | (rw [Int.tmod_eq_emod_of_nonneg (by omega)]) | (rw [Int.tmod_eq_emod_of_nonneg (by omega)]; omega))
  · intro a vs W hX hR he hf K hK
    rw [if_pos (wanted_none rfl)]
    have e32 : a.eval (.tmp 32) = .bool true := (he 6 32 (by kernel_rfl) rfl).trans (hR 6 (by kernel_rfl))
    refine wp_value (v := .bool true) ?_ (hK _ _ rfl (grown_refl W _))
    simp only [execOp, e32]
    try go_simp
    try (first | rfl | omega | (simp only [IntKind.wrap_i64, IntKind.wrap_u8, IntKind.wrap_u64, IntKind.wrap_u16, IntKind.wrap_u32]; omega) | (rw [Int.tmod_eq_emod_of_nonneg (by omega)]) | (rw [Int.tmod_eq_emod_of_nonneg (by omega)]; omega))
  · intro a vs W hX hR he hf K hK
    have e33 : a.eval (.tmp 33) = .bool true := (he 7 33 (by kernel_rfl) rfl).trans (hR 7 (by kernel_rfl))
    refine Eq.mpr (if_pos (by exact (wanted_some rfl rfl e33).trans rfl)) ?_
    have e4 : a.eval (.tmp 4) = .pointer (some ⟨w3.heap.size, 0, none⟩) := hf 4 (by kernel_rfl)
    have hbW := bthen (below_drew _) (grow_below hX)
    exact wp_value (exec_load 23 _ rfl w3.heap.size e4 23 [.int .i64 16, .int .u8 3, .bool true, .int .u8 64] _ (HU.out.on hbW) Try.underlying23 rfl (by kernel_rfl)) (hK _ _ rfl (grown_refl W _))
  · intro a vs W hX hR he hf K hK
    have e33 : a.eval (.tmp 33) = .bool true := (he 7 33 (by kernel_rfl) rfl).trans (hR 7 (by kernel_rfl))
    refine Eq.mpr (if_pos (by exact (wanted_some rfl rfl e33).trans rfl)) ?_
    have e1 : a.eval (.tmp 1) = .pointer (some ⟨w.heap.size, 0, none⟩) := hf 1 (by kernel_rfl)
    have hbW := bthen (below_drew _) (grow_below hX)
    exact wp_value (exec_load 23 _ rfl w.heap.size e1 23 [.int .i64 16, .int .u8 3, .bool true, .int .u8 64] _ (HE.out.on hbW) Try.underlying23 rfl (by kernel_rfl)) (hK _ _ rfl (grown_refl W _))
  · intro a vs W hX hR he hf K hK
    have e33 : a.eval (.tmp 33) = .bool true := (he 7 33 (by kernel_rfl) rfl).trans (hR 7 (by kernel_rfl))
    refine Eq.mpr (if_pos (by exact (wanted_some rfl rfl e33).trans rfl)) ?_
    have e34 : a.eval (.tmp 34) = .agg #[.int .i64 16, .int .u8 3, .bool true, .int .u8 64] := (he 8 34 (by kernel_rfl) rfl).trans (hR 8 (by kernel_rfl))
    have e35 : a.eval (.tmp 35) = .agg #[.int .i64 16, .int .u8 3, .bool true, .int .u8 64] := (he 9 35 (by kernel_rfl) rfl).trans (hR 9 (by kernel_rfl))
    refine wp_value (v := .bool true) ?_ (hK _ _ rfl (grown_refl W _))
    simp only [execOp, e34, e35]
    try go_simp
    try (first | rfl | omega | (simp only [IntKind.wrap_i64, IntKind.wrap_u8, IntKind.wrap_u64, IntKind.wrap_u16, IntKind.wrap_u32]; omega) | (rw [Int.tmod_eq_emod_of_nonneg (by omega)]) | (rw [Int.tmod_eq_emod_of_nonneg (by omega)]; omega))
  · intro a vs W hX hR he hf K hK
    rw [if_pos (wanted_none rfl)]
    have e33 : a.eval (.tmp 33) = .bool true := (he 7 33 (by kernel_rfl) rfl).trans (hR 7 (by kernel_rfl))
    have e36 : a.eval (.tmp 36) = .bool true := (he 10 36 (by kernel_rfl) rfl).trans (hR 10 (by kernel_rfl))
    refine wp_value (v := .bool true) ?_ (hK _ _ rfl (grown_refl W _))
    simp only [execOp, e33, e36]
    try go_simp
    try (first | rfl | omega | (simp only [IntKind.wrap_i64, IntKind.wrap_u8, IntKind.wrap_u64, IntKind.wrap_u16, IntKind.wrap_u32]; omega) | (rw [Int.tmod_eq_emod_of_nonneg (by omega)]) | (rw [Int.tmod_eq_emod_of_nonneg (by omega)]; omega))
  · intro a vs W hX hR he hf K hK
    rw [if_pos (wanted_none rfl)]
    have e37 : a.eval (.tmp 37) = .bool true := (he 11 37 (by kernel_rfl) rfl).trans (hR 11 (by kernel_rfl))
    refine wp_value (v := .bool true) ?_ (hK _ _ rfl (grown_refl W _))
    simp only [execOp, e37]
    try go_simp
    try (first | rfl | omega | (simp only [IntKind.wrap_i64, IntKind.wrap_u8, IntKind.wrap_u64, IntKind.wrap_u16, IntKind.wrap_u32]; omega) | (rw [Int.tmod_eq_emod_of_nonneg (by omega)]) | (rw [Int.tmod_eq_emod_of_nonneg (by omega)]; omega))
  · intro a vs W hX hR he hf K hK
    have e38 : a.eval (.tmp 38) = .bool true := (he 12 38 (by kernel_rfl) rfl).trans (hR 12 (by kernel_rfl))
    refine Eq.mpr (if_pos (by exact (wanted_some rfl rfl e38).trans rfl)) ?_
    have e5 : a.eval (.tmp 5) = .int .i64 0 := hf 5 (by kernel_rfl)
    refine wp_value (v := .int .i64 0) ?_ (hK _ _ rfl (grown_refl W _))
    simp only [execOp, e5]
    try go_simp
    try (first | rfl | omega | (simp only [IntKind.wrap_i64, IntKind.wrap_u8, IntKind.wrap_u64, IntKind.wrap_u16, IntKind.wrap_u32]; omega) | (rw [Int.tmod_eq_emod_of_nonneg (by omega)]) | (rw [Int.tmod_eq_emod_of_nonneg (by omega)]; omega))
  · intro a vs W hX hR he hf K hK
    have e38 : a.eval (.tmp 38) = .bool true := (he 12 38 (by kernel_rfl) rfl).trans (hR 12 (by kernel_rfl))
    refine Eq.mpr (if_pos (by exact (wanted_some rfl rfl e38).trans rfl)) ?_
    have e39 : a.eval (.tmp 39) = .int .i64 0 := (he 13 39 (by kernel_rfl) rfl).trans (hR 13 (by kernel_rfl))
    refine wp_value (v := .bool true) ?_ (hK _ _ rfl (grown_refl W _))
    simp only [execOp, e39]
    try go_simp
    try (first | rfl | omega | (simp only [IntKind.wrap_i64, IntKind.wrap_u8, IntKind.wrap_u64, IntKind.wrap_u16, IntKind.wrap_u32]; omega) | (rw [Int.tmod_eq_emod_of_nonneg (by omega)]) | (rw [Int.tmod_eq_emod_of_nonneg (by omega)]; omega))
  · intro a vs W hX hR he hf K hK
    rw [if_pos (wanted_none rfl)]
    have e38 : a.eval (.tmp 38) = .bool true := (he 12 38 (by kernel_rfl) rfl).trans (hR 12 (by kernel_rfl))
    have e40 : a.eval (.tmp 40) = .bool true := (he 14 40 (by kernel_rfl) rfl).trans (hR 14 (by kernel_rfl))
    refine wp_value (v := .bool true) ?_ (hK _ _ rfl (grown_refl W _))
    simp only [execOp, e38, e40]
    try go_simp
    try (first | rfl | omega | (simp only [IntKind.wrap_i64, IntKind.wrap_u8, IntKind.wrap_u64, IntKind.wrap_u16, IntKind.wrap_u32]; omega) | (rw [Int.tmod_eq_emod_of_nonneg (by omega)]) | (rw [Int.tmod_eq_emod_of_nonneg (by omega)]; omega))
  · intro a vs W hX hR he hf K hK
    rw [if_pos (wanted_none rfl)]
    have e41 : a.eval (.tmp 41) = .bool true := (he 15 41 (by kernel_rfl) rfl).trans (hR 15 (by kernel_rfl))
    refine wp_value (v := .bool true) ?_ (hK _ _ rfl (grown_refl W _))
    simp only [execOp, e41]
    try go_simp
    try (first | rfl | omega | (simp only [IntKind.wrap_i64, IntKind.wrap_u8, IntKind.wrap_u64, IntKind.wrap_u16, IntKind.wrap_u32]; omega) | (rw [Int.tmod_eq_emod_of_nonneg (by omega)]) | (rw [Int.tmod_eq_emod_of_nonneg (by omega)]; omega))
  · intro a vs W hX hR he hf K hK
    have e42 : a.eval (.tmp 42) = .bool true := (he 16 42 (by kernel_rfl) rfl).trans (hR 16 (by kernel_rfl))
    refine Eq.mpr (if_pos (by exact (wanted_some rfl rfl e42).trans rfl)) ?_
    have e6 : a.eval (.tmp 6) = .slice (some ⟨g6, 0, none⟩) 2 c6 := hf 6 (by kernel_rfl)
    refine wp_value (v := .slice (some ⟨g6, 0, none⟩) 2 c6) ?_ (hK _ _ rfl (grown_refl W _))
    simp only [execOp, e6]
    try go_simp
    try (first | rfl | omega | (simp only [IntKind.wrap_i64, IntKind.wrap_u8, IntKind.wrap_u64, IntKind.wrap_u16, IntKind.wrap_u32]; omega) | (rw [Int.tmod_eq_emod_of_nonneg (by omega)]) | (rw [Int.tmod_eq_emod_of_nonneg (by omega)]; omega))
  · intro a vs W hX hR he hf K hK
    have e42 : a.eval (.tmp 42) = .bool true := (he 16 42 (by kernel_rfl) rfl).trans (hR 16 (by kernel_rfl))
    refine Eq.mpr (if_pos (by exact (wanted_some rfl rfl e42).trans rfl)) ?_
    have e43 : a.eval (.tmp 43) = .slice (some ⟨g6, 0, none⟩) 2 c6 := (he 17 43 (by kernel_rfl) rfl).trans (hR 17 (by kernel_rfl))
    have f43 := e43
    simp only [Act.eval, Array.getD_eq_getD_getElem?] at f43
    refine wp_value (v := .int .i64 2) ?_ (hK _ _ rfl (grown_refl W _))
    simp only [execOp, e43]
    try go_simp
    try (first | rfl | omega | (simp only [IntKind.wrap_i64, IntKind.wrap_u8, IntKind.wrap_u64, IntKind.wrap_u16, IntKind.wrap_u32]; omega) | (rw [Int.tmod_eq_emod_of_nonneg (by omega)]) | (rw [Int.tmod_eq_emod_of_nonneg (by omega)]; omega))
  · intro a vs W hX hR he hf K hK
    have e42 : a.eval (.tmp 42) = .bool true := (he 16 42 (by kernel_rfl) rfl).trans (hR 16 (by kernel_rfl))
    refine Eq.mpr (if_pos (by exact (wanted_some rfl rfl e42).trans rfl)) ?_
    have e44 : a.eval (.tmp 44) = .int .i64 2 := (he 18 44 (by kernel_rfl) rfl).trans (hR 18 (by kernel_rfl))
    refine wp_value (v := .bool true) ?_ (hK _ _ rfl (grown_refl W _))
    simp only [execOp, e44]
    try go_simp
    try (first | rfl | omega | (simp only [IntKind.wrap_i64, IntKind.wrap_u8, IntKind.wrap_u64, IntKind.wrap_u16, IntKind.wrap_u32]; omega) | (rw [Int.tmod_eq_emod_of_nonneg (by omega)]) | (rw [Int.tmod_eq_emod_of_nonneg (by omega)]; omega))
  · intro a vs W hX hR he hf K hK
    rw [if_pos (wanted_none rfl)]
    have e42 : a.eval (.tmp 42) = .bool true := (he 16 42 (by kernel_rfl) rfl).trans (hR 16 (by kernel_rfl))
    have e45 : a.eval (.tmp 45) = .bool true := (he 19 45 (by kernel_rfl) rfl).trans (hR 19 (by kernel_rfl))
    refine wp_value (v := .bool true) ?_ (hK _ _ rfl (grown_refl W _))
    simp only [execOp, e42, e45]
    try go_simp
    try (first | rfl | omega | (simp only [IntKind.wrap_i64, IntKind.wrap_u8, IntKind.wrap_u64, IntKind.wrap_u16, IntKind.wrap_u32]; omega) | (rw [Int.tmod_eq_emod_of_nonneg (by omega)]) | (rw [Int.tmod_eq_emod_of_nonneg (by omega)]; omega))
  · intro a vs W hX hR he hf K hK
    rw [if_pos (wanted_none rfl)]
    have e46 : a.eval (.tmp 46) = .bool true := (he 20 46 (by kernel_rfl) rfl).trans (hR 20 (by kernel_rfl))
    refine wp_value (v := .bool true) ?_ (hK _ _ rfl (grown_refl W _))
    simp only [execOp, e46]
    try go_simp
    try (first | rfl | omega | (simp only [IntKind.wrap_i64, IntKind.wrap_u8, IntKind.wrap_u64, IntKind.wrap_u16, IntKind.wrap_u32]; omega) | (rw [Int.tmod_eq_emod_of_nonneg (by omega)]) | (rw [Int.tmod_eq_emod_of_nonneg (by omega)]; omega))
  · intro a vs W hX hR he hf K hK
    have e47 : a.eval (.tmp 47) = .bool true := (he 21 47 (by kernel_rfl) rfl).trans (hR 21 (by kernel_rfl))
    refine Eq.mpr (if_pos (by exact (wanted_some rfl rfl e47).trans rfl)) ?_
    have e7 : a.eval (.tmp 7) = .int .i64 8 := hf 7 (by kernel_rfl)
    refine wp_value (v := .int .i64 8) ?_ (hK _ _ rfl (grown_refl W _))
    simp only [execOp, e7]
    try go_simp
    try (first | rfl | omega | (simp only [IntKind.wrap_i64, IntKind.wrap_u8, IntKind.wrap_u64, IntKind.wrap_u16, IntKind.wrap_u32]; omega) | (rw [Int.tmod_eq_emod_of_nonneg (by omega)]) | (rw [Int.tmod_eq_emod_of_nonneg (by omega)]; omega))
  · intro a vs W hX hR he hf K hK
    have e47 : a.eval (.tmp 47) = .bool true := (he 21 47 (by kernel_rfl) rfl).trans (hR 21 (by kernel_rfl))
    refine Eq.mpr (if_pos (by exact (wanted_some rfl rfl e47).trans rfl)) ?_
    have e48 : a.eval (.tmp 48) = .int .i64 8 := (he 22 48 (by kernel_rfl) rfl).trans (hR 22 (by kernel_rfl))
    refine wp_value (v := .bool true) ?_ (hK _ _ rfl (grown_refl W _))
    simp only [execOp, e48]
    try go_simp
    try (first | rfl | omega | (simp only [IntKind.wrap_i64, IntKind.wrap_u8, IntKind.wrap_u64, IntKind.wrap_u16, IntKind.wrap_u32]; omega) | (rw [Int.tmod_eq_emod_of_nonneg (by omega)]) | (rw [Int.tmod_eq_emod_of_nonneg (by omega)]; omega))
  · intro a vs W hX hR he hf K hK
    rw [if_pos (wanted_none rfl)]
    have e47 : a.eval (.tmp 47) = .bool true := (he 21 47 (by kernel_rfl) rfl).trans (hR 21 (by kernel_rfl))
    have e49 : a.eval (.tmp 49) = .bool true := (he 23 49 (by kernel_rfl) rfl).trans (hR 23 (by kernel_rfl))
    refine wp_value (v := .bool true) ?_ (hK _ _ rfl (grown_refl W _))
    simp only [execOp, e47, e49]
    try go_simp
    try (first | rfl | omega | (simp only [IntKind.wrap_i64, IntKind.wrap_u8, IntKind.wrap_u64, IntKind.wrap_u16, IntKind.wrap_u32]; omega) | (rw [Int.tmod_eq_emod_of_nonneg (by omega)]) | (rw [Int.tmod_eq_emod_of_nonneg (by omega)]; omega))
  · intro a vs W hX hR he hf K hK
    rw [if_pos (wanted_none rfl)]
    have e50 : a.eval (.tmp 50) = .bool true := (he 24 50 (by kernel_rfl) rfl).trans (hR 24 (by kernel_rfl))
    refine wp_value (v := .bool true) ?_ (hK _ _ rfl (grown_refl W _))
    simp only [execOp, e50]
    try go_simp
    try (first | rfl | omega | (simp only [IntKind.wrap_i64, IntKind.wrap_u8, IntKind.wrap_u64, IntKind.wrap_u16, IntKind.wrap_u32]; omega) | (rw [Int.tmod_eq_emod_of_nonneg (by omega)]) | (rw [Int.tmod_eq_emod_of_nonneg (by omega)]; omega))
  · intro a vs W hX hR he hf K hK
    have e51 : a.eval (.tmp 51) = .bool true := (he 25 51 (by kernel_rfl) rfl).trans (hR 25 (by kernel_rfl))
    refine Eq.mpr (if_pos (by exact (wanted_some rfl rfl e51).trans rfl)) ?_
    have e8 : a.eval (.tmp 8) = .int .i64 0 := hf 8 (by kernel_rfl)
    refine wp_value (v := .int .i64 0) ?_ (hK _ _ rfl (grown_refl W _))
    simp only [execOp, e8]
    try go_simp
    try (first | rfl | omega | (simp only [IntKind.wrap_i64, IntKind.wrap_u8, IntKind.wrap_u64, IntKind.wrap_u16, IntKind.wrap_u32]; omega) | (rw [Int.tmod_eq_emod_of_nonneg (by omega)]) | (rw [Int.tmod_eq_emod_of_nonneg (by omega)]; omega))
  · intro a vs W hX hR he hf K hK
    have e51 : a.eval (.tmp 51) = .bool true := (he 25 51 (by kernel_rfl) rfl).trans (hR 25 (by kernel_rfl))
    refine Eq.mpr (if_pos (by exact (wanted_some rfl rfl e51).trans rfl)) ?_
    have e52 : a.eval (.tmp 52) = .int .i64 0 := (he 26 52 (by kernel_rfl) rfl).trans (hR 26 (by kernel_rfl))
    refine wp_value (v := .bool true) ?_ (hK _ _ rfl (grown_refl W _))
    simp only [execOp, e52]
    try go_simp
    try (first | rfl | omega | (simp only [IntKind.wrap_i64, IntKind.wrap_u8, IntKind.wrap_u64, IntKind.wrap_u16, IntKind.wrap_u32]; omega) | (rw [Int.tmod_eq_emod_of_nonneg (by omega)]) | (rw [Int.tmod_eq_emod_of_nonneg (by omega)]; omega))
  · intro a vs W hX hR he hf K hK
    rw [if_pos (wanted_none rfl)]
    have e51 : a.eval (.tmp 51) = .bool true := (he 25 51 (by kernel_rfl) rfl).trans (hR 25 (by kernel_rfl))
    have e53 : a.eval (.tmp 53) = .bool true := (he 27 53 (by kernel_rfl) rfl).trans (hR 27 (by kernel_rfl))
    refine wp_value (v := .bool true) ?_ (hK _ _ rfl (grown_refl W _))
    simp only [execOp, e51, e53]
    try go_simp
    try (first | rfl | omega | (simp only [IntKind.wrap_i64, IntKind.wrap_u8, IntKind.wrap_u64, IntKind.wrap_u16, IntKind.wrap_u32]; omega) | (rw [Int.tmod_eq_emod_of_nonneg (by omega)]) | (rw [Int.tmod_eq_emod_of_nonneg (by omega)]; omega))
  · intro a vs W hX hR he hf K hK
    rw [if_pos (wanted_none rfl)]
    have e54 : a.eval (.tmp 54) = .bool true := (he 28 54 (by kernel_rfl) rfl).trans (hR 28 (by kernel_rfl))
    refine wp_value (v := .bool true) ?_ (hK _ _ rfl (grown_refl W _))
    simp only [execOp, e54]
    try go_simp
    try (first | rfl | omega | (simp only [IntKind.wrap_i64, IntKind.wrap_u8, IntKind.wrap_u64, IntKind.wrap_u16, IntKind.wrap_u32]; omega) | (rw [Int.tmod_eq_emod_of_nonneg (by omega)]) | (rw [Int.tmod_eq_emod_of_nonneg (by omega)]; omega))
  · intro a vs W hX hR he hf K hK
    have e55 : a.eval (.tmp 55) = .bool true := (he 29 55 (by kernel_rfl) rfl).trans (hR 29 (by kernel_rfl))
    refine Eq.mpr (if_pos (by exact (wanted_some rfl rfl e55).trans rfl)) ?_
    have e6 : a.eval (.tmp 6) = .slice (some ⟨g6, 0, none⟩) 2 c6 := hf 6 (by kernel_rfl)
    refine wp_value (v := .slice (some ⟨g6, 0, none⟩) 2 c6) ?_ (hK _ _ rfl (grown_refl W _))
    simp only [execOp, e6]
    try go_simp
    try (first | rfl | omega | (simp only [IntKind.wrap_i64, IntKind.wrap_u8, IntKind.wrap_u64, IntKind.wrap_u16, IntKind.wrap_u32]; omega) | (rw [Int.tmod_eq_emod_of_nonneg (by omega)]) | (rw [Int.tmod_eq_emod_of_nonneg (by omega)]; omega))
  · intro a vs W hX hR he hf K hK
    have e55 : a.eval (.tmp 55) = .bool true := (he 29 55 (by kernel_rfl) rfl).trans (hR 29 (by kernel_rfl))
    refine Eq.mpr (if_pos (by exact (wanted_some rfl rfl e55).trans rfl)) ?_
    have e56 : a.eval (.tmp 56) = .slice (some ⟨g6, 0, none⟩) 2 c6 := (he 30 56 (by kernel_rfl) rfl).trans (hR 30 (by kernel_rfl))
    have hbW := bthen (below_drew _) (grow_below hX)
    refine wp_value (v := _) ?_ (hK _ _ rfl (grown_refl W _))
    simp only [execOp, e56]
    go_simp
    try simp [HC.out]
  · intro a vs W hX hR he hf K hK
    have e55 : a.eval (.tmp 55) = .bool true := (he 29 55 (by kernel_rfl) rfl).trans (hR 29 (by kernel_rfl))
    refine Eq.mpr (if_pos (by exact (wanted_some rfl rfl e55).trans rfl)) ?_
    have e1 : a.eval (.tmp 1) = .pointer (some ⟨w.heap.size, 0, none⟩) := hf 1 (by kernel_rfl)
    have hbW := bthen (below_drew _) (grow_below hX)
    exact wp_value (exec_load 23 _ rfl w.heap.size e1 23 [.int .i64 16, .int .u8 3, .bool true, .int .u8 64] _ (HE.out.on hbW) Try.underlying23 rfl (by kernel_rfl)) (hK _ _ rfl (grown_refl W _))
  · intro a vs W hX hR he hf K hK
    have e55 : a.eval (.tmp 55) = .bool true := (he 29 55 (by kernel_rfl) rfl).trans (hR 29 (by kernel_rfl))
    refine Eq.mpr (if_pos (by exact (wanted_some rfl rfl e55).trans rfl)) ?_
    have e58 : a.eval (.tmp 58) = .agg #[.int .i64 16, .int .u8 3, .bool true, .int .u8 64] := (he 32 58 (by kernel_rfl) rfl).trans (hR 32 (by kernel_rfl))
    have f58 := e58
    simp only [Act.eval, Array.getD_eq_getD_getElem?] at f58
    refine wp_value (v := .slice (some ⟨W.heap.size, 0, none⟩) 1 1) (w' := W.alloc (.cells #[.int .i64 16, .int .u8 3, .bool true, .int .u8 64] 23)) ?_ (hK _ _ ⟨_, _, _, rfl, by rw [World.size_alloc]; exact Row.new (n := 1) (sz := 4) W #[.int .i64 16, .int .u8 3, .bool true, .int .u8 64] rfl⟩ (World.grownBy_alloc _ _ _))
    simp only [execOp, f58]
    go_simp
  · intro a vs W hX hR he hf K hK
    have e55 : a.eval (.tmp 55) = .bool true := (he 29 55 (by kernel_rfl) rfl).trans (hR 29 (by kernel_rfl))
    refine Eq.mpr (if_pos (by exact (wanted_some rfl rfl e55).trans rfl)) ?_
    have e57 : a.eval (.tmp 57) = .slice (some ⟨g6, 4, none⟩) 1 (c6 - 1) := (he 31 57 (by kernel_rfl) rfl).trans (hR 31 (by kernel_rfl))
    have e59 := he 33 59 (by kernel_rfl) rfl
    have p59 := hR 33 (by kernel_rfl)
    have hbW := bthen (below_drew _) (grow_below hX)
    obtain ⟨A9, n9, c9, hv9, hr9⟩ := p59
    rw [hv9] at e59
    have hn9 := ent_len hr9
    simp at hn9
    subst hn9
    have g57 := e57
    simp only [Act.eval, Array.getD_eq_getD_getElem?] at g57
    have g59 := e59
    simp only [Act.eval, Array.getD_eq_getD_getElem?] at g59
    refine wp_enter (f := 18) (args := #[.slice (some ⟨g6, 4, none⟩) 1 (c6 - 1), .slice A9 1 c9]) (by simp only [execOp]; go_simp; try simp [g57, g59]) ((same_any _ _ 1 1 _ _ [⟨16, 3, true, 64⟩] [⟨16, 3, true, 64⟩] W ((HR1.out.below hbW).more hbW.size) hr9 (by omega) (by omega)).mono ?_)
    rintro e w' ⟨rfl, hb⟩
    exact ⟨_, rfl, hK _ _ (congrArg Value.bool (by decide)) (below_grow hb _)⟩
  · intro a vs W hX hR he hf K hK
    rw [if_pos (wanted_none rfl)]
    have e55 : a.eval (.tmp 55) = .bool true := (he 29 55 (by kernel_rfl) rfl).trans (hR 29 (by kernel_rfl))
    have e60 : a.eval (.tmp 60) = .bool true := (he 34 60 (by kernel_rfl) rfl).trans (hR 34 (by kernel_rfl))
    refine wp_value (v := .bool true) ?_ (hK _ _ rfl (grown_refl W _))
    simp only [execOp, e55, e60]
    try go_simp
    try (first | rfl | omega | (simp only [IntKind.wrap_i64, IntKind.wrap_u8, IntKind.wrap_u64, IntKind.wrap_u16, IntKind.wrap_u32]; omega) | (rw [Int.tmod_eq_emod_of_nonneg (by omega)]) | (rw [Int.tmod_eq_emod_of_nonneg (by omega)]; omega))
  · intro a vs W hX hR he hf K hK
    rw [if_pos (wanted_none rfl)]
    have e61 : a.eval (.tmp 61) = .bool true := (he 35 61 (by kernel_rfl) rfl).trans (hR 35 (by kernel_rfl))
    refine wp_value (v := .bool true) ?_ (hK _ _ rfl (grown_refl W _))
    simp only [execOp, e61]
    try go_simp
    try (first | rfl | omega | (simp only [IntKind.wrap_i64, IntKind.wrap_u8, IntKind.wrap_u64, IntKind.wrap_u16, IntKind.wrap_u32]; omega) | (rw [Int.tmod_eq_emod_of_nonneg (by omega)]) | (rw [Int.tmod_eq_emod_of_nonneg (by omega)]; omega))
  · intro a vs W hX hR he hf K hK
    have e62 : a.eval (.tmp 62) = .bool true := (he 36 62 (by kernel_rfl) rfl).trans (hR 36 (by kernel_rfl))
    refine Eq.mpr (if_pos (by exact (wanted_some rfl rfl e62).trans rfl)) ?_
    have e6 : a.eval (.tmp 6) = .slice (some ⟨g6, 0, none⟩) 2 c6 := hf 6 (by kernel_rfl)
    refine wp_value (v := .slice (some ⟨g6, 0, none⟩) 2 c6) ?_ (hK _ _ rfl (grown_refl W _))
    simp only [execOp, e6]
    try go_simp
    try (first | rfl | omega | (simp only [IntKind.wrap_i64, IntKind.wrap_u8, IntKind.wrap_u64, IntKind.wrap_u16, IntKind.wrap_u32]; omega) | (rw [Int.tmod_eq_emod_of_nonneg (by omega)]) | (rw [Int.tmod_eq_emod_of_nonneg (by omega)]; omega))
  · intro a vs W hX hR he hf K hK
    have e62 : a.eval (.tmp 62) = .bool true := (he 36 62 (by kernel_rfl) rfl).trans (hR 36 (by kernel_rfl))
    refine Eq.mpr (if_pos (by exact (wanted_some rfl rfl e62).trans rfl)) ?_
    have e6 : a.eval (.tmp 6) = .slice (some ⟨g6, 0, none⟩) 2 c6 := hf 6 (by kernel_rfl)
    refine wp_value (v := .slice (some ⟨g6, 0, none⟩) 2 c6) ?_ (hK _ _ rfl (grown_refl W _))
    simp only [execOp, e6]
    try go_simp
    try (first | rfl | omega | (simp only [IntKind.wrap_i64, IntKind.wrap_u8, IntKind.wrap_u64, IntKind.wrap_u16, IntKind.wrap_u32]; omega) | (rw [Int.tmod_eq_emod_of_nonneg (by omega)]) | (rw [Int.tmod_eq_emod_of_nonneg (by omega)]; omega))
  · intro a vs W hX hR he hf K hK
    have e62 : a.eval (.tmp 62) = .bool true := (he 36 62 (by kernel_rfl) rfl).trans (hR 36 (by kernel_rfl))
    refine Eq.mpr (if_pos (by exact (wanted_some rfl rfl e62).trans rfl)) ?_
    have e64 : a.eval (.tmp 64) = .slice (some ⟨g6, 0, none⟩) 2 c6 := (he 38 64 (by kernel_rfl) rfl).trans (hR 38 (by kernel_rfl))
    have hbW := bthen (below_drew _) (grow_below hX)
    refine wp_value (v := _) ?_ (hK _ _ rfl (grown_refl W _))
    simp only [execOp, e64]
    go_simp
    try (intro h; omega)
  · intro a vs W hX hR he hf K hK
    have e62 : a.eval (.tmp 62) = .bool true := (he 36 62 (by kernel_rfl) rfl).trans (hR 36 (by kernel_rfl))
    refine Eq.mpr (if_pos (by exact (wanted_some rfl rfl e62).trans rfl)) ?_
    have e63 : a.eval (.tmp 63) = .slice (some ⟨g6, 0, none⟩) 2 c6 := (he 37 63 (by kernel_rfl) rfl).trans (hR 37 (by kernel_rfl))
    have e65 : a.eval (.tmp 65) = .slice (some ⟨g6, 0, none⟩) 1 c6 := (he 39 65 (by kernel_rfl) rfl).trans (hR 39 (by kernel_rfl))
    have hbW := bthen (below_drew _) (grow_below hX)
    have g63 := e63
    simp only [Act.eval, Array.getD_eq_getD_getElem?] at g63
    have g65 := e65
    simp only [Act.eval, Array.getD_eq_getD_getElem?] at g65
    refine wp_enter (f := 18) (args := #[.slice (some ⟨g6, 0, none⟩) 2 c6, .slice (some ⟨g6, 0, none⟩) 1 c6]) (by simp only [execOp]; go_simp; try simp [g63, g65]) ((same_any _ _ 2 1 _ _ [⟨16, 0, false, 1⟩, ⟨16, 3, true, 64⟩] [⟨16, 0, false, 1⟩] W ((HR2.out.below hbW).more hbW.size) ((HR3.out.below hbW).more hbW.size) (by omega) (by omega)).mono ?_)
    rintro e w' ⟨rfl, hb⟩
    exact ⟨_, rfl, hK _ _ (congrArg Value.bool (by decide)) (below_grow hb _)⟩
  · intro a vs W hX hR he hf K hK
    have e62 : a.eval (.tmp 62) = .bool true := (he 36 62 (by kernel_rfl) rfl).trans (hR 36 (by kernel_rfl))
    refine Eq.mpr (if_pos (by exact (wanted_some rfl rfl e62).trans rfl)) ?_
    have e66 : a.eval (.tmp 66) = .bool false := (he 40 66 (by kernel_rfl) rfl).trans (hR 40 (by kernel_rfl))
    refine wp_value (v := .bool true) ?_ (hK _ _ rfl (grown_refl W _))
    simp only [execOp, e66]
    try go_simp
    try (first | rfl | omega | (simp only [IntKind.wrap_i64, IntKind.wrap_u8, IntKind.wrap_u64, IntKind.wrap_u16, IntKind.wrap_u32]; omega) | (rw [Int.tmod_eq_emod_of_nonneg (by omega)]) | (rw [Int.tmod_eq_emod_of_nonneg (by omega)]; omega))
  · intro a vs W hX hR he hf K hK
    rw [if_pos (wanted_none rfl)]
    have e62 : a.eval (.tmp 62) = .bool true := (he 36 62 (by kernel_rfl) rfl).trans (hR 36 (by kernel_rfl))
    have e67 : a.eval (.tmp 67) = .bool true := (he 41 67 (by kernel_rfl) rfl).trans (hR 41 (by kernel_rfl))
    refine wp_value (v := .bool true) ?_ (hK _ _ rfl (grown_refl W _))
    simp only [execOp, e62, e67]
    try go_simp
    try (first | rfl | omega | (simp only [IntKind.wrap_i64, IntKind.wrap_u8, IntKind.wrap_u64, IntKind.wrap_u16, IntKind.wrap_u32]; omega) | (rw [Int.tmod_eq_emod_of_nonneg (by omega)]) | (rw [Int.tmod_eq_emod_of_nonneg (by omega)]; omega))
  · intro a vs W hX hR he hf K hK
    rw [if_pos (wanted_none rfl)]
    have e68 : a.eval (.tmp 68) = .bool true := (he 42 68 (by kernel_rfl) rfl).trans (hR 42 (by kernel_rfl))
    refine wp_value (v := .bool true) ?_ (hK _ _ rfl (grown_refl W _))
    simp only [execOp, e68]
    try go_simp
    try (first | rfl | omega | (simp only [IntKind.wrap_i64, IntKind.wrap_u8, IntKind.wrap_u64, IntKind.wrap_u16, IntKind.wrap_u32]; omega) | (rw [Int.tmod_eq_emod_of_nonneg (by omega)]) | (rw [Int.tmod_eq_emod_of_nonneg (by omega)]; omega))
  · intro vs W hX hR
    have q0 := hR 0 (by decide)
    have q1 := hR 1 (by decide)
    have q2 := hR 2 (by decide)
    have q3 := hR 3 (by decide)
    have q4 := hR 4 (by decide)
    have q5 := hR 5 (by decide)
    have q6 := hR 6 (by decide)
    have q7 := hR 7 (by decide)
    have q8 := hR 8 (by decide)
    have q9 := hR 9 (by decide)
    have q10 := hR 10 (by decide)
    have q11 := hR 11 (by decide)
    have q12 := hR 12 (by decide)
    have q13 := hR 13 (by decide)
    have q14 := hR 14 (by decide)
    have q15 := hR 15 (by decide)
    have q16 := hR 16 (by decide)
    have q17 := hR 17 (by decide)
    have q18 := hR 18 (by decide)
    have q19 := hR 19 (by decide)
    have q20 := hR 20 (by decide)
    have q21 := hR 21 (by decide)
    have q22 := hR 22 (by decide)
    have q23 := hR 23 (by decide)
    have q24 := hR 24 (by decide)
    have q25 := hR 25 (by decide)
    have q26 := hR 26 (by decide)
    have q27 := hR 27 (by decide)
    have q28 := hR 28 (by decide)
    have q29 := hR 29 (by decide)
    have q30 := hR 30 (by decide)
    have q31 := hR 31 (by decide)
    have q32 := hR 32 (by decide)
    have q33 := hR 33 (by decide)
    have q34 := hR 34 (by decide)
    have q35 := hR 35 (by decide)
    have q36 := hR 36 (by decide)
    have q37 := hR 37 (by decide)
    have q38 := hR 38 (by decide)
    have q39 := hR 39 (by decide)
    have q40 := hR 40 (by decide)
    have q41 := hR 41 (by decide)
    have q42 := hR 42 (by decide)
    have q43 := hR 43 (by decide)
    change vs 0 = .slice A2 4 c2 at q0
    change vs 1 = str [0, 1, 7, 64] at q1
    change vs 2 = .bool true at q2
    change vs 3 = .bool true at q3
    change vs 4 = .int .i64 0 at q4
    change vs 5 = .bool true at q5
    change vs 6 = .bool true at q6
    change vs 7 = .bool true at q7
    change vs 8 = .agg #[.int .i64 16, .int .u8 3, .bool true, .int .u8 64] at q8
    change vs 9 = .agg #[.int .i64 16, .int .u8 3, .bool true, .int .u8 64] at q9
    change vs 10 = .bool true at q10
    change vs 11 = .bool true at q11
    change vs 12 = .bool true at q12
    change vs 13 = .int .i64 0 at q13
    change vs 14 = .bool true at q14
    change vs 15 = .bool true at q15
    change vs 16 = .bool true at q16
    change vs 17 = .slice (some ⟨g6, 0, none⟩) 2 c6 at q17
    change vs 18 = .int .i64 2 at q18
    change vs 19 = .bool true at q19
    change vs 20 = .bool true at q20
    change vs 21 = .bool true at q21
    change vs 22 = .int .i64 8 at q22
    change vs 23 = .bool true at q23
    change vs 24 = .bool true at q24
    change vs 25 = .bool true at q25
    change vs 26 = .int .i64 0 at q26
    change vs 27 = .bool true at q27
    change vs 28 = .bool true at q28
    change vs 29 = .bool true at q29
    change vs 30 = .slice (some ⟨g6, 0, none⟩) 2 c6 at q30
    change vs 31 = .slice (some ⟨g6, 4, none⟩) 1 (c6 - 1) at q31
    change vs 32 = .agg #[.int .i64 16, .int .u8 3, .bool true, .int .u8 64] at q32
    change (EntR [⟨16, 3, true, 64⟩]) (vs 33) W at q33
    change vs 34 = .bool true at q34
    change vs 35 = .bool true at q35
    change vs 36 = .bool true at q36
    change vs 37 = .slice (some ⟨g6, 0, none⟩) 2 c6 at q37
    change vs 38 = .slice (some ⟨g6, 0, none⟩) 2 c6 at q38
    change vs 39 = .slice (some ⟨g6, 0, none⟩) 1 c6 at q39
    change vs 40 = .bool false at q40
    change vs 41 = .bool true at q41
    change vs 42 = .bool true at q42
    change vs 43 = .bool true at q43
    simp only [putAll, Act.put, List.setIfInBounds_toArray, List.set_cons_zero, List.set_cons_succ, q0, q1, q2, q3, q4, q5, q6, q7, q8, q9, q10, q11, q12, q13, q14, q15, q16, q17, q18, q19, q20, q21, q22, q23, q24, q25, q26, q27, q28, q29, q30, q31, q32, q34, q35, q36, q37, q38, q39, q40, q41, q42, q43]
    clear q0 q1 q2 q3 q4 q5 q6 q7 q8 q9 q10 q11 q12 q13 q14 q15 q16 q17 q18 q19 q20 q21 q22 q23 q24 q25 q26 q27 q28 q29 q30 q31 q32 q34 q35 q36 q37 q38 q39 q40 q41 q42 q43
    clear hR
    go_wp2
    go_ret
    exact ⟨rfl, bthen HW.out (bthen (below_drew _) (grow_below hX))⟩

end Go.Proofs.Ytfcnohhcgbebdaa

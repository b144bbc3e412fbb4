/- Texts of this claim put together, in build order: each one's own remark stands ahead of it. -/
import Derived.Test.YtbemhcihmlijaaaG09
/- What the reference's Check of prefixes (layer 8) computes. No condition but sizes. -/
namespace Go.Proofs.Ytbemhcihmlijaaa
open Go.RowKit
set_option linter.unusedVariables false
set_option maxRecDepth 20000
set_option linter.unusedSimpArgs false

theorem first_zero (a : List UInt8) (ha : a.length = 16) (n : Nat) (hn : n ≤ 128) : firstF a n = a ↔ ∀ j, n ≤ j → j < 128 → bitF a j = false := by
 have h1 := abits_first a n
 rw [ha] at h1
 have hl : (abits a).length = 128 := by rw [abits_length, ha]
 constructor
 ·intro e j h2 h3
  rw [e] at h1
  unfold bitF sideB
  rw [h1, List.getD_eq_getElem?_getD, List.getElem?_append_right (by rw [List.length_take]; omega), List.getElem?_replicate]
  split <;> rfl
 ·intro h
  refine abits_inj _ _ (by rw [firstF_length]) ?_
  rw [h1]
  apply List.ext_getElem?
  intro j
  by_cases hj : j < n
  ·rw [List.getElem?_append_left (by rw [List.length_take]; omega), List.getElem?_take, if_pos hj]
  ·by_cases hj2 : j < 128
   ·rw [List.getElem?_append_right (by rw [List.length_take]; omega), List.length_take, List.getElem?_replicate, if_pos (by omega)]
    have h2 := h j (by omega) hj2
    unfold bitF sideB at h2
    rw [List.getD_eq_getElem?_getD, List.getElem?_eq_getElem (by omega)] at h2
    rw [List.getElem?_eq_getElem (by omega)]
    exact congrArg some h2.symm
   ·rw [List.getElem?_eq_none (by simp [List.length_take, hl]; omega), List.getElem?_eq_none (by omega)]
set_option maxHeartbeats 2000000 in
theorem rcheck_any (p : Px) (hf : p.fit) (w : World) :
  Calls Try.prog 24 #[.agg p.cells.toArray] w fun e w' => e = .returned (.int .i64 (chkP p)) ∧ Below w.heap.size w w' := by
 have HF := Lib.hid hf
 clear hf
 by_cases h1 : p.len < 0
 ·have HC := Lib.hid (show chkP p = 1 by unfold chkP; rw [if_pos h1])
  go_enter Try.func24, Try.ntmps24
  go_upto_region 1 with (refine wpList_box_blk (by rfl) 30 (.tmp 0) rfl p.cells rfl ?_; intro w1 hb1 hB1 hs1; clear hs1)
  obtain ⟨g0, hg0⟩ : ∃ g, w.heap.size = g := ⟨_, rfl⟩
  rw [hg0] at hb1
  try rw [hg0]
  have HP := Lib.hid hb1
  have HW := Lib.hid hB1
  clear hb1 hB1 hg0
  refine wp_region_rel (fun A B => A.grownBy B none) (fun A => grown_refl A _) (fun A B C h k => grown_trans h k) (relAt (List.cons (fun v _ => v = .pointer (some ⟨g0, 17, none⟩)) (List.cons (fun v _ => v = .int .i64 p.len) (List.cons (fun v _ => v = .bool true) (List.cons (fun v _ => v = .bool true) (List.cons (fun v _ => v = undef) (List.cons (fun v _ => v = undef) (List.cons (fun v _ => v = undef) (List.cons (fun v _ => v = undef) (List.cons (fun v _ => v = undef) (List.cons (fun v _ => v = undef) (List.cons (fun v _ => v = .bool true) ([]))))))))))))) (MonoL.at_ (.cons (mono_val _) (.cons (mono_val _) (.cons (mono_val _) (.cons (mono_val _) (.cons (mono_val _) (.cons (mono_val _) (.cons (mono_val _) (.cons (mono_val _) (.cons (mono_val _) (.cons (mono_val _) (.cons (mono_val _) .nil)))))))))))) (by kernel_rfl) (by kernel_rfl) ⟨?_, ?_, ?_, ?_, ?_, ?_, ?_, ?_, ?_, ?_, ?_, trivial⟩ ?_
  ·intro a vs W hX hR he hf K hK
   rw [if_pos (wanted_none rfl)]
   have e1 : a.eval (.tmp 1) = .pointer (some ⟨g0, 0, none⟩) := hf 1 (by kernel_rfl)
   refine wp_value (v := .pointer (some ⟨g0, 17, none⟩)) ?_ (hK _ _ rfl (grown_refl W _))
   simp only [execOp, e1]
   try go_simp
   try (first | rfl | omega | (simp only [IntKind.wrap_i64, IntKind.wrap_u8, IntKind.wrap_u64, IntKind.wrap_u16, IntKind.wrap_u32]; omega) | (rw [Int.tmod_eq_emod_of_nonneg (by omega)]) | (rw [Int.tmod_eq_emod_of_nonneg (by omega)]; omega))
  ·intro a vs W hX hR he hf K hK
   rw [if_pos (wanted_none rfl)]
   have e4 : a.eval (.tmp 4) = .pointer (some ⟨g0, 17, none⟩) := (he 0 4 (by kernel_rfl) rfl).trans (hR 0 (by kernel_rfl))
   have hbW := bthen (below_drew _) (grow_below hX)
   have hc : W.cell? ⟨g0, 17, none⟩ = some (.int .i64 p.len) := ((HP.out.on hbW).cell 17).trans (p.get_len HF.out.addr)
   refine wp_value (v := _) ?_ (hK _ _ rfl (grown_refl W _))
   simp only [execOp, e4]
   try go_simp
  ·intro a vs W hX hR he hf K hK
   rw [if_pos (wanted_none rfl)]
   have e5 : a.eval (.tmp 5) = .int .i64 p.len := (he 1 5 (by kernel_rfl) rfl).trans (hR 1 (by kernel_rfl))
   refine wp_value (v := .bool true) ?_ (hK _ _ rfl (grown_refl W _))
   simp only [execOp, e5]
   try go_simp
   try (first | rfl | omega | (simp only [IntKind.wrap_i64, IntKind.wrap_u8, IntKind.wrap_u64, IntKind.wrap_u16, IntKind.wrap_u32]; omega) | (rw [Int.tmod_eq_emod_of_nonneg (by omega)]) | (rw [Int.tmod_eq_emod_of_nonneg (by omega)]; omega))
  ·intro a vs W hX hR he hf K hK
   rw [if_pos (wanted_none rfl)]
   have e6 : a.eval (.tmp 6) = .bool true := (he 2 6 (by kernel_rfl) rfl).trans (hR 2 (by kernel_rfl))
   refine wp_value (v := .bool true) ?_ (hK _ _ rfl (grown_refl W _))
   simp only [execOp, e6]
   try go_simp
   try (first | rfl | omega | (simp only [IntKind.wrap_i64, IntKind.wrap_u8, IntKind.wrap_u64, IntKind.wrap_u16, IntKind.wrap_u32]; omega) | (rw [Int.tmod_eq_emod_of_nonneg (by omega)]) | (rw [Int.tmod_eq_emod_of_nonneg (by omega)]; omega))
  ·intro a vs W hX hR he hf K hK
   have e7 : a.eval (.tmp 7) = .bool true := (he 3 7 (by kernel_rfl) rfl).trans (hR 3 (by kernel_rfl))
   refine Eq.mpr (if_neg (fun hz => Bool.false_ne_true (Eq.trans (by exact Eq.symm ((wanted_some rfl rfl e7).trans rfl)) hz))) ?_
   exact hK _ _ rfl (grown_refl W _)
  ·intro a vs W hX hR he hf K hK
   have e7 : a.eval (.tmp 7) = .bool true := (he 3 7 (by kernel_rfl) rfl).trans (hR 3 (by kernel_rfl))
   refine Eq.mpr (if_neg (fun hz => Bool.false_ne_true (Eq.trans (by exact Eq.symm ((wanted_some rfl rfl e7).trans rfl)) hz))) ?_
   exact hK _ _ rfl (grown_refl W _)
  ·intro a vs W hX hR he hf K hK
   have e7 : a.eval (.tmp 7) = .bool true := (he 3 7 (by kernel_rfl) rfl).trans (hR 3 (by kernel_rfl))
   refine Eq.mpr (if_neg (fun hz => Bool.false_ne_true (Eq.trans (by exact Eq.symm ((wanted_some rfl rfl e7).trans rfl)) hz))) ?_
   exact hK _ _ rfl (grown_refl W _)
  ·intro a vs W hX hR he hf K hK
   have e7 : a.eval (.tmp 7) = .bool true := (he 3 7 (by kernel_rfl) rfl).trans (hR 3 (by kernel_rfl))
   refine Eq.mpr (if_neg (fun hz => Bool.false_ne_true (Eq.trans (by exact Eq.symm ((wanted_some rfl rfl e7).trans rfl)) hz))) ?_
   exact hK _ _ rfl (grown_refl W _)
  ·intro a vs W hX hR he hf K hK
   have e7 : a.eval (.tmp 7) = .bool true := (he 3 7 (by kernel_rfl) rfl).trans (hR 3 (by kernel_rfl))
   refine Eq.mpr (if_neg (fun hz => Bool.false_ne_true (Eq.trans (by exact Eq.symm ((wanted_some rfl rfl e7).trans rfl)) hz))) ?_
   exact hK _ _ rfl (grown_refl W _)
  ·intro a vs W hX hR he hf K hK
   have e7 : a.eval (.tmp 7) = .bool true := (he 3 7 (by kernel_rfl) rfl).trans (hR 3 (by kernel_rfl))
   refine Eq.mpr (if_neg (fun hz => Bool.false_ne_true (Eq.trans (by exact Eq.symm ((wanted_some rfl rfl e7).trans rfl)) hz))) ?_
   exact hK _ _ rfl (grown_refl W _)
  ·intro a vs W hX hR he hf K hK
   rw [if_pos (wanted_none rfl)]
   have e7 : a.eval (.tmp 7) = .bool true := (he 3 7 (by kernel_rfl) rfl).trans (hR 3 (by kernel_rfl))
   have e13 : a.eval (.tmp 13) = undef := (he 9 13 (by kernel_rfl) rfl).trans (hR 9 (by kernel_rfl))
   refine wp_value (v := .bool true) ?_ (hK _ _ rfl (grown_refl W _))
   simp only [execOp, e7, e13]
   try go_simp
   try (first | rfl | omega | (simp only [IntKind.wrap_i64, IntKind.wrap_u8, IntKind.wrap_u64, IntKind.wrap_u16, IntKind.wrap_u32]; omega) | (rw [Int.tmod_eq_emod_of_nonneg (by omega)]) | (rw [Int.tmod_eq_emod_of_nonneg (by omega)]; omega))
  ·intro vs wx hXx hR
   have q0 := hR 0 (by decide)
   have q1 := hR 1 (by decide)
   have q2 := hR 2 (by decide)
   have q3 := hR 3 (by decide)
   have q4 := hR 4 (by decide)
   have q5 := hR 5 (by decide)
   have q6 := hR 6 (by decide)
   have q7 := hR 7 (by decide)
   have q8 := hR 8 (by decide)
   have q9 := hR 9 (by decide)
   have q10 := hR 10 (by decide)
   change vs 0 = .pointer (some ⟨g0, 17, none⟩) at q0
   change vs 1 = .int .i64 p.len at q1
   change vs 2 = .bool true at q2
   change vs 3 = .bool true at q3
   change vs 4 = undef at q4
   change vs 5 = undef at q5
   change vs 6 = undef at q6
   change vs 7 = undef at q7
   change vs 8 = undef at q8
   change vs 9 = undef at q9
   change vs 10 = .bool true at q10
   simp only [putAll, Act.put, List.setIfInBounds_toArray, List.set_cons_zero, List.set_cons_succ, q0, q1, q2, q3, q4, q5, q6, q7, q8, q9, q10]
   clear q0 q1 q2 q3 q4 q5 q6 q7 q8 q9 q10
   clear hR
   have hbx := bthen HW.out (bthen (below_drew _) (grow_below hXx))
   clear hXx
   go_wp2_with fail
   go_ret
   exact ⟨by rw [HC.out]; rfl, hbx⟩
 ·by_cases h2 : (mostF p.six : Int) < p.len
  ·have HC := Lib.hid (show chkP p = 1 by unfold chkP; rw [if_neg h1, if_pos h2])
   go_enter Try.func24, Try.ntmps24
   go_upto_region 1 with (refine wpList_box_blk (by rfl) 30 (.tmp 0) rfl p.cells rfl ?_; intro w1 hb1 hB1 hs1; clear hs1)
   obtain ⟨g0, hg0⟩ : ∃ g, w.heap.size = g := ⟨_, rfl⟩
   rw [hg0] at hb1
   try rw [hg0]
   have HP := Lib.hid hb1
   have HW := Lib.hid hB1
   clear hb1 hB1 hg0
   refine wp_region_rel (fun A B => A.grownBy B none) (fun A => grown_refl A _) (fun A B C h k => grown_trans h k) (relAt (List.cons (fun v _ => v = .pointer (some ⟨g0, 17, none⟩)) (List.cons (fun v _ => v = .int .i64 p.len) (List.cons (fun v _ => v = .bool false) (List.cons (fun v _ => v = .bool false) (List.cons (fun v _ => v = .pointer (some ⟨g0, 17, none⟩)) (List.cons (fun v _ => v = .int .i64 p.len) (List.cons (fun v _ => v = .pointer (some ⟨g0, 0, none⟩)) (List.cons (fun v _ => v = .bool p.six) (List.cons (fun v _ => v = .int .i64 ((mostF p.six : Nat) : Int)) (List.cons (fun v _ => v = .bool true) (List.cons (fun v _ => v = .bool true) ([]))))))))))))) (MonoL.at_ (.cons (mono_val _) (.cons (mono_val _) (.cons (mono_val _) (.cons (mono_val _) (.cons (mono_val _) (.cons (mono_val _) (.cons (mono_val _) (.cons (mono_val _) (.cons (mono_val _) (.cons (mono_val _) (.cons (mono_val _) .nil)))))))))))) (by kernel_rfl) (by kernel_rfl) ⟨?_, ?_, ?_, ?_, ?_, ?_, ?_, ?_, ?_, ?_, ?_, trivial⟩ ?_
   ·intro a vs W hX hR he hf K hK
    rw [if_pos (wanted_none rfl)]
    have e1 : a.eval (.tmp 1) = .pointer (some ⟨g0, 0, none⟩) := hf 1 (by kernel_rfl)
    refine wp_value (v := .pointer (some ⟨g0, 17, none⟩)) ?_ (hK _ _ rfl (grown_refl W _))
    simp only [execOp, e1]
    try go_simp
    try (first | rfl | omega | (simp only [IntKind.wrap_i64, IntKind.wrap_u8, IntKind.wrap_u64, IntKind.wrap_u16, IntKind.wrap_u32]; omega) | (rw [Int.tmod_eq_emod_of_nonneg (by omega)]) | (rw [Int.tmod_eq_emod_of_nonneg (by omega)]; omega))
   ·intro a vs W hX hR he hf K hK
    rw [if_pos (wanted_none rfl)]
    have e4 : a.eval (.tmp 4) = .pointer (some ⟨g0, 17, none⟩) := (he 0 4 (by kernel_rfl) rfl).trans (hR 0 (by kernel_rfl))
    have hbW := bthen (below_drew _) (grow_below hX)
    have hc : W.cell? ⟨g0, 17, none⟩ = some (.int .i64 p.len) := ((HP.out.on hbW).cell 17).trans (p.get_len HF.out.addr)
    refine wp_value (v := _) ?_ (hK _ _ rfl (grown_refl W _))
    simp only [execOp, e4]
    try go_simp
   ·intro a vs W hX hR he hf K hK
    rw [if_pos (wanted_none rfl)]
    have e5 : a.eval (.tmp 5) = .int .i64 p.len := (he 1 5 (by kernel_rfl) rfl).trans (hR 1 (by kernel_rfl))
    refine wp_value (v := .bool false) ?_ (hK _ _ rfl (grown_refl W _))
    simp only [execOp, e5]
    try go_simp
    try (first | rfl | omega | (simp only [IntKind.wrap_i64, IntKind.wrap_u8, IntKind.wrap_u64, IntKind.wrap_u16, IntKind.wrap_u32]; omega) | (rw [Int.tmod_eq_emod_of_nonneg (by omega)]) | (rw [Int.tmod_eq_emod_of_nonneg (by omega)]; omega))
   ·intro a vs W hX hR he hf K hK
    rw [if_pos (wanted_none rfl)]
    have e6 : a.eval (.tmp 6) = .bool false := (he 2 6 (by kernel_rfl) rfl).trans (hR 2 (by kernel_rfl))
    refine wp_value (v := .bool false) ?_ (hK _ _ rfl (grown_refl W _))
    simp only [execOp, e6]
    try go_simp
    try (first | rfl | omega | (simp only [IntKind.wrap_i64, IntKind.wrap_u8, IntKind.wrap_u64, IntKind.wrap_u16, IntKind.wrap_u32]; omega) | (rw [Int.tmod_eq_emod_of_nonneg (by omega)]) | (rw [Int.tmod_eq_emod_of_nonneg (by omega)]; omega))
   ·intro a vs W hX hR he hf K hK
    have e7 : a.eval (.tmp 7) = .bool false := (he 3 7 (by kernel_rfl) rfl).trans (hR 3 (by kernel_rfl))
    refine Eq.mpr (if_pos (by exact (wanted_some rfl rfl e7).trans rfl)) ?_
    have e1 : a.eval (.tmp 1) = .pointer (some ⟨g0, 0, none⟩) := hf 1 (by kernel_rfl)
    refine wp_value (v := .pointer (some ⟨g0, 17, none⟩)) ?_ (hK _ _ rfl (grown_refl W _))
    simp only [execOp, e1]
    try go_simp
    try (first | rfl | omega | (simp only [IntKind.wrap_i64, IntKind.wrap_u8, IntKind.wrap_u64, IntKind.wrap_u16, IntKind.wrap_u32]; omega) | (rw [Int.tmod_eq_emod_of_nonneg (by omega)]) | (rw [Int.tmod_eq_emod_of_nonneg (by omega)]; omega))
   ·intro a vs W hX hR he hf K hK
    have e7 : a.eval (.tmp 7) = .bool false := (he 3 7 (by kernel_rfl) rfl).trans (hR 3 (by kernel_rfl))
    refine Eq.mpr (if_pos (by exact (wanted_some rfl rfl e7).trans rfl)) ?_
    have e8 : a.eval (.tmp 8) = .pointer (some ⟨g0, 17, none⟩) := (he 4 8 (by kernel_rfl) rfl).trans (hR 4 (by kernel_rfl))
    have hbW := bthen (below_drew _) (grow_below hX)
    have hc : W.cell? ⟨g0, 17, none⟩ = some (.int .i64 p.len) := ((HP.out.on hbW).cell 17).trans (p.get_len HF.out.addr)
    refine wp_value (v := _) ?_ (hK _ _ rfl (grown_refl W _))
    simp only [execOp, e8]
    try go_simp
   ·intro a vs W hX hR he hf K hK
    have e7 : a.eval (.tmp 7) = .bool false := (he 3 7 (by kernel_rfl) rfl).trans (hR 3 (by kernel_rfl))
    refine Eq.mpr (if_pos (by exact (wanted_some rfl rfl e7).trans rfl)) ?_
    have e1 : a.eval (.tmp 1) = .pointer (some ⟨g0, 0, none⟩) := hf 1 (by kernel_rfl)
    refine wp_value (v := .pointer (some ⟨g0, 0, none⟩)) ?_ (hK _ _ rfl (grown_refl W _))
    simp only [execOp, e1]
    try go_simp
    try (first | rfl | omega | (simp only [IntKind.wrap_i64, IntKind.wrap_u8, IntKind.wrap_u64, IntKind.wrap_u16, IntKind.wrap_u32]; omega) | (rw [Int.tmod_eq_emod_of_nonneg (by omega)]) | (rw [Int.tmod_eq_emod_of_nonneg (by omega)]; omega))
   ·intro a vs W hX hR he hf K hK
    have e7 : a.eval (.tmp 7) = .bool false := (he 3 7 (by kernel_rfl) rfl).trans (hR 3 (by kernel_rfl))
    refine Eq.mpr (if_pos (by exact (wanted_some rfl rfl e7).trans rfl)) ?_
    have e10 : a.eval (.tmp 10) = .pointer (some ⟨g0, 0, none⟩) := (he 6 10 (by kernel_rfl) rfl).trans (hR 6 (by kernel_rfl))
    have hbW := bthen (below_drew _) (grow_below hX)
    have hc : W.cell? ⟨g0, 0, none⟩ = some (.bool p.six) := ((HP.out.on hbW).cell 0).trans (rfl : p.cells[0]? = some (.bool p.six))
    refine wp_value (v := _) ?_ (hK _ _ rfl (grown_refl W _))
    simp only [execOp, e10]
    try go_simp
   ·intro a vs W hX hR he hf K hK
    have e7 : a.eval (.tmp 7) = .bool false := (he 3 7 (by kernel_rfl) rfl).trans (hR 3 (by kernel_rfl))
    refine Eq.mpr (if_pos (by exact (wanted_some rfl rfl e7).trans rfl)) ?_
    have e11 : a.eval (.tmp 11) = .bool p.six := (he 7 11 (by kernel_rfl) rfl).trans (hR 7 (by kernel_rfl))
    refine wp_enter (f := 36) (args := #[.bool p.six]) (by simp only [execOp, e11]; go_simp; simpa [Act.eval] using e11) ((rmost_any p.six W).mono ?_)
    rintro e w' ⟨rfl, rfl⟩
    exact ⟨_, rfl, hK _ _ rfl (grown_refl W _)⟩
   ·intro a vs W hX hR he hf K hK
    have e7 : a.eval (.tmp 7) = .bool false := (he 3 7 (by kernel_rfl) rfl).trans (hR 3 (by kernel_rfl))
    refine Eq.mpr (if_pos (by exact (wanted_some rfl rfl e7).trans rfl)) ?_
    have e9 : a.eval (.tmp 9) = .int .i64 p.len := (he 5 9 (by kernel_rfl) rfl).trans (hR 5 (by kernel_rfl))
    have e12 : a.eval (.tmp 12) = .int .i64 ((mostF p.six : Nat) : Int) := (he 8 12 (by kernel_rfl) rfl).trans (hR 8 (by kernel_rfl))
    refine wp_value (v := .bool true) ?_ (hK _ _ rfl (grown_refl W _))
    simp only [execOp, e9, e12]
    try go_simp
    try (first | rfl | omega | (simp only [IntKind.wrap_i64, IntKind.wrap_u8, IntKind.wrap_u64, IntKind.wrap_u16, IntKind.wrap_u32]; omega) | (rw [Int.tmod_eq_emod_of_nonneg (by omega)]) | (rw [Int.tmod_eq_emod_of_nonneg (by omega)]; omega))
   ·intro a vs W hX hR he hf K hK
    rw [if_pos (wanted_none rfl)]
    have e7 : a.eval (.tmp 7) = .bool false := (he 3 7 (by kernel_rfl) rfl).trans (hR 3 (by kernel_rfl))
    have e13 : a.eval (.tmp 13) = .bool true := (he 9 13 (by kernel_rfl) rfl).trans (hR 9 (by kernel_rfl))
    refine wp_value (v := .bool true) ?_ (hK _ _ rfl (grown_refl W _))
    simp only [execOp, e7, e13]
    try go_simp
    try (first | rfl | omega | (simp only [IntKind.wrap_i64, IntKind.wrap_u8, IntKind.wrap_u64, IntKind.wrap_u16, IntKind.wrap_u32]; omega) | (rw [Int.tmod_eq_emod_of_nonneg (by omega)]) | (rw [Int.tmod_eq_emod_of_nonneg (by omega)]; omega))
   ·intro vs wx hXx hR
    have q0 := hR 0 (by decide)
    have q1 := hR 1 (by decide)
    have q2 := hR 2 (by decide)
    have q3 := hR 3 (by decide)
    have q4 := hR 4 (by decide)
    have q5 := hR 5 (by decide)
    have q6 := hR 6 (by decide)
    have q7 := hR 7 (by decide)
    have q8 := hR 8 (by decide)
    have q9 := hR 9 (by decide)
    have q10 := hR 10 (by decide)
    change vs 0 = .pointer (some ⟨g0, 17, none⟩) at q0
    change vs 1 = .int .i64 p.len at q1
    change vs 2 = .bool false at q2
    change vs 3 = .bool false at q3
    change vs 4 = .pointer (some ⟨g0, 17, none⟩) at q4
    change vs 5 = .int .i64 p.len at q5
    change vs 6 = .pointer (some ⟨g0, 0, none⟩) at q6
    change vs 7 = .bool p.six at q7
    change vs 8 = .int .i64 ((mostF p.six : Nat) : Int) at q8
    change vs 9 = .bool true at q9
    change vs 10 = .bool true at q10
    simp only [putAll, Act.put, List.setIfInBounds_toArray, List.set_cons_zero, List.set_cons_succ, q0, q1, q2, q3, q4, q5, q6, q7, q8, q9, q10]
    clear q0 q1 q2 q3 q4 q5 q6 q7 q8 q9 q10
    clear hR
    have hbx := bthen HW.out (bthen (below_drew _) (grow_below hXx))
    clear hXx
    go_wp2_with fail
    go_ret
    exact ⟨by rw [HC.out]; rfl, hbx⟩
  ·obtain ⟨m, hm⟩ : ∃ m, m = p.len.toNat := ⟨_, rfl⟩
   have hml : p.len = (m : Int) := by omega
   have hm128 : m ≤ 128 := by have := mostF_le p.six; omega
   have HC := Lib.hid (show chkP p = if firstF p.addr m = p.addr then 0 else 1 by unfold chkP; rw [if_neg h1, if_neg h2, hm])
   have HML := Lib.hid hml
   have HZ := Lib.hid (first_zero p.addr HF.out.addr m hm128)
   have HB := Lib.hid (show ∀ j : Nat, j < 128 → (bitI p.addr (j : Int) = if bitF p.addr j then 1 else 0) from fun j hj => by unfold bitI; rw [if_pos ⟨by omega, by omega⟩, Int.toNat_natCast])
   clear hm hml
   go_enter Try.func24, Try.ntmps24
   go_upto_region 1 with (refine wpList_box_blk (by rfl) 30 (.tmp 0) rfl p.cells rfl ?_; intro w1 hb1 hB1 hs1; clear hs1)
   obtain ⟨g0, hg0⟩ : ∃ g, w.heap.size = g := ⟨_, rfl⟩
   rw [hg0] at hb1
   try rw [hg0]
   have HP := Lib.hid hb1
   have HW := Lib.hid hB1
   clear hb1 hB1 hg0
   refine wp_region_rel (fun A B => A.grownBy B none) (fun A => grown_refl A _) (fun A B C h k => grown_trans h k) (relAt (List.cons (fun v _ => v = .pointer (some ⟨g0, 17, none⟩)) (List.cons (fun v _ => v = .int .i64 p.len) (List.cons (fun v _ => v = .bool false) (List.cons (fun v _ => v = .bool false) (List.cons (fun v _ => v = .pointer (some ⟨g0, 17, none⟩)) (List.cons (fun v _ => v = .int .i64 p.len) (List.cons (fun v _ => v = .pointer (some ⟨g0, 0, none⟩)) (List.cons (fun v _ => v = .bool p.six) (List.cons (fun v _ => v = .int .i64 ((mostF p.six : Nat) : Int)) (List.cons (fun v _ => v = .bool false) (List.cons (fun v _ => v = .bool false) ([]))))))))))))) (MonoL.at_ (.cons (mono_val _) (.cons (mono_val _) (.cons (mono_val _) (.cons (mono_val _) (.cons (mono_val _) (.cons (mono_val _) (.cons (mono_val _) (.cons (mono_val _) (.cons (mono_val _) (.cons (mono_val _) (.cons (mono_val _) .nil)))))))))))) (by kernel_rfl) (by kernel_rfl) ⟨?_, ?_, ?_, ?_, ?_, ?_, ?_, ?_, ?_, ?_, ?_, trivial⟩ ?_
   ·intro a vs W hX hR he hf K hK
    rw [if_pos (wanted_none rfl)]
    have e1 : a.eval (.tmp 1) = .pointer (some ⟨g0, 0, none⟩) := hf 1 (by kernel_rfl)
    refine wp_value (v := .pointer (some ⟨g0, 17, none⟩)) ?_ (hK _ _ rfl (grown_refl W _))
    simp only [execOp, e1]
    try go_simp
    try (first | rfl | omega | (simp only [IntKind.wrap_i64, IntKind.wrap_u8, IntKind.wrap_u64, IntKind.wrap_u16, IntKind.wrap_u32]; omega) | (rw [Int.tmod_eq_emod_of_nonneg (by omega)]) | (rw [Int.tmod_eq_emod_of_nonneg (by omega)]; omega))
   ·intro a vs W hX hR he hf K hK
    rw [if_pos (wanted_none rfl)]
    have e4 : a.eval (.tmp 4) = .pointer (some ⟨g0, 17, none⟩) := (he 0 4 (by kernel_rfl) rfl).trans (hR 0 (by kernel_rfl))
    have hbW := bthen (below_drew _) (grow_below hX)
    have hc : W.cell? ⟨g0, 17, none⟩ = some (.int .i64 p.len) := ((HP.out.on hbW).cell 17).trans (p.get_len HF.out.addr)
    refine wp_value (v := _) ?_ (hK _ _ rfl (grown_refl W _))
    simp only [execOp, e4]
    try go_simp
   ·intro a vs W hX hR he hf K hK
    rw [if_pos (wanted_none rfl)]
    have e5 : a.eval (.tmp 5) = .int .i64 p.len := (he 1 5 (by kernel_rfl) rfl).trans (hR 1 (by kernel_rfl))
    refine wp_value (v := .bool false) ?_ (hK _ _ rfl (grown_refl W _))
    simp only [execOp, e5]
    try go_simp
    try (first | rfl | omega | (simp only [IntKind.wrap_i64, IntKind.wrap_u8, IntKind.wrap_u64, IntKind.wrap_u16, IntKind.wrap_u32]; omega) | (rw [Int.tmod_eq_emod_of_nonneg (by omega)]) | (rw [Int.tmod_eq_emod_of_nonneg (by omega)]; omega))
   ·intro a vs W hX hR he hf K hK
    rw [if_pos (wanted_none rfl)]
    have e6 : a.eval (.tmp 6) = .bool false := (he 2 6 (by kernel_rfl) rfl).trans (hR 2 (by kernel_rfl))
    refine wp_value (v := .bool false) ?_ (hK _ _ rfl (grown_refl W _))
    simp only [execOp, e6]
    try go_simp
    try (first | rfl | omega | (simp only [IntKind.wrap_i64, IntKind.wrap_u8, IntKind.wrap_u64, IntKind.wrap_u16, IntKind.wrap_u32]; omega) | (rw [Int.tmod_eq_emod_of_nonneg (by omega)]) | (rw [Int.tmod_eq_emod_of_nonneg (by omega)]; omega))
   ·intro a vs W hX hR he hf K hK
    have e7 : a.eval (.tmp 7) = .bool false := (he 3 7 (by kernel_rfl) rfl).trans (hR 3 (by kernel_rfl))
    refine Eq.mpr (if_pos (by exact (wanted_some rfl rfl e7).trans rfl)) ?_
    have e1 : a.eval (.tmp 1) = .pointer (some ⟨g0, 0, none⟩) := hf 1 (by kernel_rfl)
    refine wp_value (v := .pointer (some ⟨g0, 17, none⟩)) ?_ (hK _ _ rfl (grown_refl W _))
    simp only [execOp, e1]
    try go_simp
    try (first | rfl | omega | (simp only [IntKind.wrap_i64, IntKind.wrap_u8, IntKind.wrap_u64, IntKind.wrap_u16, IntKind.wrap_u32]; omega) | (rw [Int.tmod_eq_emod_of_nonneg (by omega)]) | (rw [Int.tmod_eq_emod_of_nonneg (by omega)]; omega))
   ·intro a vs W hX hR he hf K hK
    have e7 : a.eval (.tmp 7) = .bool false := (he 3 7 (by kernel_rfl) rfl).trans (hR 3 (by kernel_rfl))
    refine Eq.mpr (if_pos (by exact (wanted_some rfl rfl e7).trans rfl)) ?_
    have e8 : a.eval (.tmp 8) = .pointer (some ⟨g0, 17, none⟩) := (he 4 8 (by kernel_rfl) rfl).trans (hR 4 (by kernel_rfl))
    have hbW := bthen (below_drew _) (grow_below hX)
    have hc : W.cell? ⟨g0, 17, none⟩ = some (.int .i64 p.len) := ((HP.out.on hbW).cell 17).trans (p.get_len HF.out.addr)
    refine wp_value (v := _) ?_ (hK _ _ rfl (grown_refl W _))
    simp only [execOp, e8]
    try go_simp
   ·intro a vs W hX hR he hf K hK
    have e7 : a.eval (.tmp 7) = .bool false := (he 3 7 (by kernel_rfl) rfl).trans (hR 3 (by kernel_rfl))
    refine Eq.mpr (if_pos (by exact (wanted_some rfl rfl e7).trans rfl)) ?_
    have e1 : a.eval (.tmp 1) = .pointer (some ⟨g0, 0, none⟩) := hf 1 (by kernel_rfl)
    refine wp_value (v := .pointer (some ⟨g0, 0, none⟩)) ?_ (hK _ _ rfl (grown_refl W _))
    simp only [execOp, e1]
    try go_simp
    try (first | rfl | omega | (simp only [IntKind.wrap_i64, IntKind.wrap_u8, IntKind.wrap_u64, IntKind.wrap_u16, IntKind.wrap_u32]; omega) | (rw [Int.tmod_eq_emod_of_nonneg (by omega)]) | (rw [Int.tmod_eq_emod_of_nonneg (by omega)]; omega))
   ·intro a vs W hX hR he hf K hK
    have e7 : a.eval (.tmp 7) = .bool false := (he 3 7 (by kernel_rfl) rfl).trans (hR 3 (by kernel_rfl))
    refine Eq.mpr (if_pos (by exact (wanted_some rfl rfl e7).trans rfl)) ?_
    have e10 : a.eval (.tmp 10) = .pointer (some ⟨g0, 0, none⟩) := (he 6 10 (by kernel_rfl) rfl).trans (hR 6 (by kernel_rfl))
    have hbW := bthen (below_drew _) (grow_below hX)
    have hc : W.cell? ⟨g0, 0, none⟩ = some (.bool p.six) := ((HP.out.on hbW).cell 0).trans (rfl : p.cells[0]? = some (.bool p.six))
    refine wp_value (v := _) ?_ (hK _ _ rfl (grown_refl W _))
    simp only [execOp, e10]
    try go_simp
   ·intro a vs W hX hR he hf K hK
    have e7 : a.eval (.tmp 7) = .bool false := (he 3 7 (by kernel_rfl) rfl).trans (hR 3 (by kernel_rfl))
    refine Eq.mpr (if_pos (by exact (wanted_some rfl rfl e7).trans rfl)) ?_
    have e11 : a.eval (.tmp 11) = .bool p.six := (he 7 11 (by kernel_rfl) rfl).trans (hR 7 (by kernel_rfl))
    refine wp_enter (f := 36) (args := #[.bool p.six]) (by simp only [execOp, e11]; go_simp; simpa [Act.eval] using e11) ((rmost_any p.six W).mono ?_)
    rintro e w' ⟨rfl, rfl⟩
    exact ⟨_, rfl, hK _ _ rfl (grown_refl W _)⟩
   ·intro a vs W hX hR he hf K hK
    have e7 : a.eval (.tmp 7) = .bool false := (he 3 7 (by kernel_rfl) rfl).trans (hR 3 (by kernel_rfl))
    refine Eq.mpr (if_pos (by exact (wanted_some rfl rfl e7).trans rfl)) ?_
    have e9 : a.eval (.tmp 9) = .int .i64 p.len := (he 5 9 (by kernel_rfl) rfl).trans (hR 5 (by kernel_rfl))
    have e12 : a.eval (.tmp 12) = .int .i64 ((mostF p.six : Nat) : Int) := (he 8 12 (by kernel_rfl) rfl).trans (hR 8 (by kernel_rfl))
    refine wp_value (v := .bool false) ?_ (hK _ _ rfl (grown_refl W _))
    simp only [execOp, e9, e12]
    try go_simp
    try (first | rfl | omega | (simp only [IntKind.wrap_i64, IntKind.wrap_u8, IntKind.wrap_u64, IntKind.wrap_u16, IntKind.wrap_u32]; omega) | (rw [Int.tmod_eq_emod_of_nonneg (by omega)]) | (rw [Int.tmod_eq_emod_of_nonneg (by omega)]; omega))
   ·intro a vs W hX hR he hf K hK
    rw [if_pos (wanted_none rfl)]
    have e7 : a.eval (.tmp 7) = .bool false := (he 3 7 (by kernel_rfl) rfl).trans (hR 3 (by kernel_rfl))
    have e13 : a.eval (.tmp 13) = .bool false := (he 9 13 (by kernel_rfl) rfl).trans (hR 9 (by kernel_rfl))
    refine wp_value (v := .bool false) ?_ (hK _ _ rfl (grown_refl W _))
    simp only [execOp, e7, e13]
    try go_simp
    try (first | rfl | omega | (simp only [IntKind.wrap_i64, IntKind.wrap_u8, IntKind.wrap_u64, IntKind.wrap_u16, IntKind.wrap_u32]; omega) | (rw [Int.tmod_eq_emod_of_nonneg (by omega)]) | (rw [Int.tmod_eq_emod_of_nonneg (by omega)]; omega))
   ·intro vs wx hXx hR
    have q0 := hR 0 (by decide)
    have q1 := hR 1 (by decide)
    have q2 := hR 2 (by decide)
    have q3 := hR 3 (by decide)
    have q4 := hR 4 (by decide)
    have q5 := hR 5 (by decide)
    have q6 := hR 6 (by decide)
    have q7 := hR 7 (by decide)
    have q8 := hR 8 (by decide)
    have q9 := hR 9 (by decide)
    have q10 := hR 10 (by decide)
    change vs 0 = .pointer (some ⟨g0, 17, none⟩) at q0
    change vs 1 = .int .i64 p.len at q1
    change vs 2 = .bool false at q2
    change vs 3 = .bool false at q3
    change vs 4 = .pointer (some ⟨g0, 17, none⟩) at q4
    change vs 5 = .int .i64 p.len at q5
    change vs 6 = .pointer (some ⟨g0, 0, none⟩) at q6
    change vs 7 = .bool p.six at q7
    change vs 8 = .int .i64 ((mostF p.six : Nat) : Int) at q8
    change vs 9 = .bool false at q9
    change vs 10 = .bool false at q10
    simp only [putAll, Act.put, List.setIfInBounds_toArray, List.set_cons_zero, List.set_cons_succ, q0, q1, q2, q3, q4, q5, q6, q7, q8, q9, q10]
    clear q0 q1 q2 q3 q4 q5 q6 q7 q8 q9 q10
    clear hR
    replace HP := Lib.hid (HP.out.on (bthen (below_drew _) (grow_below hXx)))
    replace HW := Lib.hid (bthen HW.out (bthen (below_drew _) (grow_below hXx)))
    have c2 : wx.cell? ⟨g0, 17, none⟩ = some (.int .i64 (m : Int)) := by rw [← HML.out]; exact (HP.out.cell 17).trans (p.get_len HF.out.addr)
    clear hXx h1 h2
    go_wp2_with fail
    clear c2
    go_loopw [3] (fun i wr => ∃ n : Nat, m ≤ n ∧ n ≤ 128 ∧ i = .int .i64 (n : Nat) ∧ (∀ j, m ≤ j → j < n → bitF p.addr j = false) ∧ Below wx.heap.size wx wr) (fun i _ => 128 - (intOf i).toNat)
    case atStart => exact ⟨m, Nat.le_refl _, hm128, rfl, fun j a b => by omega, Below.refl _ _⟩
    case round =>
     obtain ⟨n, hmn, hn, rfl, hj, hbe⟩ := hrel
     have HJ := Lib.hid hj
     have hBE := Lib.hid hbe
     replace HP := Lib.hid (HP.out.on hbe)
     replace HW := Lib.hid (bthen HW.out hbe)
     have hr := HP.out.range 1 16
     rw [p.drop_addr HF.out.addr] at hr
     have HR := Lib.hid hr
     clear hj hbe hr
     by_cases hlt : n < 128
     ·have hli : (n : Int) < 128 := by omega
      have HBN := Lib.hid (HB.out n hlt)
      go_wp2_with (refine wpList_value (by rfl) (exec_load_mid 28 _ rfl g0 1 (by rfl) (bv p.addr) _ HR.out Try.underlying28 rfl (size16 _ HF.out.addr)) ?_)
      refine (rbit_any p.addr HF.out.addr (n : Int) (by omega) (by omega) wr).mono ?_
      rintro e w5 ⟨rfl, hb⟩
      rw [HBN.out]
      cases hbt : bitF p.addr n
      ·have HBT := Lib.hid hbt
       have hb5 := hBE.out.trans (hb.mono hBE.out.size)
       clear hbt hb
       go_wp2_with fail
       go_roundw
       case rel => exact ⟨n + 1, by omega, by omega, by simp, fun j a b => by
        rcases Nat.lt_or_ge j n with h2 | h2
        ·exact HJ.out j a h2
        ·obtain rfl : j = n := by omega
         exact HBT.out, hb5⟩
       case measure => simp [intOf]; omega
      ·have HC2 := Lib.hid (show chkP p = 1 by
        rw [HC.out, if_neg]
        intro h
        have := HZ.out.1 h n hmn hlt
        rw [hbt] at this
        cases this)
       have hb5 := bthen HW.out hb
       clear hbt hb
       go_wp2_with fail
       go_ret
       exact ⟨by rw [HC2.out]; rfl, hb5⟩
     ·have hli : ¬ (n : Int) < 128 := by omega
      have HC2 := Lib.hid (show chkP p = 0 by
       rw [HC.out, if_pos (HZ.out.2 (fun j a b => HJ.out j a (by omega)))])
      go_wp2_with fail
      go_ret
      exact ⟨by rw [HC2.out]; rfl, HW.out⟩
end Go.Proofs.Ytbemhcihmlijaaa


/- Texts of this claim put together, in build order: each one's own remark stands ahead of it. -/
import Derived.Test.YtdmgomknamdcfaaG10
/- What the table's right, side and Len (layer 9) compute. No condition but sizes. -/
namespace Go.Proofs.Ytdmgomknamdcfaa
open Go.RowKit
set_option linter.unusedVariables false
set_option maxRecDepth 20000
set_option linter.unusedSimpArgs false

theorem range_below {B b o : Nat} {w w' : World} {cs : List Value} (h : Below B w w') (hb : b < B) (hr : w.rangeAt b o cs) : w'.rangeAt b o cs := fun j v hv => (h.cell (p := ⟨b, _, none⟩) hb).trans (hr j v hv)
theorem Nd.get_len (x : Nd) (h : x.p.addr.length = 16) : x.cells[17]? = some (.int .i64 x.p.len) := by
 unfold Nd.cells
 rw [List.getElem?_append_left (by rw [x.p.cells_length h]; omega)]
 exact x.p.get_len h
theorem Nd.get_is (x : Nd) (h : x.p.addr.length = 16) : x.cells[18]? = some (.bool x.is) := px18g x.p h _ 0
theorem Nd.get_v (x : Nd) (h : x.p.addr.length = 16) : x.cells[19]? = some (.int .i64 x.v) := px18g x.p h _ 1
theorem Nd.get_kid (x : Nd) (h : x.p.addr.length = 16) (s : Nat) (hs : s < 2) : x.cells[20 + s]? = some (.int .i64 ((x.kid s : Nat) : Int)) := by
 have := px18g x.p h [.bool x.is, .int .i64 x.v, .int .i64 (x.k0 : Int), .int .i64 (x.k1 : Int)] (2 + s)
 rw [show 18 + (2 + s) = 20 + s by omega] at this
 unfold Nd.cells
 rw [this]
 have h2 : s = 0 ∨ s = 1 := by omega
 rcases h2 with rfl | rfl <;> rfl
/-- may a prefix be one of a table's? -/
def okT (six : Bool) (p : Px) : Bool := decide (chkP p = 0) && (p.six == six)
set_option maxHeartbeats 4000000 in
theorem tright_nil (p : Px) (w : World) :
  Calls Try.prog 54 #[.pointer none, .agg p.cells.toArray] w fun e w' => e = .returned (.bool false) ∧ Below w.heap.size w w' := by
 go_enter Try.func54, Try.ntmps54
 go_upto_region 1 with (refine wpList_box_blk (by rfl) 30 (.tmp 1) rfl p.cells rfl ?_; intro w1 hb1 hB1 hs1; clear hs1)
 have HW := Lib.hid hB1
 clear hb1 hB1
 refine wp_region_rel (fun A B => A.grownBy B none) (fun A => grown_refl A _) (fun A B C h k => grown_trans h k) (relAt (List.cons (fun v _ => v = .pointer none) (List.cons (fun v _ => v = .bool false) (List.cons (fun v _ => v = .bool false) (List.cons (fun v _ => v = undef) (List.cons (fun v _ => v = undef) (List.cons (fun v _ => v = undef) (List.cons (fun v _ => v = .bool false) (List.cons (fun v _ => v = .bool false) (List.cons (fun v _ => v = undef) (List.cons (fun v _ => v = undef) (List.cons (fun v _ => v = undef) (List.cons (fun v _ => v = undef) (List.cons (fun v _ => v = undef) (List.cons (fun v _ => v = undef) (List.cons (fun v _ => v = undef) (List.cons (fun v _ => v = .bool false) (List.cons (fun v _ => v = .bool false) ([]))))))))))))))))))) (MonoL.at_ (.cons (mono_val _) (.cons (mono_val _) (.cons (mono_val _) (.cons (mono_val _) (.cons (mono_val _) (.cons (mono_val _) (.cons (mono_val _) (.cons (mono_val _) (.cons (mono_val _) (.cons (mono_val _) (.cons (mono_val _) (.cons (mono_val _) (.cons (mono_val _) (.cons (mono_val _) (.cons (mono_val _) (.cons (mono_val _) (.cons (mono_val _) .nil)))))))))))))))))) (by kernel_rfl) (by kernel_rfl) ⟨?_, ?_, ?_, ?_, ?_, ?_, ?_, ?_, ?_, ?_, ?_, ?_, ?_, ?_, ?_, ?_, ?_, trivial⟩ ?_
 ·intro a vs W hX hR he hf K hK
  rw [if_pos (wanted_none rfl)]
  have e0 : a.eval (.tmp 0) = .pointer none := hf 0 (by kernel_rfl)
  refine wp_value (v := .pointer none) ?_ (hK _ _ rfl (grown_refl W _))
  simp only [execOp, e0]
  try go_simp
 ·intro a vs W hX hR he hf K hK
  rw [if_pos (wanted_none rfl)]
  have e5 : a.eval (.tmp 5) = .pointer none := (he 0 5 (by kernel_rfl) rfl).trans (hR 0 (by kernel_rfl))
  refine wp_value (v := .bool false) ?_ (hK _ _ rfl (grown_refl W _))
  simp only [execOp, e5]
  try go_simp
 ·intro a vs W hX hR he hf K hK
  rw [if_pos (wanted_none rfl)]
  have e6 : a.eval (.tmp 6) = .bool false := (he 1 6 (by kernel_rfl) rfl).trans (hR 1 (by kernel_rfl))
  refine wp_value (v := .bool false) ?_ (hK _ _ rfl (grown_refl W _))
  simp only [execOp, e6]
  try go_simp
 ·intro a vs W hX hR he hf K hK
  have e7 : a.eval (.tmp 7) = .bool false := (he 2 7 (by kernel_rfl) rfl).trans (hR 2 (by kernel_rfl))
  refine Eq.mpr (if_neg (fun hz => Bool.false_ne_true (Eq.trans (by exact Eq.symm ((wanted_some rfl rfl e7).trans rfl)) hz))) ?_
  exact hK _ _ rfl (grown_refl W _)
 ·intro a vs W hX hR he hf K hK
  have e7 : a.eval (.tmp 7) = .bool false := (he 2 7 (by kernel_rfl) rfl).trans (hR 2 (by kernel_rfl))
  refine Eq.mpr (if_neg (fun hz => Bool.false_ne_true (Eq.trans (by exact Eq.symm ((wanted_some rfl rfl e7).trans rfl)) hz))) ?_
  exact hK _ _ rfl (grown_refl W _)
 ·intro a vs W hX hR he hf K hK
  have e7 : a.eval (.tmp 7) = .bool false := (he 2 7 (by kernel_rfl) rfl).trans (hR 2 (by kernel_rfl))
  refine Eq.mpr (if_neg (fun hz => Bool.false_ne_true (Eq.trans (by exact Eq.symm ((wanted_some rfl rfl e7).trans rfl)) hz))) ?_
  exact hK _ _ rfl (grown_refl W _)
 ·intro a vs W hX hR he hf K hK
  rw [if_pos (wanted_none rfl)]
  have e7 : a.eval (.tmp 7) = .bool false := (he 2 7 (by kernel_rfl) rfl).trans (hR 2 (by kernel_rfl))
  have e10 : a.eval (.tmp 10) = undef := (he 5 10 (by kernel_rfl) rfl).trans (hR 5 (by kernel_rfl))
  refine wp_value (v := .bool false) ?_ (hK _ _ rfl (grown_refl W _))
  simp only [execOp, e7, e10]
  try go_simp
 ·intro a vs W hX hR he hf K hK
  rw [if_pos (wanted_none rfl)]
  have e11 : a.eval (.tmp 11) = .bool false := (he 6 11 (by kernel_rfl) rfl).trans (hR 6 (by kernel_rfl))
  refine wp_value (v := .bool false) ?_ (hK _ _ rfl (grown_refl W _))
  simp only [execOp, e11]
  try go_simp
 ·intro a vs W hX hR he hf K hK
  have e12 : a.eval (.tmp 12) = .bool false := (he 7 12 (by kernel_rfl) rfl).trans (hR 7 (by kernel_rfl))
  refine Eq.mpr (if_neg (fun hz => Bool.false_ne_true (Eq.trans (by exact Eq.symm ((wanted_some rfl rfl e12).trans rfl)) hz))) ?_
  exact hK _ _ rfl (grown_refl W _)
 ·intro a vs W hX hR he hf K hK
  have e12 : a.eval (.tmp 12) = .bool false := (he 7 12 (by kernel_rfl) rfl).trans (hR 7 (by kernel_rfl))
  refine Eq.mpr (if_neg (fun hz => Bool.false_ne_true (Eq.trans (by exact Eq.symm ((wanted_some rfl rfl e12).trans rfl)) hz))) ?_
  exact hK _ _ rfl (grown_refl W _)
 ·intro a vs W hX hR he hf K hK
  have e12 : a.eval (.tmp 12) = .bool false := (he 7 12 (by kernel_rfl) rfl).trans (hR 7 (by kernel_rfl))
  refine Eq.mpr (if_neg (fun hz => Bool.false_ne_true (Eq.trans (by exact Eq.symm ((wanted_some rfl rfl e12).trans rfl)) hz))) ?_
  exact hK _ _ rfl (grown_refl W _)
 ·intro a vs W hX hR he hf K hK
  have e12 : a.eval (.tmp 12) = .bool false := (he 7 12 (by kernel_rfl) rfl).trans (hR 7 (by kernel_rfl))
  refine Eq.mpr (if_neg (fun hz => Bool.false_ne_true (Eq.trans (by exact Eq.symm ((wanted_some rfl rfl e12).trans rfl)) hz))) ?_
  exact hK _ _ rfl (grown_refl W _)
 ·intro a vs W hX hR he hf K hK
  have e12 : a.eval (.tmp 12) = .bool false := (he 7 12 (by kernel_rfl) rfl).trans (hR 7 (by kernel_rfl))
  refine Eq.mpr (if_neg (fun hz => Bool.false_ne_true (Eq.trans (by exact Eq.symm ((wanted_some rfl rfl e12).trans rfl)) hz))) ?_
  exact hK _ _ rfl (grown_refl W _)
 ·intro a vs W hX hR he hf K hK
  have e12 : a.eval (.tmp 12) = .bool false := (he 7 12 (by kernel_rfl) rfl).trans (hR 7 (by kernel_rfl))
  refine Eq.mpr (if_neg (fun hz => Bool.false_ne_true (Eq.trans (by exact Eq.symm ((wanted_some rfl rfl e12).trans rfl)) hz))) ?_
  exact hK _ _ rfl (grown_refl W _)
 ·intro a vs W hX hR he hf K hK
  have e12 : a.eval (.tmp 12) = .bool false := (he 7 12 (by kernel_rfl) rfl).trans (hR 7 (by kernel_rfl))
  refine Eq.mpr (if_neg (fun hz => Bool.false_ne_true (Eq.trans (by exact Eq.symm ((wanted_some rfl rfl e12).trans rfl)) hz))) ?_
  exact hK _ _ rfl (grown_refl W _)
 ·intro a vs W hX hR he hf K hK
  rw [if_pos (wanted_none rfl)]
  have e12 : a.eval (.tmp 12) = .bool false := (he 7 12 (by kernel_rfl) rfl).trans (hR 7 (by kernel_rfl))
  have e19 : a.eval (.tmp 19) = undef := (he 14 19 (by kernel_rfl) rfl).trans (hR 14 (by kernel_rfl))
  refine wp_value (v := .bool false) ?_ (hK _ _ rfl (grown_refl W _))
  simp only [execOp, e12, e19]
  try go_simp
 ·intro a vs W hX hR he hf K hK
  rw [if_pos (wanted_none rfl)]
  have e20 : a.eval (.tmp 20) = .bool false := (he 15 20 (by kernel_rfl) rfl).trans (hR 15 (by kernel_rfl))
  refine wp_value (v := .bool false) ?_ (hK _ _ rfl (grown_refl W _))
  simp only [execOp, e20]
  try go_simp
 ·intro vs wx hXx hR
  have q0 := hR 0 (by decide)
  have q1 := hR 1 (by decide)
  have q2 := hR 2 (by decide)
  have q3 := hR 3 (by decide)
  have q4 := hR 4 (by decide)
  have q5 := hR 5 (by decide)
  have q6 := hR 6 (by decide)
  have q7 := hR 7 (by decide)
  have q8 := hR 8 (by decide)
  have q9 := hR 9 (by decide)
  have q10 := hR 10 (by decide)
  have q11 := hR 11 (by decide)
  have q12 := hR 12 (by decide)
  have q13 := hR 13 (by decide)
  have q14 := hR 14 (by decide)
  have q15 := hR 15 (by decide)
  have q16 := hR 16 (by decide)
  change vs 0 = .pointer none at q0
  change vs 1 = .bool false at q1
  change vs 2 = .bool false at q2
  change vs 3 = undef at q3
  change vs 4 = undef at q4
  change vs 5 = undef at q5
  change vs 6 = .bool false at q6
  change vs 7 = .bool false at q7
  change vs 8 = undef at q8
  change vs 9 = undef at q9
  change vs 10 = undef at q10
  change vs 11 = undef at q11
  change vs 12 = undef at q12
  change vs 13 = undef at q13
  change vs 14 = undef at q14
  change vs 15 = .bool false at q15
  change vs 16 = .bool false at q16
  simp only [putAll, Act.put, List.setIfInBounds_toArray, List.set_cons_zero, List.set_cons_succ, q0, q1, q2, q3, q4, q5, q6, q7, q8, q9, q10, q11, q12, q13, q14, q15, q16]
  clear q0 q1 q2 q3 q4 q5 q6 q7 q8 q9 q10 q11 q12 q13 q14 q15 q16
  clear hR
  have hW := bthen HW.out (bthen (below_drew _) (grow_below hXx))
  clear hXx
  go_wp2_with fail
  go_ret
  exact ⟨rfl, hW⟩
set_option maxHeartbeats 4000000 in
theorem tright_any (w : World) (g : Nat) (t : Tb) (A Af : Option Addr) (c cf : Nat) (hT : Tab w g t A c Af cf) (p : Px) (hf : p.fit) :
  Calls Try.prog 54 #[.pointer (some ⟨g, 0, none⟩), .agg p.cells.toArray] w fun e w' => e = .returned (.bool (okT t.six p)) ∧ Below w.heap.size w w' := by
 have HF := Lib.hid hf
 have HT := Lib.hid hT.blk
 clear hf hT
 by_cases h1 : chkP p = 0
 ·have HC := Lib.hid (show okT t.six p = (p.six == t.six) by unfold okT; rw [decide_eq_true h1]; rfl)
  go_enter Try.func54, Try.ntmps54
  go_upto_region 1 with (refine wpList_box_blk (by rfl) 30 (.tmp 1) rfl p.cells rfl ?_; intro w1 hb1 hB1 hs1; clear hs1)
  obtain ⟨g1, hg1⟩ : ∃ g, w.heap.size = g := ⟨_, rfl⟩
  rw [hg1] at hb1
  try rw [hg1]
  have HP := Lib.hid hb1
  have HW := Lib.hid hB1
  replace HT := Lib.hid (HT.out.on hB1)
  clear hb1 hB1 hg1
  refine wp_region_rel (fun A B => A.grownBy B none) (fun A => grown_refl A _) (fun A B C h k => grown_trans h k) (relAt (List.cons (fun v _ => v = .pointer (some ⟨g, 0, none⟩)) (List.cons (fun v _ => v = .bool true) (List.cons (fun v _ => v = .bool true) (List.cons (fun v _ => v = .agg p.cells.toArray) (List.cons (fun v _ => v = .int .i64 (chkP p)) (List.cons (fun v _ => v = .bool true) (List.cons (fun v _ => v = .bool true) (List.cons (fun v _ => v = .bool true) (List.cons (fun v _ => v = .pointer (some ⟨g1, 0, none⟩)) (List.cons (fun v _ => v = .bool p.six) (List.cons (fun v _ => v = .pointer (some ⟨g, 0, none⟩)) (List.cons (fun v _ => v = .pointer (some ⟨g, 0, none⟩)) (List.cons (fun v _ => v = .pointer (some ⟨g, 0, none⟩)) (List.cons (fun v _ => v = .bool t.six) (List.cons (fun v _ => v = .bool (p.six == t.six)) (List.cons (fun v _ => v = .bool (p.six == t.six)) (List.cons (fun v _ => v = .bool (p.six == t.six)) ([]))))))))))))))))))) (MonoL.at_ (.cons (mono_val _) (.cons (mono_val _) (.cons (mono_val _) (.cons (mono_val _) (.cons (mono_val _) (.cons (mono_val _) (.cons (mono_val _) (.cons (mono_val _) (.cons (mono_val _) (.cons (mono_val _) (.cons (mono_val _) (.cons (mono_val _) (.cons (mono_val _) (.cons (mono_val _) (.cons (mono_val _) (.cons (mono_val _) (.cons (mono_val _) .nil)))))))))))))))))) (by kernel_rfl) (by kernel_rfl) ⟨?_, ?_, ?_, ?_, ?_, ?_, ?_, ?_, ?_, ?_, ?_, ?_, ?_, ?_, ?_, ?_, ?_, trivial⟩ ?_
  ·intro a vs W hX hR he hf K hK
   rw [if_pos (wanted_none rfl)]
   have e0 : a.eval (.tmp 0) = .pointer (some ⟨g, 0, none⟩) := hf 0 (by kernel_rfl)
   refine wp_value (v := .pointer (some ⟨g, 0, none⟩)) ?_ (hK _ _ rfl (grown_refl W _))
   simp only [execOp, e0]
   try go_simp
  ·intro a vs W hX hR he hf K hK
   rw [if_pos (wanted_none rfl)]
   have e5 : a.eval (.tmp 5) = .pointer (some ⟨g, 0, none⟩) := (he 0 5 (by kernel_rfl) rfl).trans (hR 0 (by kernel_rfl))
   refine wp_value (v := .bool true) ?_ (hK _ _ rfl (grown_refl W _))
   simp only [execOp, e5]
   try go_simp
  ·intro a vs W hX hR he hf K hK
   rw [if_pos (wanted_none rfl)]
   have e6 : a.eval (.tmp 6) = .bool true := (he 1 6 (by kernel_rfl) rfl).trans (hR 1 (by kernel_rfl))
   refine wp_value (v := .bool true) ?_ (hK _ _ rfl (grown_refl W _))
   simp only [execOp, e6]
   try go_simp
  ·intro a vs W hX hR he hf K hK
   have e7 : a.eval (.tmp 7) = .bool true := (he 2 7 (by kernel_rfl) rfl).trans (hR 2 (by kernel_rfl))
   refine Eq.mpr (if_pos (by exact (wanted_some rfl rfl e7).trans rfl)) ?_
   have e3 : a.eval (.tmp 3) = .pointer (some ⟨g1, 0, none⟩) := hf 3 (by kernel_rfl)
   have hbW := bthen (below_drew _) (grow_below hX)
   exact wp_value (exec_load 30 _ rfl g1 e3 30 p.cells _ (HP.out.on hbW) Try.underlying30 rfl (sizePx _ HF.out.addr)) (hK _ _ rfl (grown_refl W _))
  ·intro a vs W hX hR he hf K hK
   have e7 : a.eval (.tmp 7) = .bool true := (he 2 7 (by kernel_rfl) rfl).trans (hR 2 (by kernel_rfl))
   refine Eq.mpr (if_pos (by exact (wanted_some rfl rfl e7).trans rfl)) ?_
   have e8 : a.eval (.tmp 8) = .agg p.cells.toArray := (he 3 8 (by kernel_rfl) rfl).trans (hR 3 (by kernel_rfl))
   refine wp_enter (f := 36) (args := #[.agg p.cells.toArray]) (by simp only [execOp, e8]; go_simp; simpa [Act.eval] using e8) ((check_any p HF.out W).mono ?_)
   rintro e w' ⟨rfl, hb⟩
   exact ⟨_, rfl, hK _ _ rfl (below_grow hb _)⟩
  ·intro a vs W hX hR he hf K hK
   have e7 : a.eval (.tmp 7) = .bool true := (he 2 7 (by kernel_rfl) rfl).trans (hR 2 (by kernel_rfl))
   refine Eq.mpr (if_pos (by exact (wanted_some rfl rfl e7).trans rfl)) ?_
   have e9 : a.eval (.tmp 9) = .int .i64 (chkP p) := (he 4 9 (by kernel_rfl) rfl).trans (hR 4 (by kernel_rfl))
   refine wp_value (v := .bool true) ?_ (hK _ _ rfl (grown_refl W _))
   simp only [execOp, e9]
   go_simp
  ·intro a vs W hX hR he hf K hK
   rw [if_pos (wanted_none rfl)]
   have e7 : a.eval (.tmp 7) = .bool true := (he 2 7 (by kernel_rfl) rfl).trans (hR 2 (by kernel_rfl))
   have e10 : a.eval (.tmp 10) = .bool true := (he 5 10 (by kernel_rfl) rfl).trans (hR 5 (by kernel_rfl))
   refine wp_value (v := .bool true) ?_ (hK _ _ rfl (grown_refl W _))
   simp only [execOp, e7, e10]
   try go_simp
  ·intro a vs W hX hR he hf K hK
   rw [if_pos (wanted_none rfl)]
   have e11 : a.eval (.tmp 11) = .bool true := (he 6 11 (by kernel_rfl) rfl).trans (hR 6 (by kernel_rfl))
   refine wp_value (v := .bool true) ?_ (hK _ _ rfl (grown_refl W _))
   simp only [execOp, e11]
   try go_simp
  ·intro a vs W hX hR he hf K hK
   have e12 : a.eval (.tmp 12) = .bool true := (he 7 12 (by kernel_rfl) rfl).trans (hR 7 (by kernel_rfl))
   refine Eq.mpr (if_pos (by exact (wanted_some rfl rfl e12).trans rfl)) ?_
   have e3 : a.eval (.tmp 3) = .pointer (some ⟨g1, 0, none⟩) := hf 3 (by kernel_rfl)
   refine wp_value (v := .pointer (some ⟨g1, 0, none⟩)) ?_ (hK _ _ rfl (grown_refl W _))
   simp only [execOp, e3]
   try go_simp
  ·intro a vs W hX hR he hf K hK
   have e12 : a.eval (.tmp 12) = .bool true := (he 7 12 (by kernel_rfl) rfl).trans (hR 7 (by kernel_rfl))
   refine Eq.mpr (if_pos (by exact (wanted_some rfl rfl e12).trans rfl)) ?_
   have e13 : a.eval (.tmp 13) = .pointer (some ⟨g1, 0, none⟩) := (he 8 13 (by kernel_rfl) rfl).trans (hR 8 (by kernel_rfl))
   have hbW := bthen (below_drew _) (grow_below hX)
   have hc : W.cell? ⟨g1, 0, none⟩ = some (.bool p.six) := ((HP.out.on hbW).cell 0).trans (rfl : p.cells[0]? = some (.bool p.six))
   refine wp_value (v := _) ?_ (hK _ _ rfl (grown_refl W _))
   simp only [execOp, e13]
   try go_simp
  ·intro a vs W hX hR he hf K hK
   have e12 : a.eval (.tmp 12) = .bool true := (he 7 12 (by kernel_rfl) rfl).trans (hR 7 (by kernel_rfl))
   refine Eq.mpr (if_pos (by exact (wanted_some rfl rfl e12).trans rfl)) ?_
   have e0 : a.eval (.tmp 0) = .pointer (some ⟨g, 0, none⟩) := hf 0 (by kernel_rfl)
   refine wp_value (v := .pointer (some ⟨g, 0, none⟩)) ?_ (hK _ _ rfl (grown_refl W _))
   simp only [execOp, e0]
   try go_simp
  ·intro a vs W hX hR he hf K hK
   have e12 : a.eval (.tmp 12) = .bool true := (he 7 12 (by kernel_rfl) rfl).trans (hR 7 (by kernel_rfl))
   refine Eq.mpr (if_pos (by exact (wanted_some rfl rfl e12).trans rfl)) ?_
   have e15 : a.eval (.tmp 15) = .pointer (some ⟨g, 0, none⟩) := (he 10 15 (by kernel_rfl) rfl).trans (hR 10 (by kernel_rfl))
   refine wp_value (v := .pointer (some ⟨g, 0, none⟩)) ?_ (hK _ _ rfl (grown_refl W _))
   simp only [execOp, e15]
   try go_simp
  ·intro a vs W hX hR he hf K hK
   have e12 : a.eval (.tmp 12) = .bool true := (he 7 12 (by kernel_rfl) rfl).trans (hR 7 (by kernel_rfl))
   refine Eq.mpr (if_pos (by exact (wanted_some rfl rfl e12).trans rfl)) ?_
   have e16 : a.eval (.tmp 16) = .pointer (some ⟨g, 0, none⟩) := (he 11 16 (by kernel_rfl) rfl).trans (hR 11 (by kernel_rfl))
   refine wp_value (v := .pointer (some ⟨g, 0, none⟩)) ?_ (hK _ _ rfl (grown_refl W _))
   simp only [execOp, e16]
   try go_simp
  ·intro a vs W hX hR he hf K hK
   have e12 : a.eval (.tmp 12) = .bool true := (he 7 12 (by kernel_rfl) rfl).trans (hR 7 (by kernel_rfl))
   refine Eq.mpr (if_pos (by exact (wanted_some rfl rfl e12).trans rfl)) ?_
   have e17 : a.eval (.tmp 17) = .pointer (some ⟨g, 0, none⟩) := (he 12 17 (by kernel_rfl) rfl).trans (hR 12 (by kernel_rfl))
   have hbW := bthen (below_drew _) (grow_below hX)
   have hc : W.cell? ⟨g, 0, none⟩ = some (.bool t.six) := (HT.out.on hbW).cell 0
   refine wp_value (v := _) ?_ (hK _ _ rfl (grown_refl W _))
   simp only [execOp, e17]
   try go_simp
  ·intro a vs W hX hR he hf K hK
   have e12 : a.eval (.tmp 12) = .bool true := (he 7 12 (by kernel_rfl) rfl).trans (hR 7 (by kernel_rfl))
   refine Eq.mpr (if_pos (by exact (wanted_some rfl rfl e12).trans rfl)) ?_
   have e14 : a.eval (.tmp 14) = .bool p.six := (he 9 14 (by kernel_rfl) rfl).trans (hR 9 (by kernel_rfl))
   have e18 : a.eval (.tmp 18) = .bool t.six := (he 13 18 (by kernel_rfl) rfl).trans (hR 13 (by kernel_rfl))
   refine wp_value (v := .bool (p.six == t.six)) ?_ (hK _ _ rfl (grown_refl W _))
   simp only [execOp, e14, e18]
   try go_simp
  ·intro a vs W hX hR he hf K hK
   rw [if_pos (wanted_none rfl)]
   have e12 : a.eval (.tmp 12) = .bool true := (he 7 12 (by kernel_rfl) rfl).trans (hR 7 (by kernel_rfl))
   have e19 : a.eval (.tmp 19) = .bool (p.six == t.six) := (he 14 19 (by kernel_rfl) rfl).trans (hR 14 (by kernel_rfl))
   refine wp_value (v := .bool (p.six == t.six)) ?_ (hK _ _ rfl (grown_refl W _))
   simp only [execOp, e12, e19]
   try go_simp
  ·intro a vs W hX hR he hf K hK
   rw [if_pos (wanted_none rfl)]
   have e20 : a.eval (.tmp 20) = .bool (p.six == t.six) := (he 15 20 (by kernel_rfl) rfl).trans (hR 15 (by kernel_rfl))
   refine wp_value (v := .bool (p.six == t.six)) ?_ (hK _ _ rfl (grown_refl W _))
   simp only [execOp, e20]
   try go_simp
  ·intro vs wx hXx hR
   have q0 := hR 0 (by decide)
   have q1 := hR 1 (by decide)
   have q2 := hR 2 (by decide)
   have q3 := hR 3 (by decide)
   have q4 := hR 4 (by decide)
   have q5 := hR 5 (by decide)
   have q6 := hR 6 (by decide)
   have q7 := hR 7 (by decide)
   have q8 := hR 8 (by decide)
   have q9 := hR 9 (by decide)
   have q10 := hR 10 (by decide)
   have q11 := hR 11 (by decide)
   have q12 := hR 12 (by decide)
   have q13 := hR 13 (by decide)
   have q14 := hR 14 (by decide)
   have q15 := hR 15 (by decide)
   have q16 := hR 16 (by decide)
   change vs 0 = .pointer (some ⟨g, 0, none⟩) at q0
   change vs 1 = .bool true at q1
   change vs 2 = .bool true at q2
   change vs 3 = .agg p.cells.toArray at q3
   change vs 4 = .int .i64 (chkP p) at q4
   change vs 5 = .bool true at q5
   change vs 6 = .bool true at q6
   change vs 7 = .bool true at q7
   change vs 8 = .pointer (some ⟨g1, 0, none⟩) at q8
   change vs 9 = .bool p.six at q9
   change vs 10 = .pointer (some ⟨g, 0, none⟩) at q10
   change vs 11 = .pointer (some ⟨g, 0, none⟩) at q11
   change vs 12 = .pointer (some ⟨g, 0, none⟩) at q12
   change vs 13 = .bool t.six at q13
   change vs 14 = .bool (p.six == t.six) at q14
   change vs 15 = .bool (p.six == t.six) at q15
   change vs 16 = .bool (p.six == t.six) at q16
   simp only [putAll, Act.put, List.setIfInBounds_toArray, List.set_cons_zero, List.set_cons_succ, q0, q1, q2, q3, q4, q5, q6, q7, q8, q9, q10, q11, q12, q13, q14, q15, q16]
   clear q0 q1 q2 q3 q4 q5 q6 q7 q8 q9 q10 q11 q12 q13 q14 q15 q16
   clear hR
   have hW := bthen HW.out (bthen (below_drew _) (grow_below hXx))
   clear hXx h1
   go_wp2_with fail
   go_ret
   exact ⟨by rw [HC.out]; rfl, hW⟩
 ·have HC := Lib.hid (show okT t.six p = false by unfold okT; rw [decide_eq_false h1]; rfl)
  go_enter Try.func54, Try.ntmps54
  go_upto_region 1 with (refine wpList_box_blk (by rfl) 30 (.tmp 1) rfl p.cells rfl ?_; intro w1 hb1 hB1 hs1; clear hs1)
  obtain ⟨g1, hg1⟩ : ∃ g, w.heap.size = g := ⟨_, rfl⟩
  rw [hg1] at hb1
  try rw [hg1]
  have HP := Lib.hid hb1
  have HW := Lib.hid hB1
  replace HT := Lib.hid (HT.out.on hB1)
  clear hb1 hB1 hg1
  refine wp_region_rel (fun A B => A.grownBy B none) (fun A => grown_refl A _) (fun A B C h k => grown_trans h k) (relAt (List.cons (fun v _ => v = .pointer (some ⟨g, 0, none⟩)) (List.cons (fun v _ => v = .bool true) (List.cons (fun v _ => v = .bool true) (List.cons (fun v _ => v = .agg p.cells.toArray) (List.cons (fun v _ => v = .int .i64 (chkP p)) (List.cons (fun v _ => v = .bool false) (List.cons (fun v _ => v = .bool false) (List.cons (fun v _ => v = .bool false) (List.cons (fun v _ => v = undef) (List.cons (fun v _ => v = undef) (List.cons (fun v _ => v = undef) (List.cons (fun v _ => v = undef) (List.cons (fun v _ => v = undef) (List.cons (fun v _ => v = undef) (List.cons (fun v _ => v = undef) (List.cons (fun v _ => v = .bool false) (List.cons (fun v _ => v = .bool false) ([]))))))))))))))))))) (MonoL.at_ (.cons (mono_val _) (.cons (mono_val _) (.cons (mono_val _) (.cons (mono_val _) (.cons (mono_val _) (.cons (mono_val _) (.cons (mono_val _) (.cons (mono_val _) (.cons (mono_val _) (.cons (mono_val _) (.cons (mono_val _) (.cons (mono_val _) (.cons (mono_val _) (.cons (mono_val _) (.cons (mono_val _) (.cons (mono_val _) (.cons (mono_val _) .nil)))))))))))))))))) (by kernel_rfl) (by kernel_rfl) ⟨?_, ?_, ?_, ?_, ?_, ?_, ?_, ?_, ?_, ?_, ?_, ?_, ?_, ?_, ?_, ?_, ?_, trivial⟩ ?_
  ·intro a vs W hX hR he hf K hK
   rw [if_pos (wanted_none rfl)]
   have e0 : a.eval (.tmp 0) = .pointer (some ⟨g, 0, none⟩) := hf 0 (by kernel_rfl)
   refine wp_value (v := .pointer (some ⟨g, 0, none⟩)) ?_ (hK _ _ rfl (grown_refl W _))
   simp only [execOp, e0]
   try go_simp
  ·intro a vs W hX hR he hf K hK
   rw [if_pos (wanted_none rfl)]
   have e5 : a.eval (.tmp 5) = .pointer (some ⟨g, 0, none⟩) := (he 0 5 (by kernel_rfl) rfl).trans (hR 0 (by kernel_rfl))
   refine wp_value (v := .bool true) ?_ (hK _ _ rfl (grown_refl W _))
   simp only [execOp, e5]
   try go_simp
  ·intro a vs W hX hR he hf K hK
   rw [if_pos (wanted_none rfl)]
   have e6 : a.eval (.tmp 6) = .bool true := (he 1 6 (by kernel_rfl) rfl).trans (hR 1 (by kernel_rfl))
   refine wp_value (v := .bool true) ?_ (hK _ _ rfl (grown_refl W _))
   simp only [execOp, e6]
   try go_simp
  ·intro a vs W hX hR he hf K hK
   have e7 : a.eval (.tmp 7) = .bool true := (he 2 7 (by kernel_rfl) rfl).trans (hR 2 (by kernel_rfl))
   refine Eq.mpr (if_pos (by exact (wanted_some rfl rfl e7).trans rfl)) ?_
   have e3 : a.eval (.tmp 3) = .pointer (some ⟨g1, 0, none⟩) := hf 3 (by kernel_rfl)
   have hbW := bthen (below_drew _) (grow_below hX)
   exact wp_value (exec_load 30 _ rfl g1 e3 30 p.cells _ (HP.out.on hbW) Try.underlying30 rfl (sizePx _ HF.out.addr)) (hK _ _ rfl (grown_refl W _))
  ·intro a vs W hX hR he hf K hK
   have e7 : a.eval (.tmp 7) = .bool true := (he 2 7 (by kernel_rfl) rfl).trans (hR 2 (by kernel_rfl))
   refine Eq.mpr (if_pos (by exact (wanted_some rfl rfl e7).trans rfl)) ?_
   have e8 : a.eval (.tmp 8) = .agg p.cells.toArray := (he 3 8 (by kernel_rfl) rfl).trans (hR 3 (by kernel_rfl))
   refine wp_enter (f := 36) (args := #[.agg p.cells.toArray]) (by simp only [execOp, e8]; go_simp; simpa [Act.eval] using e8) ((check_any p HF.out W).mono ?_)
   rintro e w' ⟨rfl, hb⟩
   exact ⟨_, rfl, hK _ _ rfl (below_grow hb _)⟩
  ·intro a vs W hX hR he hf K hK
   have e7 : a.eval (.tmp 7) = .bool true := (he 2 7 (by kernel_rfl) rfl).trans (hR 2 (by kernel_rfl))
   refine Eq.mpr (if_pos (by exact (wanted_some rfl rfl e7).trans rfl)) ?_
   have e9 : a.eval (.tmp 9) = .int .i64 (chkP p) := (he 4 9 (by kernel_rfl) rfl).trans (hR 4 (by kernel_rfl))
   refine wp_value (v := .bool false) ?_ (hK _ _ rfl (grown_refl W _))
   simp only [execOp, e9]
   go_simp
  ·intro a vs W hX hR he hf K hK
   rw [if_pos (wanted_none rfl)]
   have e7 : a.eval (.tmp 7) = .bool true := (he 2 7 (by kernel_rfl) rfl).trans (hR 2 (by kernel_rfl))
   have e10 : a.eval (.tmp 10) = .bool false := (he 5 10 (by kernel_rfl) rfl).trans (hR 5 (by kernel_rfl))
   refine wp_value (v := .bool false) ?_ (hK _ _ rfl (grown_refl W _))
   simp only [execOp, e7, e10]
   try go_simp
  ·intro a vs W hX hR he hf K hK
   rw [if_pos (wanted_none rfl)]
   have e11 : a.eval (.tmp 11) = .bool false := (he 6 11 (by kernel_rfl) rfl).trans (hR 6 (by kernel_rfl))
   refine wp_value (v := .bool false) ?_ (hK _ _ rfl (grown_refl W _))
   simp only [execOp, e11]
   try go_simp
  ·intro a vs W hX hR he hf K hK
   have e12 : a.eval (.tmp 12) = .bool false := (he 7 12 (by kernel_rfl) rfl).trans (hR 7 (by kernel_rfl))
   refine Eq.mpr (if_neg (fun hz => Bool.false_ne_true (Eq.trans (by exact Eq.symm ((wanted_some rfl rfl e12).trans rfl)) hz))) ?_
   exact hK _ _ rfl (grown_refl W _)
  ·intro a vs W hX hR he hf K hK
   have e12 : a.eval (.tmp 12) = .bool false := (he 7 12 (by kernel_rfl) rfl).trans (hR 7 (by kernel_rfl))
   refine Eq.mpr (if_neg (fun hz => Bool.false_ne_true (Eq.trans (by exact Eq.symm ((wanted_some rfl rfl e12).trans rfl)) hz))) ?_
   exact hK _ _ rfl (grown_refl W _)
  ·intro a vs W hX hR he hf K hK
   have e12 : a.eval (.tmp 12) = .bool false := (he 7 12 (by kernel_rfl) rfl).trans (hR 7 (by kernel_rfl))
   refine Eq.mpr (if_neg (fun hz => Bool.false_ne_true (Eq.trans (by exact Eq.symm ((wanted_some rfl rfl e12).trans rfl)) hz))) ?_
   exact hK _ _ rfl (grown_refl W _)
  ·intro a vs W hX hR he hf K hK
   have e12 : a.eval (.tmp 12) = .bool false := (he 7 12 (by kernel_rfl) rfl).trans (hR 7 (by kernel_rfl))
   refine Eq.mpr (if_neg (fun hz => Bool.false_ne_true (Eq.trans (by exact Eq.symm ((wanted_some rfl rfl e12).trans rfl)) hz))) ?_
   exact hK _ _ rfl (grown_refl W _)
  ·intro a vs W hX hR he hf K hK
   have e12 : a.eval (.tmp 12) = .bool false := (he 7 12 (by kernel_rfl) rfl).trans (hR 7 (by kernel_rfl))
   refine Eq.mpr (if_neg (fun hz => Bool.false_ne_true (Eq.trans (by exact Eq.symm ((wanted_some rfl rfl e12).trans rfl)) hz))) ?_
   exact hK _ _ rfl (grown_refl W _)
  ·intro a vs W hX hR he hf K hK
   have e12 : a.eval (.tmp 12) = .bool false := (he 7 12 (by kernel_rfl) rfl).trans (hR 7 (by kernel_rfl))
   refine Eq.mpr (if_neg (fun hz => Bool.false_ne_true (Eq.trans (by exact Eq.symm ((wanted_some rfl rfl e12).trans rfl)) hz))) ?_
   exact hK _ _ rfl (grown_refl W _)
  ·intro a vs W hX hR he hf K hK
   have e12 : a.eval (.tmp 12) = .bool false := (he 7 12 (by kernel_rfl) rfl).trans (hR 7 (by kernel_rfl))
   refine Eq.mpr (if_neg (fun hz => Bool.false_ne_true (Eq.trans (by exact Eq.symm ((wanted_some rfl rfl e12).trans rfl)) hz))) ?_
   exact hK _ _ rfl (grown_refl W _)
  ·intro a vs W hX hR he hf K hK
   rw [if_pos (wanted_none rfl)]
   have e12 : a.eval (.tmp 12) = .bool false := (he 7 12 (by kernel_rfl) rfl).trans (hR 7 (by kernel_rfl))
   have e19 : a.eval (.tmp 19) = undef := (he 14 19 (by kernel_rfl) rfl).trans (hR 14 (by kernel_rfl))
   refine wp_value (v := .bool false) ?_ (hK _ _ rfl (grown_refl W _))
   simp only [execOp, e12, e19]
   try go_simp
  ·intro a vs W hX hR he hf K hK
   rw [if_pos (wanted_none rfl)]
   have e20 : a.eval (.tmp 20) = .bool false := (he 15 20 (by kernel_rfl) rfl).trans (hR 15 (by kernel_rfl))
   refine wp_value (v := .bool false) ?_ (hK _ _ rfl (grown_refl W _))
   simp only [execOp, e20]
   try go_simp
  ·intro vs wx hXx hR
   have q0 := hR 0 (by decide)
   have q1 := hR 1 (by decide)
   have q2 := hR 2 (by decide)
   have q3 := hR 3 (by decide)
   have q4 := hR 4 (by decide)
   have q5 := hR 5 (by decide)
   have q6 := hR 6 (by decide)
   have q7 := hR 7 (by decide)
   have q8 := hR 8 (by decide)
   have q9 := hR 9 (by decide)
   have q10 := hR 10 (by decide)
   have q11 := hR 11 (by decide)
   have q12 := hR 12 (by decide)
   have q13 := hR 13 (by decide)
   have q14 := hR 14 (by decide)
   have q15 := hR 15 (by decide)
   have q16 := hR 16 (by decide)
   change vs 0 = .pointer (some ⟨g, 0, none⟩) at q0
   change vs 1 = .bool true at q1
   change vs 2 = .bool true at q2
   change vs 3 = .agg p.cells.toArray at q3
   change vs 4 = .int .i64 (chkP p) at q4
   change vs 5 = .bool false at q5
   change vs 6 = .bool false at q6
   change vs 7 = .bool false at q7
   change vs 8 = undef at q8
   change vs 9 = undef at q9
   change vs 10 = undef at q10
   change vs 11 = undef at q11
   change vs 12 = undef at q12
   change vs 13 = undef at q13
   change vs 14 = undef at q14
   change vs 15 = .bool false at q15
   change vs 16 = .bool false at q16
   simp only [putAll, Act.put, List.setIfInBounds_toArray, List.set_cons_zero, List.set_cons_succ, q0, q1, q2, q3, q4, q5, q6, q7, q8, q9, q10, q11, q12, q13, q14, q15, q16]
   clear q0 q1 q2 q3 q4 q5 q6 q7 q8 q9 q10 q11 q12 q13 q14 q15 q16
   clear hR
   have hW := bthen HW.out (bthen (below_drew _) (grow_below hXx))
   clear hXx h1
   go_wp2_with fail
   go_ret
   exact ⟨by rw [HC.out]; rfl, hW⟩
/-- a bit as a number -/
def bitN (a : List UInt8) (i : Int) : Nat := (bitI a i).toNat
theorem bitN_lt (a : List UInt8) (i : Int) : bitN a i < 2 := by
 unfold bitN bitI
 split
 ·split <;> decide
 ·decide
theorem bitI_N (a : List UInt8) (i : Int) : bitI a i = ((bitN a i : Nat) : Int) := by
 unfold bitN bitI
 split
 ·split <;> rfl
 ·rfl
set_option maxHeartbeats 4000000 in
theorem tside_any (w : World) (g : Nat) (t : Tb) (A Af : Option Addr) (c cf : Nat) (hT : Tab w g t A c Af cf) (k : Nat) (x : Nd) (hx : t.N[k]? = some x) (p : Px) (hf : p.fit) :
  Calls Try.prog 72 #[.pointer (some ⟨g, 0, none⟩), .int .i64 (k : Int), .agg p.cells.toArray] w fun e w' => e = .returned (.int .i64 ((bitN p.addr x.p.len : Nat) : Int)) ∧ Below w.heap.size w w' := by
 have HF := Lib.hid hf
 have HXF := Lib.hid (hT.fit x (List.mem_of_getElem? hx))
 obtain ⟨bA, rfl, _, hba, hne, hr, _, hk1, _⟩ := hT.node hx
 have HT := Lib.hid hT
 have HXR := Lib.hid hr
 have HBA := Lib.hid hba
 have hlt : (k : Int) < (t.N.length : Int) := by omega
 clear hf hT hr hba hne hx
 go_enter Try.func72, Try.ntmps72
 go_upto_region 1 with (refine wpList_box_blk (by rfl) 30 (.tmp 2) rfl p.cells rfl ?_; intro w1 hb1 hB1 hs1; clear hs1)
 obtain ⟨g1, hg1⟩ : ∃ g, w.heap.size = g := ⟨_, rfl⟩
 rw [hg1] at hb1
 try rw [hg1]
 have HP := Lib.hid hb1
 have HW := Lib.hid hB1
 replace HT := Lib.hid (HT.out.on hB1)
 replace HXR := Lib.hid (range_below hB1 HBA.out HXR.out)
 replace HBA := Lib.hid (Nat.lt_of_lt_of_le HBA.out hB1.size)
 clear hb1 hB1 hg1
 refine wp_region_rel (fun A B => A.grownBy B none) (fun A => grown_refl A _) (fun A B C h k => grown_trans h k) (relAt (List.cons (fun v _ => v = .pointer (some ⟨g1, 1, none⟩)) (List.cons (fun v _ => v = .agg (bv p.addr).toArray) (List.cons (fun v _ => v = .pointer (some ⟨g, 0, none⟩)) (List.cons (fun v _ => v = .pointer (some ⟨g, 0, none⟩)) (List.cons (fun v _ => v = .pointer (some ⟨g, 3, none⟩)) (List.cons (fun v _ => v = .slice (some ⟨bA, 0, none⟩) t.N.length c) (List.cons (fun v _ => v = .int .i64 (k : Int)) (List.cons (fun v _ => v = .pointer (some ⟨bA, k * 22, none⟩)) (List.cons (fun v _ => v = .pointer (some ⟨bA, k * 22, none⟩)) (List.cons (fun v _ => v = .pointer (some ⟨bA, k * 22 + 17, none⟩)) (List.cons (fun v _ => v = .int .i64 x.p.len) (List.cons (fun v _ => v = .int .i64 ((bitN p.addr x.p.len : Nat) : Int)) (List.cons (fun v _ => v = .int .i64 ((bitN p.addr x.p.len : Nat) : Int)) ([]))))))))))))))) (MonoL.at_ (.cons (mono_val _) (.cons (mono_val _) (.cons (mono_val _) (.cons (mono_val _) (.cons (mono_val _) (.cons (mono_val _) (.cons (mono_val _) (.cons (mono_val _) (.cons (mono_val _) (.cons (mono_val _) (.cons (mono_val _) (.cons (mono_val _) (.cons (mono_val _) .nil)))))))))))))) (by kernel_rfl) (by kernel_rfl) ⟨?_, ?_, ?_, ?_, ?_, ?_, ?_, ?_, ?_, ?_, ?_, ?_, ?_, trivial⟩ ?_
 ·intro a vs W hX hR he hf K hK
  rw [if_pos (wanted_none rfl)]
  have e5 : a.eval (.tmp 5) = .pointer (some ⟨g1, 0, none⟩) := hf 5 (by kernel_rfl)
  refine wp_value (v := .pointer (some ⟨g1, 1, none⟩)) ?_ (hK _ _ rfl (grown_refl W _))
  simp only [execOp, e5]
  try go_simp
 ·intro a vs W hX hR he hf K hK
  rw [if_pos (wanted_none rfl)]
  have e7 : a.eval (.tmp 7) = .pointer (some ⟨g1, 1, none⟩) := (he 0 7 (by kernel_rfl) rfl).trans (hR 0 (by kernel_rfl))
  have hbW := bthen (below_drew _) (grow_below hX)
  have hr := (HP.out.on hbW).range 1 16
  rw [p.drop_addr HF.out.addr] at hr
  exact wp_value (exec_load_mid 23 _ rfl g1 1 e7 _ _ hr Try.underlying23 rfl (size16 _ HF.out.addr)) (hK _ _ rfl (grown_refl W _))
 ·intro a vs W hX hR he hf K hK
  rw [if_pos (wanted_none rfl)]
  have e0 : a.eval (.tmp 0) = .pointer (some ⟨g, 0, none⟩) := hf 0 (by kernel_rfl)
  refine wp_value (v := .pointer (some ⟨g, 0, none⟩)) ?_ (hK _ _ rfl (grown_refl W _))
  simp only [execOp, e0]
  try go_simp
 ·intro a vs W hX hR he hf K hK
  rw [if_pos (wanted_none rfl)]
  have e9 : a.eval (.tmp 9) = .pointer (some ⟨g, 0, none⟩) := (he 2 9 (by kernel_rfl) rfl).trans (hR 2 (by kernel_rfl))
  refine wp_value (v := .pointer (some ⟨g, 0, none⟩)) ?_ (hK _ _ rfl (grown_refl W _))
  simp only [execOp, e9]
  try go_simp
 ·intro a vs W hX hR he hf K hK
  rw [if_pos (wanted_none rfl)]
  have e10 : a.eval (.tmp 10) = .pointer (some ⟨g, 0, none⟩) := (he 3 10 (by kernel_rfl) rfl).trans (hR 3 (by kernel_rfl))
  refine wp_value (v := .pointer (some ⟨g, 3, none⟩)) ?_ (hK _ _ rfl (grown_refl W _))
  simp only [execOp, e10]
  try go_simp
 ·intro a vs W hX hR he hf K hK
  rw [if_pos (wanted_none rfl)]
  have e11 : a.eval (.tmp 11) = .pointer (some ⟨g, 3, none⟩) := (he 4 11 (by kernel_rfl) rfl).trans (hR 4 (by kernel_rfl))
  have hbW := bthen (below_drew _) (grow_below hX)
  have hc : W.cell? ⟨g, 3, none⟩ = some (.slice (some ⟨bA, 0, none⟩) t.N.length c) := (HT.out.blk.on hbW).cell 3
  refine wp_value (v := _) ?_ (hK _ _ rfl (grown_refl W _))
  simp only [execOp, e11]
  try go_simp
 ·intro a vs W hX hR he hf K hK
  rw [if_pos (wanted_none rfl)]
  have e1 : a.eval (.tmp 1) = .int .i64 (k : Int) := hf 1 (by kernel_rfl)
  refine wp_value (v := .int .i64 (k : Int)) ?_ (hK _ _ rfl (grown_refl W _))
  simp only [execOp, e1]
  try go_simp
 ·intro a vs W hX hR he hf K hK
  rw [if_pos (wanted_none rfl)]
  have e12 : a.eval (.tmp 12) = .slice (some ⟨bA, 0, none⟩) t.N.length c := (he 5 12 (by kernel_rfl) rfl).trans (hR 5 (by kernel_rfl))
  have e13 : a.eval (.tmp 13) = .int .i64 (k : Int) := (he 6 13 (by kernel_rfl) rfl).trans (hR 6 (by kernel_rfl))
  refine wp_value (v := .pointer (some ⟨bA, k * 22, none⟩)) ?_ (hK _ _ rfl (grown_refl W _))
  simp only [execOp, e12, e13]
  go_simp
 ·intro a vs W hX hR he hf K hK
  rw [if_pos (wanted_none rfl)]
  have e14 : a.eval (.tmp 14) = .pointer (some ⟨bA, k * 22, none⟩) := (he 7 14 (by kernel_rfl) rfl).trans (hR 7 (by kernel_rfl))
  refine wp_value (v := .pointer (some ⟨bA, k * 22, none⟩)) ?_ (hK _ _ rfl (grown_refl W _))
  simp only [execOp, e14]
  try go_simp
 ·intro a vs W hX hR he hf K hK
  rw [if_pos (wanted_none rfl)]
  have e15 : a.eval (.tmp 15) = .pointer (some ⟨bA, k * 22, none⟩) := (he 8 15 (by kernel_rfl) rfl).trans (hR 8 (by kernel_rfl))
  refine wp_value (v := .pointer (some ⟨bA, k * 22 + 17, none⟩)) ?_ (hK _ _ rfl (grown_refl W _))
  simp only [execOp, e15]
  try go_simp
 ·intro a vs W hX hR he hf K hK
  rw [if_pos (wanted_none rfl)]
  have e16 : a.eval (.tmp 16) = .pointer (some ⟨bA, k * 22 + 17, none⟩) := (he 9 16 (by kernel_rfl) rfl).trans (hR 9 (by kernel_rfl))
  have hbW := bthen (below_drew _) (grow_below hX)
  have hc : W.cell? ⟨bA, k * 22 + 17, none⟩ = some (.int .i64 x.p.len) := range_below hbW HBA.out HXR.out 17 _ (x.get_len HXF.out.addr)
  refine wp_value (v := _) ?_ (hK _ _ rfl (grown_refl W _))
  simp only [execOp, e16]
  try go_simp
 ·intro a vs W hX hR he hf K hK
  rw [if_pos (wanted_none rfl)]
  have e8 : a.eval (.tmp 8) = .agg (bv p.addr).toArray := (he 1 8 (by kernel_rfl) rfl).trans (hR 1 (by kernel_rfl))
  have e17 : a.eval (.tmp 17) = .int .i64 x.p.len := (he 10 17 (by kernel_rfl) rfl).trans (hR 10 (by kernel_rfl))
  refine wp_enter (f := 57) (args := #[.agg (bv p.addr).toArray, .int .i64 x.p.len]) (by simp only [execOp, e8, e17]; go_simp; exact ⟨by simpa [Act.eval] using e8, by simpa [Act.eval] using e17⟩) ((bit_any p.addr HF.out.addr x.p.len HXF.out.len.1 HXF.out.len.2 W).mono ?_)
  rintro e w' ⟨rfl, hb⟩
  rw [bitI_N]
  exact ⟨_, rfl, hK _ _ rfl (below_grow hb _)⟩
 ·intro a vs W hX hR he hf K hK
  rw [if_pos (wanted_none rfl)]
  have e18 : a.eval (.tmp 18) = .int .i64 ((bitN p.addr x.p.len : Nat) : Int) := (he 11 18 (by kernel_rfl) rfl).trans (hR 11 (by kernel_rfl))
  refine wp_value (v := .int .i64 ((bitN p.addr x.p.len : Nat) : Int)) ?_ (hK _ _ rfl (grown_refl W _))
  simp only [execOp, e18]
  try go_simp
 ·intro vs wx hXx hR
  have q0 := hR 0 (by decide)
  have q1 := hR 1 (by decide)
  have q2 := hR 2 (by decide)
  have q3 := hR 3 (by decide)
  have q4 := hR 4 (by decide)
  have q5 := hR 5 (by decide)
  have q6 := hR 6 (by decide)
  have q7 := hR 7 (by decide)
  have q8 := hR 8 (by decide)
  have q9 := hR 9 (by decide)
  have q10 := hR 10 (by decide)
  have q11 := hR 11 (by decide)
  have q12 := hR 12 (by decide)
  change vs 0 = .pointer (some ⟨g1, 1, none⟩) at q0
  change vs 1 = .agg (bv p.addr).toArray at q1
  change vs 2 = .pointer (some ⟨g, 0, none⟩) at q2
  change vs 3 = .pointer (some ⟨g, 0, none⟩) at q3
  change vs 4 = .pointer (some ⟨g, 3, none⟩) at q4
  change vs 5 = .slice (some ⟨bA, 0, none⟩) t.N.length c at q5
  change vs 6 = .int .i64 (k : Int) at q6
  change vs 7 = .pointer (some ⟨bA, k * 22, none⟩) at q7
  change vs 8 = .pointer (some ⟨bA, k * 22, none⟩) at q8
  change vs 9 = .pointer (some ⟨bA, k * 22 + 17, none⟩) at q9
  change vs 10 = .int .i64 x.p.len at q10
  change vs 11 = .int .i64 ((bitN p.addr x.p.len : Nat) : Int) at q11
  change vs 12 = .int .i64 ((bitN p.addr x.p.len : Nat) : Int) at q12
  simp only [putAll, Act.put, List.setIfInBounds_toArray, List.set_cons_zero, List.set_cons_succ, q0, q1, q2, q3, q4, q5, q6, q7, q8, q9, q10, q11, q12]
  clear q0 q1 q2 q3 q4 q5 q6 q7 q8 q9 q10 q11 q12
  clear hR
  have hW := bthen HW.out (bthen (below_drew _) (grow_below hXx))
  clear hXx
  go_wp2_with fail
  go_ret
  exact ⟨rfl, hW⟩
end Go.Proofs.Ytdmgomknamdcfaa


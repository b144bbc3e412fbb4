/- Texts of this claim put together, in build order: each one's own remark stands ahead of it. -/
import Derived.Test.YtdmgomknamdcfaaG02
import Derived.Test.YtdmgomknamdcfaaG11
/- What the table's right, side and Len (layer 9) compute. No condition but sizes. -/
namespace Go.Proofs.Ytdmgomknamdcfaa
open Go.RowKit
set_option linter.unusedVariables false
set_option maxRecDepth 20000
set_option linter.unusedSimpArgs false

theorem range_below {B b o : Nat} {w w' : World} {cs : List Value} (h : Below B w w') (hb : b < B) (hr : w.rangeAt b o cs) : w'.rangeAt b o cs := fun j v hv => (h.cell (p := ⟨b, _, none⟩) hb).trans (hr j v hv)
theorem Nd.get_len (x : Nd) (h : x.p.addr.length = 16) : x.cells[17]? = some (.int .i64 x.p.len) := by
 unfold Nd.cells
 rw [List.getElem?_append_left (by rw [x.p.cells_length h]; omega)]
 exact x.p.get_len h
theorem Nd.get_is (x : Nd) (h : x.p.addr.length = 16) : x.cells[18]? = some (.bool x.is) := px18g x.p h _ 0
theorem Nd.get_v (x : Nd) (h : x.p.addr.length = 16) : x.cells[19]? = some (.int .i64 x.v) := px18g x.p h _ 1
theorem Nd.get_kid (x : Nd) (h : x.p.addr.length = 16) (s : Nat) (hs : s < 2) : x.cells[20 + s]? = some (.int .i64 ((x.kid s : Nat) : Int)) := by
 have := px18g x.p h [.bool x.is, .int .i64 x.v, .int .i64 (x.k0 : Int), .int .i64 (x.k1 : Int)] (2 + s)
 rw [show 18 + (2 + s) = 20 + s by omega] at this
 unfold Nd.cells
 rw [this]
 have h2 : s = 0 ∨ s = 1 := by omega
 rcases h2 with rfl | rfl <;> rfl
/-- may a prefix be one of a table's? -/
def okT (six : Bool) (p : Px) : Bool := decide (chkP p = 0) && (p.six == six)
set_option maxHeartbeats 4000000 in
theorem tright_nil (p : Px) (w : World) :
  Calls Try.prog 54 #[.pointer none, .agg p.cells.toArray] w fun e w' => e = .returned (.bool false) ∧ Below w.heap.size w w' := by
 go_enter Try.func54, Try.ntmps54
 go_upto_region 1 with (refine wpList_box_blk (by rfl) 30 (.tmp 1) rfl p.cells rfl ?_; intro w1 hb1 hB1 hs1; clear hs1)
 have HW := Hh hB1
 clear hb1 hB1
 refine wp_region_rel (fun A B => A.grownBy B none) (fun A => grown_refl A _) (fun A B C h k => grown_trans h k) (relAt (eqs [.pointer none, .bool false, .bool false, undef, undef, undef, .bool false, .bool false, undef, undef, undef, undef, undef, undef, undef, .bool false, .bool false])) (MonoL.at_ (eqs_mono _)) (by kernel_rfl) (by kernel_rfl) ⟨?_, ?_, ?_, ?_, ?_, ?_, ?_, ?_, ?_, ?_, ?_, ?_, ?_, ?_, ?_, ?_, ?_, trivial⟩ ?_
 ·intro a vs W hX hR he hf K hK
  refine wn rfl ?_
  have e0 : a.eval (.tmp 0) = .pointer none := hf 0 (by kernel_rfl)
  refine wV hK rfl ?_
  simp only [execOp, e0]
  try go_simp
 ·intro a vs W hX hR he hf K hK
  refine wn rfl ?_
  have e5 : a.eval (.tmp 5) = .pointer none := eH he hR 0 (by kernel_rfl) rfl
  refine wV hK rfl ?_
  simp only [execOp, e5]
  try go_simp
 ·intro a vs W hX hR he hf K hK
  refine wn rfl ?_
  have e6 : a.eval (.tmp 6) = .bool false := eH he hR 1 (by kernel_rfl) rfl
  refine wV hK rfl ?_
  simp only [execOp, e6]
  try go_simp
 ·intro a vs W hX hR he hf K hK
  have e7 : a.eval (.tmp 7) = .bool false := eH he hR 2 (by kernel_rfl) rfl
  exact gN e7 rfl rfl rfl (gK hK rfl)
 ·intro a vs W hX hR he hf K hK
  have e7 : a.eval (.tmp 7) = .bool false := eH he hR 2 (by kernel_rfl) rfl
  exact gN e7 rfl rfl rfl (gK hK rfl)
 ·intro a vs W hX hR he hf K hK
  have e7 : a.eval (.tmp 7) = .bool false := eH he hR 2 (by kernel_rfl) rfl
  exact gN e7 rfl rfl rfl (gK hK rfl)
 ·intro a vs W hX hR he hf K hK
  refine wn rfl ?_
  have e7 : a.eval (.tmp 7) = .bool false := eH he hR 2 (by kernel_rfl) rfl
  have e10 : a.eval (.tmp 10) = undef := eH he hR 5 (by kernel_rfl) rfl
  refine wV hK rfl ?_
  simp only [execOp, e7, e10]
  try go_simp
 ·intro a vs W hX hR he hf K hK
  refine wn rfl ?_
  have e11 : a.eval (.tmp 11) = .bool false := eH he hR 6 (by kernel_rfl) rfl
  refine wV hK rfl ?_
  simp only [execOp, e11]
  try go_simp
 ·intro a vs W hX hR he hf K hK
  have e12 : a.eval (.tmp 12) = .bool false := eH he hR 7 (by kernel_rfl) rfl
  exact gN e12 rfl rfl rfl (gK hK rfl)
 ·intro a vs W hX hR he hf K hK
  have e12 : a.eval (.tmp 12) = .bool false := eH he hR 7 (by kernel_rfl) rfl
  exact gN e12 rfl rfl rfl (gK hK rfl)
 ·intro a vs W hX hR he hf K hK
  have e12 : a.eval (.tmp 12) = .bool false := eH he hR 7 (by kernel_rfl) rfl
  exact gN e12 rfl rfl rfl (gK hK rfl)
 ·intro a vs W hX hR he hf K hK
  have e12 : a.eval (.tmp 12) = .bool false := eH he hR 7 (by kernel_rfl) rfl
  exact gN e12 rfl rfl rfl (gK hK rfl)
 ·intro a vs W hX hR he hf K hK
  have e12 : a.eval (.tmp 12) = .bool false := eH he hR 7 (by kernel_rfl) rfl
  exact gN e12 rfl rfl rfl (gK hK rfl)
 ·intro a vs W hX hR he hf K hK
  have e12 : a.eval (.tmp 12) = .bool false := eH he hR 7 (by kernel_rfl) rfl
  exact gN e12 rfl rfl rfl (gK hK rfl)
 ·intro a vs W hX hR he hf K hK
  have e12 : a.eval (.tmp 12) = .bool false := eH he hR 7 (by kernel_rfl) rfl
  exact gN e12 rfl rfl rfl (gK hK rfl)
 ·intro a vs W hX hR he hf K hK
  refine wn rfl ?_
  have e12 : a.eval (.tmp 12) = .bool false := eH he hR 7 (by kernel_rfl) rfl
  have e19 : a.eval (.tmp 19) = undef := eH he hR 14 (by kernel_rfl) rfl
  refine wV hK rfl ?_
  simp only [execOp, e12, e19]
  try go_simp
 ·intro a vs W hX hR he hf K hK
  refine wn rfl ?_
  have e20 : a.eval (.tmp 20) = .bool false := eH he hR 15 (by kernel_rfl) rfl
  refine wV hK rfl ?_
  simp only [execOp, e20]
  try go_simp
 intro vs wx hXx hR
 rw [put_eqs hR rfl]
 simp only [putL, Act.put, List.setIfInBounds_toArray, List.set_cons_zero, List.set_cons_succ]
 clear hR
 have hW := bthen HW.out (bthen (below_drew _) (grow_below hXx))
 clear hXx
 go_wp2_with fail
 go_ret
 exact ⟨rfl, hW⟩
set_option maxHeartbeats 4000000 in
theorem tright_any (w : World) (g : Nat) (t : Tb) (A Af : Option Addr) (c cf : Nat) (hT : Tab w g t A c Af cf) (p : Px) (hf : p.fit) :
  Calls Try.prog 54 #[.pointer (some ⟨g, 0, none⟩), .agg p.cells.toArray] w fun e w' => e = .returned (.bool (okT t.six p)) ∧ Below w.heap.size w w' := by
 have HF := Hh hf
 have HT := Hh hT.blk
 clear hf hT
 by_cases h1 : chkP p = 0
 ·have HC := Hh (show okT t.six p = (p.six == t.six) by unfold okT; rw [decide_eq_true h1]; rfl)
  go_enter Try.func54, Try.ntmps54
  go_upto_region 1 with (refine wpList_box_blk (by rfl) 30 (.tmp 1) rfl p.cells rfl ?_; intro w1 hb1 hB1 hs1; clear hs1)
  obtain ⟨g1, hg1⟩ : ∃ g, w.heap.size = g := ⟨_, rfl⟩
  rw [hg1] at hb1
  try rw [hg1]
  have HP := Hh hb1
  have HW := Hh hB1
  replace HT := Hh (HT.out.on hB1)
  clear hb1 hB1 hg1
  refine wp_region_rel (fun A B => A.grownBy B none) (fun A => grown_refl A _) (fun A B C h k => grown_trans h k) (relAt (eqs [.pointer (some ⟨g, 0, none⟩), .bool true, .bool true, .agg p.cells.toArray, .int .i64 (chkP p), .bool true, .bool true, .bool true, .pointer (some ⟨g1, 0, none⟩), .bool p.six, .pointer (some ⟨g, 0, none⟩), .pointer (some ⟨g, 0, none⟩), .pointer (some ⟨g, 0, none⟩), .bool t.six, .bool (p.six == t.six), .bool (p.six == t.six), .bool (p.six == t.six)])) (MonoL.at_ (eqs_mono _)) (by kernel_rfl) (by kernel_rfl) ⟨?_, ?_, ?_, ?_, ?_, ?_, ?_, ?_, ?_, ?_, ?_, ?_, ?_, ?_, ?_, ?_, ?_, trivial⟩ ?_
  ·intro a vs W hX hR he hf K hK
   refine wn rfl ?_
   have e0 : a.eval (.tmp 0) = .pointer (some ⟨g, 0, none⟩) := hf 0 (by kernel_rfl)
   refine wV hK rfl ?_
   simp only [execOp, e0]
   try go_simp
  ·intro a vs W hX hR he hf K hK
   refine wn rfl ?_
   have e5 : a.eval (.tmp 5) = .pointer (some ⟨g, 0, none⟩) := eH he hR 0 (by kernel_rfl) rfl
   refine wV hK rfl ?_
   simp only [execOp, e5]
   try go_simp
  ·intro a vs W hX hR he hf K hK
   refine wn rfl ?_
   have e6 : a.eval (.tmp 6) = .bool true := eH he hR 1 (by kernel_rfl) rfl
   refine wV hK rfl ?_
   simp only [execOp, e6]
   try go_simp
  ·intro a vs W hX hR he hf K hK
   have e7 : a.eval (.tmp 7) = .bool true := eH he hR 2 (by kernel_rfl) rfl
   refine gT e7 rfl rfl rfl ?_
   have e3 : a.eval (.tmp 3) = .pointer (some ⟨g1, 0, none⟩) := hf 3 (by kernel_rfl)
   have hbW := bthen (below_drew _) (grow_below hX)
   exact wp_value (exec_load 30 _ rfl g1 e3 30 p.cells _ (HP.out.on hbW) Try.underlying30 rfl (sizePx _ HF.out.addr)) (gK hK rfl)
  ·intro a vs W hX hR he hf K hK
   have e7 : a.eval (.tmp 7) = .bool true := eH he hR 2 (by kernel_rfl) rfl
   refine gT e7 rfl rfl rfl ?_
   have e8 : a.eval (.tmp 8) = .agg p.cells.toArray := eH he hR 3 (by kernel_rfl) rfl
   refine wp_enter (f := 36) (args := #[.agg p.cells.toArray]) (by simp only [execOp, e8]; go_simp; simpa [Act.eval] using e8) ((check_any p HF.out W).mono ?_)
   rintro e w' ⟨rfl, hb⟩
   exact ⟨_, rfl, hK _ _ rfl (below_grow hb _)⟩
  ·intro a vs W hX hR he hf K hK
   have e7 : a.eval (.tmp 7) = .bool true := eH he hR 2 (by kernel_rfl) rfl
   refine gT e7 rfl rfl rfl ?_
   have e9 : a.eval (.tmp 9) = .int .i64 (chkP p) := eH he hR 4 (by kernel_rfl) rfl
   refine wV hK rfl ?_
   simp only [execOp, e9]
   go_simp
  ·intro a vs W hX hR he hf K hK
   refine wn rfl ?_
   have e7 : a.eval (.tmp 7) = .bool true := eH he hR 2 (by kernel_rfl) rfl
   have e10 : a.eval (.tmp 10) = .bool true := eH he hR 5 (by kernel_rfl) rfl
   refine wV hK rfl ?_
   simp only [execOp, e7, e10]
   try go_simp
  ·intro a vs W hX hR he hf K hK
   refine wn rfl ?_
   have e11 : a.eval (.tmp 11) = .bool true := eH he hR 6 (by kernel_rfl) rfl
   refine wV hK rfl ?_
   simp only [execOp, e11]
   try go_simp
  ·intro a vs W hX hR he hf K hK
   have e12 : a.eval (.tmp 12) = .bool true := eH he hR 7 (by kernel_rfl) rfl
   refine gT e12 rfl rfl rfl ?_
   have e3 : a.eval (.tmp 3) = .pointer (some ⟨g1, 0, none⟩) := hf 3 (by kernel_rfl)
   refine wV hK rfl ?_
   simp only [execOp, e3]
   try go_simp
  ·intro a vs W hX hR he hf K hK
   have e12 : a.eval (.tmp 12) = .bool true := eH he hR 7 (by kernel_rfl) rfl
   refine gT e12 rfl rfl rfl ?_
   have e13 : a.eval (.tmp 13) = .pointer (some ⟨g1, 0, none⟩) := eH he hR 8 (by kernel_rfl) rfl
   have hbW := bthen (below_drew _) (grow_below hX)
   have hc : W.cell? ⟨g1, 0, none⟩ = some (.bool p.six) := ((HP.out.on hbW).cell 0).trans (rfl : p.cells[0]? = some (.bool p.six))
   refine wV hK rfl ?_
   simp only [execOp, e13]
   try go_simp
  ·intro a vs W hX hR he hf K hK
   have e12 : a.eval (.tmp 12) = .bool true := eH he hR 7 (by kernel_rfl) rfl
   refine gT e12 rfl rfl rfl ?_
   have e0 : a.eval (.tmp 0) = .pointer (some ⟨g, 0, none⟩) := hf 0 (by kernel_rfl)
   refine wV hK rfl ?_
   simp only [execOp, e0]
   try go_simp
  ·intro a vs W hX hR he hf K hK
   have e12 : a.eval (.tmp 12) = .bool true := eH he hR 7 (by kernel_rfl) rfl
   refine gT e12 rfl rfl rfl ?_
   have e15 : a.eval (.tmp 15) = .pointer (some ⟨g, 0, none⟩) := eH he hR 10 (by kernel_rfl) rfl
   refine wV hK rfl ?_
   simp only [execOp, e15]
   try go_simp
  ·intro a vs W hX hR he hf K hK
   have e12 : a.eval (.tmp 12) = .bool true := eH he hR 7 (by kernel_rfl) rfl
   refine gT e12 rfl rfl rfl ?_
   have e16 : a.eval (.tmp 16) = .pointer (some ⟨g, 0, none⟩) := eH he hR 11 (by kernel_rfl) rfl
   refine wV hK rfl ?_
   simp only [execOp, e16]
   try go_simp
  ·intro a vs W hX hR he hf K hK
   have e12 : a.eval (.tmp 12) = .bool true := eH he hR 7 (by kernel_rfl) rfl
   refine gT e12 rfl rfl rfl ?_
   have e17 : a.eval (.tmp 17) = .pointer (some ⟨g, 0, none⟩) := eH he hR 12 (by kernel_rfl) rfl
   have hbW := bthen (below_drew _) (grow_below hX)
   have hc : W.cell? ⟨g, 0, none⟩ = some (.bool t.six) := (HT.out.on hbW).cell 0
   refine wV hK rfl ?_
   simp only [execOp, e17]
   try go_simp
  ·intro a vs W hX hR he hf K hK
   have e12 : a.eval (.tmp 12) = .bool true := eH he hR 7 (by kernel_rfl) rfl
   refine gT e12 rfl rfl rfl ?_
   have e14 : a.eval (.tmp 14) = .bool p.six := eH he hR 9 (by kernel_rfl) rfl
   have e18 : a.eval (.tmp 18) = .bool t.six := eH he hR 13 (by kernel_rfl) rfl
   refine wV hK rfl ?_
   simp only [execOp, e14, e18]
   try go_simp
  ·intro a vs W hX hR he hf K hK
   refine wn rfl ?_
   have e12 : a.eval (.tmp 12) = .bool true := eH he hR 7 (by kernel_rfl) rfl
   have e19 : a.eval (.tmp 19) = .bool (p.six == t.six) := eH he hR 14 (by kernel_rfl) rfl
   refine wV hK rfl ?_
   simp only [execOp, e12, e19]
   try go_simp
  ·intro a vs W hX hR he hf K hK
   refine wn rfl ?_
   have e20 : a.eval (.tmp 20) = .bool (p.six == t.six) := eH he hR 15 (by kernel_rfl) rfl
   refine wV hK rfl ?_
   simp only [execOp, e20]
   try go_simp
  intro vs wx hXx hR
  rw [put_eqs hR rfl]
  simp only [putL, Act.put, List.setIfInBounds_toArray, List.set_cons_zero, List.set_cons_succ]
  clear hR
  have hW := bthen HW.out (bthen (below_drew _) (grow_below hXx))
  clear hXx h1
  go_wp2_with fail
  go_ret
  exact ⟨by rw [HC.out]; rfl, hW⟩
 have HC := Hh (show okT t.six p = false by unfold okT; rw [decide_eq_false h1]; rfl)
 go_enter Try.func54, Try.ntmps54
 go_upto_region 1 with (refine wpList_box_blk (by rfl) 30 (.tmp 1) rfl p.cells rfl ?_; intro w1 hb1 hB1 hs1; clear hs1)
 obtain ⟨g1, hg1⟩ : ∃ g, w.heap.size = g := ⟨_, rfl⟩
 rw [hg1] at hb1
 try rw [hg1]
 have HP := Hh hb1
 have HW := Hh hB1
 replace HT := Hh (HT.out.on hB1)
 clear hb1 hB1 hg1
 refine wp_region_rel (fun A B => A.grownBy B none) (fun A => grown_refl A _) (fun A B C h k => grown_trans h k) (relAt (eqs [.pointer (some ⟨g, 0, none⟩), .bool true, .bool true, .agg p.cells.toArray, .int .i64 (chkP p), .bool false, .bool false, .bool false, undef, undef, undef, undef, undef, undef, undef, .bool false, .bool false])) (MonoL.at_ (eqs_mono _)) (by kernel_rfl) (by kernel_rfl) ⟨?_, ?_, ?_, ?_, ?_, ?_, ?_, ?_, ?_, ?_, ?_, ?_, ?_, ?_, ?_, ?_, ?_, trivial⟩ ?_
 ·intro a vs W hX hR he hf K hK
  refine wn rfl ?_
  have e0 : a.eval (.tmp 0) = .pointer (some ⟨g, 0, none⟩) := hf 0 (by kernel_rfl)
  refine wV hK rfl ?_
  simp only [execOp, e0]
  try go_simp
 ·intro a vs W hX hR he hf K hK
  refine wn rfl ?_
  have e5 : a.eval (.tmp 5) = .pointer (some ⟨g, 0, none⟩) := eH he hR 0 (by kernel_rfl) rfl
  refine wV hK rfl ?_
  simp only [execOp, e5]
  try go_simp
 ·intro a vs W hX hR he hf K hK
  refine wn rfl ?_
  have e6 : a.eval (.tmp 6) = .bool true := eH he hR 1 (by kernel_rfl) rfl
  refine wV hK rfl ?_
  simp only [execOp, e6]
  try go_simp
 ·intro a vs W hX hR he hf K hK
  have e7 : a.eval (.tmp 7) = .bool true := eH he hR 2 (by kernel_rfl) rfl
  refine gT e7 rfl rfl rfl ?_
  have e3 : a.eval (.tmp 3) = .pointer (some ⟨g1, 0, none⟩) := hf 3 (by kernel_rfl)
  have hbW := bthen (below_drew _) (grow_below hX)
  exact wp_value (exec_load 30 _ rfl g1 e3 30 p.cells _ (HP.out.on hbW) Try.underlying30 rfl (sizePx _ HF.out.addr)) (gK hK rfl)
 ·intro a vs W hX hR he hf K hK
  have e7 : a.eval (.tmp 7) = .bool true := eH he hR 2 (by kernel_rfl) rfl
  refine gT e7 rfl rfl rfl ?_
  have e8 : a.eval (.tmp 8) = .agg p.cells.toArray := eH he hR 3 (by kernel_rfl) rfl
  refine wp_enter (f := 36) (args := #[.agg p.cells.toArray]) (by simp only [execOp, e8]; go_simp; simpa [Act.eval] using e8) ((check_any p HF.out W).mono ?_)
  rintro e w' ⟨rfl, hb⟩
  exact ⟨_, rfl, hK _ _ rfl (below_grow hb _)⟩
 ·intro a vs W hX hR he hf K hK
  have e7 : a.eval (.tmp 7) = .bool true := eH he hR 2 (by kernel_rfl) rfl
  refine gT e7 rfl rfl rfl ?_
  have e9 : a.eval (.tmp 9) = .int .i64 (chkP p) := eH he hR 4 (by kernel_rfl) rfl
  refine wV hK rfl ?_
  simp only [execOp, e9]
  go_simp
 ·intro a vs W hX hR he hf K hK
  refine wn rfl ?_
  have e7 : a.eval (.tmp 7) = .bool true := eH he hR 2 (by kernel_rfl) rfl
  have e10 : a.eval (.tmp 10) = .bool false := eH he hR 5 (by kernel_rfl) rfl
  refine wV hK rfl ?_
  simp only [execOp, e7, e10]
  try go_simp
 ·intro a vs W hX hR he hf K hK
  refine wn rfl ?_
  have e11 : a.eval (.tmp 11) = .bool false := eH he hR 6 (by kernel_rfl) rfl
  refine wV hK rfl ?_
  simp only [execOp, e11]
  try go_simp
 ·intro a vs W hX hR he hf K hK
  have e12 : a.eval (.tmp 12) = .bool false := eH he hR 7 (by kernel_rfl) rfl
  exact gN e12 rfl rfl rfl (gK hK rfl)
 ·intro a vs W hX hR he hf K hK
  have e12 : a.eval (.tmp 12) = .bool false := eH he hR 7 (by kernel_rfl) rfl
  exact gN e12 rfl rfl rfl (gK hK rfl)
 ·intro a vs W hX hR he hf K hK
  have e12 : a.eval (.tmp 12) = .bool false := eH he hR 7 (by kernel_rfl) rfl
  exact gN e12 rfl rfl rfl (gK hK rfl)
 ·intro a vs W hX hR he hf K hK
  have e12 : a.eval (.tmp 12) = .bool false := eH he hR 7 (by kernel_rfl) rfl
  exact gN e12 rfl rfl rfl (gK hK rfl)
 ·intro a vs W hX hR he hf K hK
  have e12 : a.eval (.tmp 12) = .bool false := eH he hR 7 (by kernel_rfl) rfl
  exact gN e12 rfl rfl rfl (gK hK rfl)
 ·intro a vs W hX hR he hf K hK
  have e12 : a.eval (.tmp 12) = .bool false := eH he hR 7 (by kernel_rfl) rfl
  exact gN e12 rfl rfl rfl (gK hK rfl)
 ·intro a vs W hX hR he hf K hK
  have e12 : a.eval (.tmp 12) = .bool false := eH he hR 7 (by kernel_rfl) rfl
  exact gN e12 rfl rfl rfl (gK hK rfl)
 ·intro a vs W hX hR he hf K hK
  refine wn rfl ?_
  have e12 : a.eval (.tmp 12) = .bool false := eH he hR 7 (by kernel_rfl) rfl
  have e19 : a.eval (.tmp 19) = undef := eH he hR 14 (by kernel_rfl) rfl
  refine wV hK rfl ?_
  simp only [execOp, e12, e19]
  try go_simp
 ·intro a vs W hX hR he hf K hK
  refine wn rfl ?_
  have e20 : a.eval (.tmp 20) = .bool false := eH he hR 15 (by kernel_rfl) rfl
  refine wV hK rfl ?_
  simp only [execOp, e20]
  try go_simp
 intro vs wx hXx hR
 rw [put_eqs hR rfl]
 simp only [putL, Act.put, List.setIfInBounds_toArray, List.set_cons_zero, List.set_cons_succ]
 clear hR
 have hW := bthen HW.out (bthen (below_drew _) (grow_below hXx))
 clear hXx h1
 go_wp2_with fail
 go_ret
 exact ⟨by rw [HC.out]; rfl, hW⟩
/-- a bit as a number -/
def bitN (a : List UInt8) (i : Int) : Nat := (bitI a i).toNat
theorem bitN_lt (a : List UInt8) (i : Int) : bitN a i < 2 := by
 unfold bitN bitI
 split
 ·split <;> decide
 decide
theorem bitI_N (a : List UInt8) (i : Int) : bitI a i = ((bitN a i : Nat) : Int) := by
 unfold bitN bitI
 split
 ·split <;> rfl
 rfl
set_option maxHeartbeats 4000000 in
theorem tside_any (w : World) (g : Nat) (t : Tb) (A Af : Option Addr) (c cf : Nat) (hT : Tab w g t A c Af cf) (k : Nat) (x : Nd) (hx : t.N[k]? = some x) (p : Px) (hf : p.fit) :
  Calls Try.prog 72 #[.pointer (some ⟨g, 0, none⟩), .int .i64 (k : Int), .agg p.cells.toArray] w fun e w' => e = .returned (.int .i64 ((bitN p.addr x.p.len : Nat) : Int)) ∧ Below w.heap.size w w' := by
 have HF := Hh hf
 have HXF := Hh (hT.fit x (List.mem_of_getElem? hx))
 obtain ⟨bA, rfl, _, hba, hne, hr, _, hk1, _⟩ := hT.node hx
 have HT := Hh hT
 have HXR := Hh hr
 have HBA := Hh hba
 have hlt : (k : Int) < (t.N.length : Int) := by omega
 clear hf hT hr hba hne hx
 go_enter Try.func72, Try.ntmps72
 go_upto_region 1 with (refine wpList_box_blk (by rfl) 30 (.tmp 2) rfl p.cells rfl ?_; intro w1 hb1 hB1 hs1; clear hs1)
 obtain ⟨g1, hg1⟩ : ∃ g, w.heap.size = g := ⟨_, rfl⟩
 rw [hg1] at hb1
 try rw [hg1]
 have HP := Hh hb1
 have HW := Hh hB1
 replace HT := Hh (HT.out.on hB1)
 replace HXR := Hh (range_below hB1 HBA.out HXR.out)
 replace HBA := Hh (Nat.lt_of_lt_of_le HBA.out hB1.size)
 clear hb1 hB1 hg1
 refine wp_region_rel (fun A B => A.grownBy B none) (fun A => grown_refl A _) (fun A B C h k => grown_trans h k) (relAt (eqs [.pointer (some ⟨g1, 1, none⟩), .agg (bv p.addr).toArray, .pointer (some ⟨g, 0, none⟩), .pointer (some ⟨g, 0, none⟩), .pointer (some ⟨g, 3, none⟩), .slice (some ⟨bA, 0, none⟩) t.N.length c, .int .i64 (k : Int), .pointer (some ⟨bA, k * 22, none⟩), .pointer (some ⟨bA, k * 22, none⟩), .pointer (some ⟨bA, k * 22 + 17, none⟩), .int .i64 x.p.len, .int .i64 ((bitN p.addr x.p.len : Nat) : Int), .int .i64 ((bitN p.addr x.p.len : Nat) : Int)])) (MonoL.at_ (eqs_mono _)) (by kernel_rfl) (by kernel_rfl) ⟨?_, ?_, ?_, ?_, ?_, ?_, ?_, ?_, ?_, ?_, ?_, ?_, ?_, trivial⟩ ?_
 ·intro a vs W hX hR he hf K hK
  refine wn rfl ?_
  have e5 : a.eval (.tmp 5) = .pointer (some ⟨g1, 0, none⟩) := hf 5 (by kernel_rfl)
  refine wV hK rfl ?_
  simp only [execOp, e5]
  try go_simp
 ·intro a vs W hX hR he hf K hK
  refine wn rfl ?_
  have e7 : a.eval (.tmp 7) = .pointer (some ⟨g1, 1, none⟩) := eH he hR 0 (by kernel_rfl) rfl
  have hbW := bthen (below_drew _) (grow_below hX)
  have hr := (HP.out.on hbW).range 1 16
  rw [p.drop_addr HF.out.addr] at hr
  exact wp_value (exec_load_mid 23 _ rfl g1 1 e7 _ _ hr Try.underlying23 rfl (size16 _ HF.out.addr)) (gK hK rfl)
 ·intro a vs W hX hR he hf K hK
  refine wn rfl ?_
  have e0 : a.eval (.tmp 0) = .pointer (some ⟨g, 0, none⟩) := hf 0 (by kernel_rfl)
  refine wV hK rfl ?_
  simp only [execOp, e0]
  try go_simp
 ·intro a vs W hX hR he hf K hK
  refine wn rfl ?_
  have e9 : a.eval (.tmp 9) = .pointer (some ⟨g, 0, none⟩) := eH he hR 2 (by kernel_rfl) rfl
  refine wV hK rfl ?_
  simp only [execOp, e9]
  try go_simp
 ·intro a vs W hX hR he hf K hK
  refine wn rfl ?_
  have e10 : a.eval (.tmp 10) = .pointer (some ⟨g, 0, none⟩) := eH he hR 3 (by kernel_rfl) rfl
  refine wV hK rfl ?_
  simp only [execOp, e10]
  try go_simp
 ·intro a vs W hX hR he hf K hK
  refine wn rfl ?_
  have e11 : a.eval (.tmp 11) = .pointer (some ⟨g, 3, none⟩) := eH he hR 4 (by kernel_rfl) rfl
  have hbW := bthen (below_drew _) (grow_below hX)
  have hc : W.cell? ⟨g, 3, none⟩ = some (.slice (some ⟨bA, 0, none⟩) t.N.length c) := (HT.out.blk.on hbW).cell 3
  refine wV hK rfl ?_
  simp only [execOp, e11]
  try go_simp
 ·intro a vs W hX hR he hf K hK
  refine wn rfl ?_
  have e1 : a.eval (.tmp 1) = .int .i64 (k : Int) := hf 1 (by kernel_rfl)
  refine wV hK rfl ?_
  simp only [execOp, e1]
  try go_simp
 ·intro a vs W hX hR he hf K hK
  refine wn rfl ?_
  have e12 : a.eval (.tmp 12) = .slice (some ⟨bA, 0, none⟩) t.N.length c := eH he hR 5 (by kernel_rfl) rfl
  have e13 : a.eval (.tmp 13) = .int .i64 (k : Int) := eH he hR 6 (by kernel_rfl) rfl
  refine wV hK rfl ?_
  simp only [execOp, e12, e13]
  go_simp
 ·intro a vs W hX hR he hf K hK
  refine wn rfl ?_
  have e14 : a.eval (.tmp 14) = .pointer (some ⟨bA, k * 22, none⟩) := eH he hR 7 (by kernel_rfl) rfl
  refine wV hK rfl ?_
  simp only [execOp, e14]
  try go_simp
 ·intro a vs W hX hR he hf K hK
  refine wn rfl ?_
  have e15 : a.eval (.tmp 15) = .pointer (some ⟨bA, k * 22, none⟩) := eH he hR 8 (by kernel_rfl) rfl
  refine wV hK rfl ?_
  simp only [execOp, e15]
  try go_simp
 ·intro a vs W hX hR he hf K hK
  refine wn rfl ?_
  have e16 : a.eval (.tmp 16) = .pointer (some ⟨bA, k * 22 + 17, none⟩) := eH he hR 9 (by kernel_rfl) rfl
  have hbW := bthen (below_drew _) (grow_below hX)
  have hc : W.cell? ⟨bA, k * 22 + 17, none⟩ = some (.int .i64 x.p.len) := range_below hbW HBA.out HXR.out 17 _ (x.get_len HXF.out.addr)
  refine wV hK rfl ?_
  simp only [execOp, e16]
  try go_simp
 ·intro a vs W hX hR he hf K hK
  refine wn rfl ?_
  have e8 : a.eval (.tmp 8) = .agg (bv p.addr).toArray := eH he hR 1 (by kernel_rfl) rfl
  have e17 : a.eval (.tmp 17) = .int .i64 x.p.len := eH he hR 10 (by kernel_rfl) rfl
  refine wp_enter (f := 57) (args := #[.agg (bv p.addr).toArray, .int .i64 x.p.len]) (by simp only [execOp, e8, e17]; go_simp; exact ⟨by simpa [Act.eval] using e8, by simpa [Act.eval] using e17⟩) ((bit_any p.addr HF.out.addr x.p.len HXF.out.len.1 HXF.out.len.2 W).mono ?_)
  rintro e w' ⟨rfl, hb⟩
  rw [bitI_N]
  exact ⟨_, rfl, hK _ _ rfl (below_grow hb _)⟩
 ·intro a vs W hX hR he hf K hK
  refine wn rfl ?_
  have e18 : a.eval (.tmp 18) = .int .i64 ((bitN p.addr x.p.len : Nat) : Int) := eH he hR 11 (by kernel_rfl) rfl
  refine wV hK rfl ?_
  simp only [execOp, e18]
  try go_simp
 intro vs wx hXx hR
 rw [put_eqs hR rfl]
 simp only [putL, Act.put, List.setIfInBounds_toArray, List.set_cons_zero, List.set_cons_succ]
 clear hR
 have hW := bthen HW.out (bthen (below_drew _) (grow_below hXx))
 clear hXx
 go_wp2_with fail
 go_ret
 exact ⟨rfl, hW⟩
end Go.Proofs.Ytdmgomknamdcfaa


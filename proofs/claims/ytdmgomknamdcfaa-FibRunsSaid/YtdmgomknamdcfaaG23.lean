/- Texts of this claim put together, in build order: each one's own remark stands ahead of it. -/
import Derived.Test.YtdmgomknamdcfaaG02
import Derived.Test.YtdmgomknamdcfaaG10
/- What the reference's right (layer 9) computes. No condition but sizes. -/
namespace Go.Proofs.Ytdmgomknamdcfaa
open Go.RowKit
set_option linter.unusedVariables false
set_option maxRecDepth 20000
set_option linter.unusedSimpArgs false

/-- the reference's table as a value -/
def tC (is six : Bool) (room : Int) (row : Value) : List Value := [.bool is, .bool six, .int .i64 room, row]
def okR (is six : Bool) (p : Px) : Bool := is && (decide (chkP p = 0) && decide (p.six = six))
set_option maxHeartbeats 4000000 in
theorem rright_any (is six : Bool) (room : Int) (row : Value) (p : Px) (hf : p.fit) (w : World) :
  Calls Try.prog 68 #[.agg (tC is six room row).toArray, .agg p.cells.toArray] w fun e w' => e = .returned (.bool (okR is six p)) ∧ Below w.heap.size w w' := by
 have HF := Hh hf
 clear hf
 cases is
 ·have HC := Hh (show okR false six p = false from rfl)
  go_enter Try.func68, Try.ntmps68
  go_upto_region 1 with (first
   | (refine wpList_box_blk (by rfl) 50 (.tmp 0) rfl (tC false six room row) rfl ?_; intro w1 hb1 hB1 hs1; clear hs1)
   | (refine wpList_box_blk (by rfl) 30 (.tmp 1) rfl p.cells rfl ?_; intro w2 hb2 hB2 hs2; clear hs2))
  obtain ⟨g0, hg0⟩ : ∃ g, w.heap.size = g := ⟨_, rfl⟩
  obtain ⟨g1, hg1⟩ : ∃ g, w1.heap.size = g := ⟨_, rfl⟩
  have hk0 := hb1.on hB2
  rw [hg0] at hk0
  rw [hg1] at hb2
  try rw [hg0]
  try rw [hg1]
  have HT := Hh hk0
  have HP := Hh hb2
  have HW := Hh (bthen hB1 hB2)
  clear hb1 hB1 hb2 hB2 hk0 hg0 hg1
  have c0 : w2.cell? ⟨g0, 0, none⟩ = some (.bool false) := HT.out.cell 0
  clear HT HP
  go_wp2_with fail
  go_ret
  exact ⟨by rw [HC.out]; rfl, HW.out⟩
 by_cases h1 : chkP p = 0
 ·by_cases h2 : p.six = six
  ·have HC := Hh (show okR true six p = true by unfold okR; rw [decide_eq_true h1, decide_eq_true h2]; rfl)
   go_enter Try.func68, Try.ntmps68
   go_upto_region 1 with (first
    | (refine wpList_box_blk (by rfl) 50 (.tmp 0) rfl (tC true six room row) rfl ?_; intro w1 hb1 hB1 hs1; clear hs1)
    | (refine wpList_box_blk (by rfl) 30 (.tmp 1) rfl p.cells rfl ?_; intro w2 hb2 hB2 hs2; clear hs2))
   obtain ⟨g0, hg0⟩ : ∃ g, w.heap.size = g := ⟨_, rfl⟩
   obtain ⟨g1, hg1⟩ : ∃ g, w1.heap.size = g := ⟨_, rfl⟩
   have hk0 := hb1.on hB2
   rw [hg0] at hk0
   rw [hg1] at hb2
   try rw [hg0]
   try rw [hg1]
   have HT := Hh hk0
   have HP := Hh hb2
   have HW := Hh (bthen hB1 hB2)
   clear hb1 hB1 hb2 hB2 hk0 hg0 hg1
   have c0 : w2.cell? ⟨g0, 0, none⟩ = some (.bool true) := HT.out.cell 0
   go_wp2_with (refine wpList_value (by rfl) (exec_load 30 _ rfl g1 (by rfl) 30 p.cells _ HP.out Try.underlying30 rfl (sizePx _ HF.out.addr)) ?_)
   refine (rcheck_any p HF.out w2).mono ?_
   rintro e w5 ⟨rfl, hb⟩
   replace HW := Hh (bthen HW.out hb)
   clear c0
   have c0 : w5.cell? ⟨g1, 0, none⟩ = some (.bool p.six) := (HP.out.on hb).cell 0
   have c1 : w5.cell? ⟨g0, 1, none⟩ = some (.bool six) := (HT.out.on hb).cell 1
   clear hb HT HP
   rw [h1]
   rw [h2] at c0
   go_wp2_with fail
   go_ret
   exact ⟨by rw [HC.out]; rfl, HW.out⟩
  have HC := Hh (show okR true six p = false by unfold okR; rw [decide_eq_false h2, Bool.and_false, Bool.and_false])
  go_enter Try.func68, Try.ntmps68
  go_upto_region 1 with (first
   | (refine wpList_box_blk (by rfl) 50 (.tmp 0) rfl (tC true six room row) rfl ?_; intro w1 hb1 hB1 hs1; clear hs1)
   | (refine wpList_box_blk (by rfl) 30 (.tmp 1) rfl p.cells rfl ?_; intro w2 hb2 hB2 hs2; clear hs2))
  obtain ⟨g0, hg0⟩ : ∃ g, w.heap.size = g := ⟨_, rfl⟩
  obtain ⟨g1, hg1⟩ : ∃ g, w1.heap.size = g := ⟨_, rfl⟩
  have hk0 := hb1.on hB2
  rw [hg0] at hk0
  rw [hg1] at hb2
  try rw [hg0]
  try rw [hg1]
  have HT := Hh hk0
  have HP := Hh hb2
  have HW := Hh (bthen hB1 hB2)
  clear hb1 hB1 hb2 hB2 hk0 hg0 hg1
  have c0 : w2.cell? ⟨g0, 0, none⟩ = some (.bool true) := HT.out.cell 0
  go_wp2_with (refine wpList_value (by rfl) (exec_load 30 _ rfl g1 (by rfl) 30 p.cells _ HP.out Try.underlying30 rfl (sizePx _ HF.out.addr)) ?_)
  refine (rcheck_any p HF.out w2).mono ?_
  rintro e w5 ⟨rfl, hb⟩
  replace HW := Hh (bthen HW.out hb)
  clear c0
  have c0 : w5.cell? ⟨g1, 0, none⟩ = some (.bool p.six) := (HP.out.on hb).cell 0
  have c1 : w5.cell? ⟨g0, 1, none⟩ = some (.bool six) := (HT.out.on hb).cell 1
  clear hb HT HP
  rw [h1]
  rw [show (Value.bool p.six) = .bool (!six) by congr 1; cases six <;> cases hq : p.six <;> simp_all] at c0
  cases six
  ·go_wp2_with fail
   go_ret
   exact ⟨by rw [HC.out]; rfl, HW.out⟩
  go_wp2_with fail
  go_ret
  exact ⟨by rw [HC.out]; rfl, HW.out⟩
 have HC := Hh (show okR true six p = false by unfold okR; rw [decide_eq_false h1]; rfl)
 go_enter Try.func68, Try.ntmps68
 go_upto_region 1 with (first
  | (refine wpList_box_blk (by rfl) 50 (.tmp 0) rfl (tC true six room row) rfl ?_; intro w1 hb1 hB1 hs1; clear hs1)
  | (refine wpList_box_blk (by rfl) 30 (.tmp 1) rfl p.cells rfl ?_; intro w2 hb2 hB2 hs2; clear hs2))
 obtain ⟨g0, hg0⟩ : ∃ g, w.heap.size = g := ⟨_, rfl⟩
 obtain ⟨g1, hg1⟩ : ∃ g, w1.heap.size = g := ⟨_, rfl⟩
 have hk0 := hb1.on hB2
 rw [hg0] at hk0
 rw [hg1] at hb2
 try rw [hg0]
 try rw [hg1]
 have HT := Hh hk0
 have HP := Hh hb2
 have HW := Hh (bthen hB1 hB2)
 clear hb1 hB1 hb2 hB2 hk0 hg0 hg1
 have c0 : w2.cell? ⟨g0, 0, none⟩ = some (.bool true) := HT.out.cell 0
 go_wp2_with (refine wpList_value (by rfl) (exec_load 30 _ rfl g1 (by rfl) 30 p.cells _ HP.out Try.underlying30 rfl (sizePx _ HF.out.addr)) ?_)
 refine (rcheck_any p HF.out w2).mono ?_
 rintro e w5 ⟨rfl, hb⟩
 replace HW := Hh (bthen HW.out hb)
 clear c0
 have c0 : w5.cell? ⟨g1, 0, none⟩ = some (.bool p.six) := (HP.out.on hb).cell 0
 have c1 : w5.cell? ⟨g0, 1, none⟩ = some (.bool six) := (HT.out.on hb).cell 1
 clear hb HT HP
 clear c0 c1
 go_wp2_with fail
 go_ret
 exact ⟨by rw [HC.out]; rfl, HW.out⟩
end Go.Proofs.Ytdmgomknamdcfaa


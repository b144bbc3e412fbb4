/- A table that is none does nothing (LpmNone). No condition but sizes. -/
import Derived.Test.YtbemhcihmlijaaaG30
import Derived.Deep.DeepCutAuto
namespace Go.Proofs.Ytbemhcihmlijaaa
open Go.RowKit
set_option linter.unusedVariables false
set_option maxRecDepth 20000
set_option linter.unusedSimpArgs false

set_option maxHeartbeats 4000000 in
theorem walk_LpmNone (w : World) (p : Px) (hf : p.fit) (vl : Int) (hv : -9223372036854775808 ≤ vl ∧ vl ≤ 9223372036854775807) :
    Calls Try.prog 7 #[.agg p.cells.toArray, .int .i64 vl] w fun e w' => e = .returned (.bool true) ∧ Below w.heap.size w w' := by
  have HF := Lib.hid hf
  clear hf hv
  go_enter Try.func7, Try.ntmps7
  go_upto_region 1 with (refine wpList_box_blk (by rfl) 30 (.tmp 0) rfl p.cells rfl ?_; intro w1 hb1 hB1 hs1; clear hs1)
  obtain ⟨g2, hg2⟩ : ∃ g, w.heap.size = g := ⟨_, rfl⟩
  rw [hg2] at hb1
  try rw [hg2]
  have HP1 := Lib.hid hb1
  have HW1 := Lib.hid hB1
  clear hb1 hB1 hg2
  go_wp2_with fail
  refine (awake_any w1).mono ?_
  rintro e w2 ⟨rfl, hb⟩
  have HP2 := Lib.hid (HP1.out.on hb)
  have HW2 := Lib.hid (bthen HW1.out hb)
  clear hb
  have hra := HP2.out.range 1 16
  rw [p.drop_addr HF.out.addr] at hra
  have HRA := Lib.hid hra
  clear hra
  go_wp2_with (refine wpList_value (by rfl) (exec_load 30 _ rfl g2 (by rfl) 30 p.cells _ HP2.out Try.underlying30 rfl (sizePx _ HF.out.addr)) ?_)
  refine (tget_nil p HF.out w2).mono ?_
  rintro e w3 ⟨rfl, hb⟩
  have HP3 := Lib.hid (HP2.out.on hb)
  have HW3 := Lib.hid (bthen HW2.out hb)
  have HRA3 := Lib.hid (range_below hb HP2.out.lt HRA.out)
  clear hb
  go_wp2_with (refine wpList_value (by rfl) (exec_load_mid 28 _ rfl g2 1 (by rfl) (bv p.addr) _ HRA3.out Try.underlying28 rfl (size16 _ HF.out.addr)) ?_)
  refine (tlook_nil p.addr HF.out.addr w3).mono ?_
  rintro e w4 ⟨rfl, hb⟩
  have HP4 := Lib.hid (HP3.out.on hb)
  have HW4 := Lib.hid (bthen HW3.out hb)
  clear hb
  go_upto_region 7 with (first
    | (refine wpList_alloc_blk (by rfl) 38 rfl (itC (Px.zero, 0)) zeroIt ?_; intro wa hba hBa hsa)
    | (refine wpList_store_all (by rfl) 38 _ _ rfl w4.heap.size (itC (Px.zero, 0)) rfl rfl 38 _ hba (sizeIt _ rfl) rfl (oneIt _) ?_; intro w5 hb9 hg9 hs9))
  have hbb := (bgrown hBa hg9 hBa.size (Nat.le_refl _))
  have HP := Lib.hid (HP4.out.on hbb)
  have HW := Lib.hid (bthen HW4.out hbb)
  obtain ⟨g9, hg9'⟩ : ∃ g, w4.heap.size = g := ⟨_, rfl⟩
  try rw [hg9']
  clear hba hBa hsa hb9 hg9 hs9 hbb hg9'
  apply wp_region_lit
  refine wpList_value (v := .pointer none) (w' := w5) (by rfl) (by simp only [execOp]; go_simp) ?_
  simp only [Act.put, List.setIfInBounds_toArray, List.set_cons_zero, List.set_cons_succ]
  refine wpList_value (by rfl) (exec_load 30 _ rfl g2 (by rfl) 30 p.cells _ HP.out Try.underlying30 rfl (sizePx _ HF.out.addr)) ?_
  simp only [Act.put, List.setIfInBounds_toArray, List.set_cons_zero, List.set_cons_succ]
  refine wpList_value (v := .int .i64 vl) (w' := w5) (by rfl) (by simp only [execOp]; go_simp) ?_
  simp only [Act.put, List.setIfInBounds_toArray, List.set_cons_zero, List.set_cons_succ]
  have hcl := tput_nil p HF.out vl w5
  try simp only [ptV] at hcl
  refine wpList_callW (by rfl) (f := 11) (args := #[.pointer none, .agg p.cells.toArray, .int .i64 vl]) (by simp only [execOp]; go_simp) hcl ?_
  clear hcl
  rintro e w6 ⟨rfl, hb⟩
  refine ⟨_, rfl, ?_⟩
  replace HP := Lib.hid (HP.out.on hb)
  replace HW := Lib.hid (bthen HW.out hb)
  clear hb
  simp only [Act.put, List.setIfInBounds_toArray, List.set_cons_zero, List.set_cons_succ]
  refine wpList_value (v := .bool true) (w' := w6) (by rfl) (by simp only [execOp]; go_simp) ?_
  simp only [Act.put, List.setIfInBounds_toArray, List.set_cons_zero, List.set_cons_succ]
  refine wpList_value (v := .bool true) (w' := w6) (by rfl) (by simp only [execOp]; go_simp) ?_
  simp only [Act.put, List.setIfInBounds_toArray, List.set_cons_zero, List.set_cons_succ]
  refine wpList_value (v := .pointer none) (w' := w6) (by rfl) (by simp only [execOp]; go_simp) ?_
  simp only [Act.put, List.setIfInBounds_toArray, List.set_cons_zero, List.set_cons_succ]
  refine wpList_value (by rfl) (exec_load 30 _ rfl g2 (by rfl) 30 p.cells _ HP.out Try.underlying30 rfl (sizePx _ HF.out.addr)) ?_
  simp only [Act.put, List.setIfInBounds_toArray, List.set_cons_zero, List.set_cons_succ]
  have hcl := tdelete_nil p HF.out w6
  try simp only [ptV] at hcl
  refine wpList_callW (by rfl) (f := 17) (args := #[.pointer none, .agg p.cells.toArray]) (by simp only [execOp]; go_simp) hcl ?_
  clear hcl
  rintro e w7 ⟨rfl, hb⟩
  refine ⟨_, rfl, ?_⟩
  replace HP := Lib.hid (HP.out.on hb)
  replace HW := Lib.hid (bthen HW.out hb)
  clear hb
  simp only [Act.put, List.setIfInBounds_toArray, List.set_cons_zero, List.set_cons_succ]
  refine wpList_value (v := .bool true) (w' := w7) (by rfl) (by simp only [execOp]; go_simp) ?_
  simp only [Act.put, List.setIfInBounds_toArray, List.set_cons_zero, List.set_cons_succ]
  refine wpList_value (v := .bool true) (w' := w7) (by rfl) (by simp only [execOp]; go_simp) ?_
  simp only [Act.put, List.setIfInBounds_toArray, List.set_cons_zero, List.set_cons_succ]
  refine wpList_value (v := .bool true) (w' := w7) (by rfl) (by simp only [execOp]; go_simp) ?_
  simp only [Act.put, List.setIfInBounds_toArray, List.set_cons_zero, List.set_cons_succ]
  refine wpList_value (v := .bool false) (w' := w7) (by rfl) (by simp only [execOp]; go_simp) ?_
  simp only [Act.put, List.setIfInBounds_toArray, List.set_cons_zero, List.set_cons_succ]
  refine wpList_value (v := .bool true) (w' := w7) (by rfl) (by simp only [execOp]; go_simp) ?_
  simp only [Act.put, List.setIfInBounds_toArray, List.set_cons_zero, List.set_cons_succ]
  refine wpList_value (v := .bool true) (w' := w7) (by rfl) (by simp only [execOp]; go_simp) ?_
  simp only [Act.put, List.setIfInBounds_toArray, List.set_cons_zero, List.set_cons_succ]
  refine wpList_value (v := .bool true) (w' := w7) (by rfl) (by simp only [execOp]; go_simp) ?_
  simp only [Act.put, List.setIfInBounds_toArray, List.set_cons_zero, List.set_cons_succ]
  refine wpList_value (v := .bool false) (w' := w7) (by rfl) (by simp only [execOp]; go_simp) ?_
  simp only [Act.put, List.setIfInBounds_toArray, List.set_cons_zero, List.set_cons_succ]
  refine wpList_value (v := .bool true) (w' := w7) (by rfl) (by simp only [execOp]; go_simp) ?_
  simp only [Act.put, List.setIfInBounds_toArray, List.set_cons_zero, List.set_cons_succ]
  refine wpList_value (v := .bool true) (w' := w7) (by rfl) (by simp only [execOp]; go_simp) ?_
  simp only [Act.put, List.setIfInBounds_toArray, List.set_cons_zero, List.set_cons_succ]
  refine wpList_value (v := .bool true) (w' := w7) (by rfl) (by simp only [execOp]; go_simp) ?_
  simp only [Act.put, List.setIfInBounds_toArray, List.set_cons_zero, List.set_cons_succ]
  refine wpList_value (v := .pointer none) (w' := w7) (by rfl) (by simp only [execOp]; go_simp) ?_
  simp only [Act.put, List.setIfInBounds_toArray, List.set_cons_zero, List.set_cons_succ]
  have hcl := tall_nil w7
  try simp only [ptV] at hcl
  refine wpList_callW (by rfl) (f := 12) (args := #[.pointer none]) (by simp only [execOp]; go_simp) hcl ?_
  clear hcl
  rintro e w8 ⟨rfl, rfl⟩
  refine ⟨_, rfl, ?_⟩
  simp only [Act.put, List.setIfInBounds_toArray, List.set_cons_zero, List.set_cons_succ]
  refine wpList_value (v := .int .i64 0) (w' := w7) (by rfl) (by simp only [execOp]; go_simp) ?_
  simp only [Act.put, List.setIfInBounds_toArray, List.set_cons_zero, List.set_cons_succ]
  refine wpList_value (v := .bool true) (w' := w7) (by rfl) (by simp only [execOp]; go_simp) ?_
  simp only [Act.put, List.setIfInBounds_toArray, List.set_cons_zero, List.set_cons_succ]
  refine wpList_value (v := .bool true) (w' := w7) (by rfl) (by simp only [execOp]; go_simp) ?_
  simp only [Act.put, List.setIfInBounds_toArray, List.set_cons_zero, List.set_cons_succ]
  refine wpList_value (v := .bool true) (w' := w7) (by rfl) (by simp only [execOp]; go_simp) ?_
  simp only [Act.put, List.setIfInBounds_toArray, List.set_cons_zero, List.set_cons_succ]
  refine wpList_value (v := .pointer none) (w' := w7) (by rfl) (by simp only [execOp]; go_simp) ?_
  simp only [Act.put, List.setIfInBounds_toArray, List.set_cons_zero, List.set_cons_succ]
  have hcl := tlen_nil w7
  try simp only [ptV] at hcl
  refine wpList_callW (by rfl) (f := 21) (args := #[.pointer none]) (by simp only [execOp]; go_simp) hcl ?_
  clear hcl
  rintro e w8 ⟨rfl, rfl⟩
  refine ⟨_, rfl, ?_⟩
  simp only [Act.put, List.setIfInBounds_toArray, List.set_cons_zero, List.set_cons_succ]
  refine wpList_value (v := .bool true) (w' := w7) (by rfl) (by simp only [execOp]; go_simp) ?_
  simp only [Act.put, List.setIfInBounds_toArray, List.set_cons_zero, List.set_cons_succ]
  refine wpList_value (v := .bool true) (w' := w7) (by rfl) (by simp only [execOp]; go_simp) ?_
  simp only [Act.put, List.setIfInBounds_toArray, List.set_cons_zero, List.set_cons_succ]
  refine wpList_value (v := .bool true) (w' := w7) (by rfl) (by simp only [execOp]; go_simp) ?_
  simp only [Act.put, List.setIfInBounds_toArray, List.set_cons_zero, List.set_cons_succ]
  apply wpList_nil
  go_wp2_with fail
  go_ret
  exact ⟨rfl, HW.out⟩
end Go.Proofs.Ytbemhcihmlijaaa

/- Texts of this claim put together, in build order: each one's own remark stands ahead of it. -/
import Derived.Test.YtbemhcihmlijaaaG27
import Derived.Deep.DeepCutAuto
/- The document's example of layer 9 holds. No condition but sizes. -/
namespace Go.Proofs.Ytbemhcihmlijaaa
open Go.RowKit
set_option linter.unusedVariables false
set_option maxRecDepth 20000
set_option linter.unusedSimpArgs false

section
variable {P : Program} {w w' : World} {ops : Array Oper} {rest : List Oper} {o : Oper} {a : Act} {Q : Exit → Act → World → Prop}
theorem wpList_callW (hgd : Region.wanted o (yielded ops a.tmps) = true) {f : FuncId} {args : Array Value} {R : Ending → World → Prop} (h : (execOp a.eval o).run P w = .ok (.enter f args) w) (hc : Calls P f args w R)
  (hk : ∀ e w', R e w' → ∃ v, e = .returned v ∧ wpList P ops Q rest (a.put o.dst v) w') : wpList P ops Q (o :: rest) a w :=
 wpList_wanted hgd fun K hK => wp_enter h (hc.mono fun e w' hr => by obtain ⟨v, hv, hk'⟩ := hk e w' hr; exact ⟨v, hv, hK _ _ hk'⟩)
theorem wpList_skipW (hw : Region.wanted o (yielded ops a.tmps) = false) (h : wpList P ops Q rest (a.put o.dst undef) w) : wpList P ops Q (o :: rest) a w :=
 wpList_step fun K hK => by rw [if_neg (by rw [hw]; exact Bool.false_ne_true)]; exact hK _ _ h
end
theorem It.eq_parts (x y : Itm) : (decide (x.1 = y.1) && ((x.2 == y.2) && true)) = decide (x = y) := by
 rw [Bool.eq_iff_iff]
 simp only [Bool.and_eq_true, beq_iff_eq, decide_eq_true_eq, and_true]
 exact ⟨fun h => Prod.ext h.1 h.2, fun h => by rw [h]; exact ⟨rfl, rfl⟩⟩
theorem it_px' {w : World} (x : Itm) (hx : x.1.addr.length = 16) : (part 30 (itC x).toArray 0).run Try.prog w = .ok (.agg x.1.cells.toArray) w := by
 have h := part_arr (P := Try.prog) (w := w) (t := 30) (cs := itC x) (off := 0) (n := 18) (by kernel_rfl) (by kernel_rfl)
 rw [List.drop_zero, show (itC x).take 18 = x.1.cells from List.take_left' (x.1.cells_length hx)] at h
 exact h
theorem it_val (x : Itm) (hx : x.1.addr.length = 16) : (itC x)[18]? = some (.int .i64 x.2) := by
 unfold itC
 rw [List.getElem?_append_right (by rw [x.1.cells_length hx]; omega), x.1.cells_length hx]
 rfl
theorem eqPxAt (d : Nat) (p q : Px) (hp : p.addr.length = 16) (hq : q.addr.length = 16) (w : World) : (Op.equalIn (d + 4) 30 (.agg p.cells.toArray) (.agg q.cells.toArray)).run Try.prog w = .ok (decide (p = q)) w := by
 rw [run_equalIn_struct w (d + 3) 30 _ _ Try.underlying30 (show Try.prog.stoodInHeld 30 = false by kernel_rfl), ← Px.eq_parts]
 refine eqF_and (by decide) (part_one (by kernel_rfl) rfl) (part_one (by kernel_rfl) rfl) (run_equalIn_bool' w _ _ _ _ Try.underlying4) ?_
 refine eqF_and (by decide) (px_addr p hp) (px_addr q hq) (run_equalIn_bytes (P := Try.prog) w _ 28 5 16 Try.underlying28 Try.underlying5 (fun w => by kernel_rfl) p.addr q.addr hp hq) ?_
 refine eqF_and (by decide) (part_one (by kernel_rfl) (p.get_len hp)) (part_one (by kernel_rfl) (q.get_len hq)) (run_equalIn_int w _ _ _ _ _ _ Try.underlying3) ?_
 exact eqF_nil
theorem eqIt (x y : Itm) (hx : x.1.addr.length = 16) (hy : y.1.addr.length = 16) (w : World) : (Op.equalIn 10000 38 (.agg (itC x).toArray) (.agg (itC y).toArray)).run Try.prog w = .ok (decide (x = y)) w := by
 rw [run_equalIn_struct w 9999 38 _ _ Try.underlying38 (show Try.prog.stoodInHeld 38 = false by kernel_rfl), ← It.eq_parts]
 refine eqF_and (by decide) (it_px' x hx) (it_px' y hy) (eqPxAt 9995 x.1 y.1 hx hy w) ?_
 refine eqF_and (by decide) (part_one (by kernel_rfl) (it_val x hx)) (part_one (by kernel_rfl) (it_val y hy)) (run_equalIn_int w _ _ _ _ _ _ Try.underlying3) ?_
 exact eqF_nil
theorem exec_eqIt {w : World} {o : Oper} {c : Act} (x y : Operand) (ty : TypeId) (ho : o.op = .binOp .eql 38 x y ty) (p q : Itm) (hp : p.1.addr.length = 16) (hq : q.1.addr.length = 16) (r : Bool) (hr : decide (p = q) = r) (hx : c.eval x = .agg (itC p).toArray) (hy : c.eval y = .agg (itC q).toArray) : (execOp c.eval o).run Try.prog w = .ok (.value (.bool r)) w := by
 unfold execOp
 simp only [ho, hx, hy, Sem.run_bind, run_eqGuard_agg w .eql 38 x y _ _ (show Try.prog.eqGuardType Try.prog.depth 38 = false by kernel_rfl), run_eql_struct, eqIt p q hp hq w, hr, Result.andThen_ok]
 rfl
theorem exec_neIt {w : World} {o : Oper} {c : Act} (x y : Operand) (ty : TypeId) (ho : o.op = .binOp .neq 38 x y ty) (p q : Itm) (hp : p.1.addr.length = 16) (hq : q.1.addr.length = 16) (r : Bool) (hr : decide (p = q) = r) (hx : c.eval x = .agg (itC p).toArray) (hy : c.eval y = .agg (itC q).toArray) : (execOp c.eval o).run Try.prog w = .ok (.value (.bool (!r))) w := by
 unfold execOp
 simp only [ho, hx, hy, Sem.run_bind, run_eqGuard_agg w .neq 38 x y _ _ (show Try.prog.eqGuardType Try.prog.depth 38 = false by kernel_rfl), run_neq_struct, eqIt p q hp hq w, hr, Result.andThen_ok]
 rfl
theorem run_buildPx12 (l : List UInt8) (h : l.length = 16) (n : Int) (w : World) : (Instr.build 30 #[(1, .agg (bv l).toArray), (2, .int .i64 n)]).run Try.prog w = .ok (.agg (Px.cells ⟨false, l, n⟩).toArray) w := by
 obtain ⟨s0, s1, s2, s3, s4, s5, s6, s7, s8, s9, s10, s11, s12, s13, s14, s15, rfl⟩ := list16p l h
 kernel_rfl
theorem exec_buildPx12 {w : World} {o : Oper} {q : Act} (x1 x2 : Operand) (ho : o.op = .build 30 #[(1, x1), (2, x2)]) (l : List UInt8) (h : l.length = 16) (n : Int) (h1 : q.eval x1 = .agg (bv l).toArray) (h2 : q.eval x2 = .int .i64 n) :
  (execOp q.eval o).run Try.prog w = .ok (.value (.agg (Px.cells ⟨false, l, n⟩).toArray)) w := by
 unfold execOp
 simp only [ho, List.map_toArray, List.map_cons, List.map_nil, h1, h2, Sem.run_bind, run_buildPx12 l h n w, Result.andThen_ok]
 rfl
theorem exec_buildPx0 {w : World} {o : Oper} {q : Act} (ho : o.op = .build 30 #[]) : (execOp q.eval o).run Try.prog w = .ok (.value (.agg Px.zero.cells.toArray)) w := by
 unfold execOp
 simp only [ho, List.map_toArray, List.map_nil, Sem.run_bind, show (Instr.build 30 #[]).run Try.prog w = .ok (.agg Px.zero.cells.toArray) w by kernel_rfl, Result.andThen_ok]
 rfl
def adA : List UInt8 := [10, 0, 0, 0, 0, 0, 0, 0, 0, 0, 0, 0, 0, 0, 0, 0]
theorem exec_bA {w : World} {o : Oper} {q : Act} (ho : o.op = .build 28 #[(0, .const (.int .u8 10))]) : (execOp q.eval o).run Try.prog w = .ok (.value (.agg (bv adA).toArray)) w := by
 unfold execOp
 simp only [ho]
 kernel_rfl
def adB : List UInt8 := [10, 1, 0, 0, 0, 0, 0, 0, 0, 0, 0, 0, 0, 0, 0, 0]
theorem exec_bB {w : World} {o : Oper} {q : Act} (ho : o.op = .build 28 #[(0, .const (.int .u8 10)), (1, .const (.int .u8 1))]) : (execOp q.eval o).run Try.prog w = .ok (.value (.agg (bv adB).toArray)) w := by
 unfold execOp
 simp only [ho]
 kernel_rfl
def adC : List UInt8 := [10, 1, 2, 3, 0, 0, 0, 0, 0, 0, 0, 0, 0, 0, 0, 0]
theorem exec_bC {w : World} {o : Oper} {q : Act} (ho : o.op = .build 28 #[(0, .const (.int .u8 10)), (1, .const (.int .u8 1)), (2, .const (.int .u8 2)), (3, .const (.int .u8 3))]) : (execOp q.eval o).run Try.prog w = .ok (.value (.agg (bv adC).toArray)) w := by
 unfold execOp
 simp only [ho]
 kernel_rfl
def adD : List UInt8 := [10, 2, 0, 0, 0, 0, 0, 0, 0, 0, 0, 0, 0, 0, 0, 0]
theorem exec_bD {w : World} {o : Oper} {q : Act} (ho : o.op = .build 28 #[(0, .const (.int .u8 10)), (1, .const (.int .u8 2))]) : (execOp q.eval o).run Try.prog w = .ok (.value (.agg (bv adD).toArray)) w := by
 unfold execOp
 simp only [ho]
 kernel_rfl
def adE : List UInt8 := [11, 0, 0, 0, 0, 0, 0, 0, 0, 0, 0, 0, 0, 0, 0, 0]
theorem exec_bE {w : World} {o : Oper} {q : Act} (ho : o.op = .build 28 #[(0, .const (.int .u8 11))]) : (execOp q.eval o).run Try.prog w = .ok (.value (.agg (bv adE).toArray)) w := by
 unfold execOp
 simp only [ho]
 kernel_rfl
def pxA : Px := ⟨false, adA, 8⟩
def pxB : Px := ⟨false, adB, 16⟩
def rowAB : List Itm := [(pxA, 1), (pxB, 2)]
theorem ex1 : putR true false 2 [] pxA 1 = ([(pxA, 1)], 0) := by decide +kernel
theorem ex2 : putR true false 2 [(pxA, 1)] pxB 2 = (rowAB, 0) := by decide +kernel
theorem ex3 : putR true false 2 rowAB Px.zero 3 = (rowAB, 30) := by decide +kernel
theorem ex4 : ansL' rowAB adC = ((pxB, 2), true) := by decide +kernel
theorem ex5 : ansL' rowAB adD = ((pxA, 1), true) := by decide +kernel
theorem ex6 : (ansL' rowAB adE).2 = false := by decide +kernel
theorem pxA_fit : pxA.fit := ⟨rfl, by decide⟩
theorem pxB_fit : pxB.fit := ⟨rfl, by decide⟩
theorem ansL_fit {L : List Itm} (hL : ∀ x ∈ L, x.1.fit) (a : List UInt8) : (ansL' L a).1.1.fit := by
 unfold ansL'
 cases h : bestP a L none with
 | none => exact Px.zero_fit
 | some x => exact hL x (bestP_mem h)
set_option maxHeartbeats 4000000 in
theorem awake_any (w : World) : Calls Try.prog 8 #[] w fun e w' => e = .returned (.bool true) ∧ Below w.heap.size w w' := by
 go_enter Try.func8, Try.ntmps8
 go_wp2_with fail
 refine (tnew_O false 2 w).mono ?_
 rintro e w1 ⟨o, rfl, ho, hT, hb⟩
 cases o with
 | none => exact absurd (ho.1 rfl) (by omega)
 | some g =>
 have HT1 := Lib.hid (show TabO w1 (ext (fun _ => False) w w1) (some g) true false 2 [] 1 from hT)
 have HB1 := Lib.hid hb
 clear hT hb ho
 simp only [ptV]
 go_upto_region 3 with (first
  | (refine wpList_value (by rfl) (exec_bA rfl) ?_)
  | (refine wpList_value (by rfl) (exec_buildPx12 _ _ rfl adA rfl 8 rfl rfl) ?_)
  | (refine wpList_alloc_blk (by rfl) 30 rfl Px.zero.cells zeroPx ?_; intro wa hba hBa hsa)
  | (refine wpList_store_all (by rfl) 30 _ _ rfl w1.heap.size pxA.cells rfl rfl 30 _ hba (sizePx _ pxA_fit.addr) (Px.cells_same _ _ pxA_fit.addr rfl) (onePx _) ?_; intro w2 hb2 hg2 hs2))
 have HB2 := Lib.hid (bgrown hBa hg2 hBa.size (Nat.le_refl _))
 obtain ⟨gA, hgA⟩ : ∃ g, w1.heap.size = g := ⟨_, rfl⟩
 have HGA := Lib.hid (show w1.heap.size ≤ gA by omega)
 have HA2 := hb2
 rw [hgA] at HA2
 try rw [hgA]
 have HAA := Lib.hid HA2
 have HT2 := Lib.hid (HT1.out.on HB2.out)
 have HW2 := Lib.hid (bthen HB1.out HB2.out)
 clear hba hBa hsa hb2 hg2 hs2 hgA HA2
 go_upto_region 4 with (first
  | (refine wpList_value (by rfl) (exec_bB rfl) ?_)
  | (refine wpList_value (by rfl) (exec_buildPx12 _ _ rfl adB rfl 16 rfl rfl) ?_)
  | (refine wpList_alloc_blk (by rfl) 30 rfl Px.zero.cells zeroPx ?_; intro wa hba hBa hsa)
  | (refine wpList_store_all (by rfl) 30 _ _ rfl w2.heap.size pxB.cells rfl rfl 30 _ hba (sizePx _ pxB_fit.addr) (Px.cells_same _ _ pxB_fit.addr rfl) (onePx _) ?_; intro w3 hb3 hg3 hs3))
 have HB3 := Lib.hid (bgrown hBa hg3 hBa.size (Nat.le_refl _))
 obtain ⟨gB, hgB⟩ : ∃ g, w2.heap.size = g := ⟨_, rfl⟩
 have HGB := Lib.hid (show w1.heap.size ≤ gB by have := HB2.out.size; omega)
 have HA3 := hb3
 rw [hgB] at HA3
 try rw [hgB]
 have HBB := Lib.hid HA3
 have HA := Lib.hid (HAA.out.on HB3.out)
 have HT3 := Lib.hid (HT2.out.on HB3.out)
 have HW3 := Lib.hid (bthen HW2.out HB3.out)
 have HT := Lib.hid HT3.out
 have HW := Lib.hid HW3.out
 have HXB := Lib.hid HBB.out
 have HS := Lib.hid (show ∀ b, ext (fun _ => False) w w1 b → w.heap.size ≤ b ∧ b ≠ gA ∧ b ≠ gB by
  intro b hb
  have h1 := HGA.out
  have h2 := HGB.out
  rcases hb with hb | hb
  ·exact hb.elim
  ·exact ⟨hb.1, by omega, by omega⟩)
 have HLA := Lib.hid HA.out.lt
 have HLB := Lib.hid HXB.out.lt
 clear hba hBa hsa hb3 hg3 hs3 hgB HA3
 go_wp2_with (refine wpList_value (by rfl) (exec_load 30 _ rfl gA (by rfl) 30 pxA.cells _ HA.out Try.underlying30 rfl (sizePx _ pxA_fit.addr)) ?_)
 refine (tput_O HT.out (by omega) pxA pxA_fit 1).mono ?_
 rintro e w4 ⟨rfl, hT, hk⟩
 rw [ex1] at hT
 rw [ex1]
 have hS : ∀ b, ext (ext (fun _ => False) w w1) w3 w4 b → w.heap.size ≤ b ∧ b ≠ gA ∧ b ≠ gB := by
  intro b hb
  rcases hb with hb | hb
  ·exact HS.out b hb
  ·have h1 := HLA.out
   have h2 := HLB.out
   have h3 := HW.out.size
   exact ⟨by omega, by omega, by omega⟩
 have HA' := Lib.hid (hk.blk HA.out (fun h => (HS.out gA h).2.1 rfl))
 have HXB' := Lib.hid (hk.blk HXB.out (fun h => (HS.out gB h).2.2 rfl))
 replace HA := HA'
 replace HXB := HXB'
 replace HW := Lib.hid (HW.out.trans (hk.below HW.out.size (fun b h => (HS.out b h).1)))
 replace HLA := Lib.hid HA.out.lt
 replace HLB := Lib.hid HXB.out.lt
 replace HT := Lib.hid hT
 replace HS := Lib.hid hS
 clear hT hk hS HA' HXB'
 go_wp2_with (refine wpList_value (by rfl) (exec_load 30 _ rfl gB (by rfl) 30 pxB.cells _ HXB.out Try.underlying30 rfl (sizePx _ pxB_fit.addr)) ?_)
 refine (tput_O HT.out (by omega) pxB pxB_fit 2).mono ?_
 rintro e w5 ⟨rfl, hT, hk⟩
 rw [ex2] at hT
 rw [ex2]
 have hS : ∀ b, ext (ext (ext (fun _ => False) w w1) w3 w4) w4 w5 b → w.heap.size ≤ b ∧ b ≠ gA ∧ b ≠ gB := by
  intro b hb
  rcases hb with hb | hb
  ·exact HS.out b hb
  ·have h1 := HLA.out
   have h2 := HLB.out
   have h3 := HW.out.size
   exact ⟨by omega, by omega, by omega⟩
 have HA' := Lib.hid (hk.blk HA.out (fun h => (HS.out gA h).2.1 rfl))
 have HXB' := Lib.hid (hk.blk HXB.out (fun h => (HS.out gB h).2.2 rfl))
 replace HA := HA'
 replace HXB := HXB'
 replace HW := Lib.hid (HW.out.trans (hk.below HW.out.size (fun b h => (HS.out b h).1)))
 replace HLA := Lib.hid HA.out.lt
 replace HLB := Lib.hid HXB.out.lt
 replace HT := Lib.hid hT
 replace HS := Lib.hid hS
 clear hT hk hS HA' HXB'
 go_wp2_with (refine wpList_value (by rfl) (exec_buildPx0 rfl) ?_)
 refine (tput_O HT.out (by omega) Px.zero Px.zero_fit 3).mono ?_
 rintro e w6 ⟨rfl, hT, hk⟩
 rw [ex3] at hT
 rw [ex3]
 have hS : ∀ b, ext (ext (ext (ext (fun _ => False) w w1) w3 w4) w4 w5) w5 w6 b → w.heap.size ≤ b ∧ b ≠ gA ∧ b ≠ gB := by
  intro b hb
  rcases hb with hb | hb
  ·exact HS.out b hb
  ·have h1 := HLA.out
   have h2 := HLB.out
   have h3 := HW.out.size
   exact ⟨by omega, by omega, by omega⟩
 have HA' := Lib.hid (hk.blk HA.out (fun h => (HS.out gA h).2.1 rfl))
 have HXB' := Lib.hid (hk.blk HXB.out (fun h => (HS.out gB h).2.2 rfl))
 replace HA := HA'
 replace HXB := HXB'
 replace HW := Lib.hid (HW.out.trans (hk.below HW.out.size (fun b h => (HS.out b h).1)))
 replace HLA := Lib.hid HA.out.lt
 replace HLB := Lib.hid HXB.out.lt
 replace HT := Lib.hid hT
 replace HS := Lib.hid hS
 clear hT hk hS HA' HXB'
 go_wp2_with (refine wpList_value (by rfl) (exec_bC rfl) ?_)
 refine (tlook_O HT.out adC rfl).mono ?_
 rintro e w7 ⟨rfl, hb⟩
 replace HA := Lib.hid (HA.out.on hb)
 replace HXB := Lib.hid (HXB.out.on hb)
 replace HT := Lib.hid (HT.out.on hb)
 replace HW := Lib.hid (bthen HW.out hb)
 clear hb
 go_upto_region 8 with (first
  | (refine wpList_alloc_blk (by rfl) 38 rfl (itC (Px.zero, 0)) zeroIt ?_; intro wa hba hBa hsa)
  | (refine wpList_store_all (by rfl) 38 _ _ rfl w7.heap.size (itC (ansL' rowAB adC).1) rfl rfl 38 _ hba (sizeIt _ (ansL_fit HT.out.fit _).addr) (by rw [itC_length _ (ansL_fit HT.out.fit _).addr]; rfl) (oneIt _) ?_; intro w8 hb9 hg9 hs9))
 have hbb := (bgrown hBa hg9 hBa.size (Nat.le_refl _))
 obtain ⟨g7, hgg⟩ : ∃ g, w7.heap.size = g := ⟨_, rfl⟩
 have hx9 := hb9
 rw [hgg] at hx9
 try rw [hgg]
 have Hg7 := Lib.hid hx9
 replace HA := Lib.hid (HA.out.on hbb)
 replace HXB := Lib.hid (HXB.out.on hbb)
 replace HT := Lib.hid (HT.out.on hbb)
 replace HW := Lib.hid (bthen HW.out hbb)
 clear hba hBa hsa hb9 hg9 hs9 hbb hgg hx9
 go_wp2_with (refine wpList_value (by rfl) (exec_bD rfl) ?_)
 refine (tlook_O HT.out adD rfl).mono ?_
 rintro e w9 ⟨rfl, hb⟩
 replace HA := Lib.hid (HA.out.on hb)
 replace HXB := Lib.hid (HXB.out.on hb)
 replace HT := Lib.hid (HT.out.on hb)
 replace HW := Lib.hid (bthen HW.out hb)
 replace Hg7 := Lib.hid (Hg7.out.on hb)
 clear hb
 go_upto_region 9 with (first
  | (refine wpList_alloc_blk (by rfl) 38 rfl (itC (Px.zero, 0)) zeroIt ?_; intro wa hba hBa hsa)
  | (refine wpList_store_all (by rfl) 38 _ _ rfl w9.heap.size (itC (ansL' rowAB adD).1) rfl rfl 38 _ hba (sizeIt _ (ansL_fit HT.out.fit _).addr) (by rw [itC_length _ (ansL_fit HT.out.fit _).addr]; rfl) (oneIt _) ?_; intro w10 hb9 hg9 hs9))
 have hbb := (bgrown hBa hg9 hBa.size (Nat.le_refl _))
 obtain ⟨g9, hgg⟩ : ∃ g, w9.heap.size = g := ⟨_, rfl⟩
 have hx9 := hb9
 rw [hgg] at hx9
 try rw [hgg]
 have Hg9 := Lib.hid hx9
 replace HA := Lib.hid (HA.out.on hbb)
 replace HXB := Lib.hid (HXB.out.on hbb)
 replace HT := Lib.hid (HT.out.on hbb)
 replace HW := Lib.hid (bthen HW.out hbb)
 replace Hg7 := Lib.hid (Hg7.out.on hbb)
 clear hba hBa hsa hb9 hg9 hs9 hbb hgg hx9
 go_wp2_with (refine wpList_value (by rfl) (exec_bE rfl) ?_)
 refine (tlook_O HT.out adE rfl).mono ?_
 rintro e w11 ⟨rfl, hb⟩
 replace HA := Lib.hid (HA.out.on hb)
 replace HXB := Lib.hid (HXB.out.on hb)
 replace HT := Lib.hid (HT.out.on hb)
 replace HW := Lib.hid (bthen HW.out hb)
 replace Hg7 := Lib.hid (Hg7.out.on hb)
 replace Hg9 := Lib.hid (Hg9.out.on hb)
 clear hb
 go_upto_region 10 with (first
  | (refine wpList_alloc_blk (by rfl) 38 rfl (itC (Px.zero, 0)) zeroIt ?_; intro wa hba hBa hsa)
  | (refine wpList_store_all (by rfl) 38 _ _ rfl w11.heap.size (itC (ansL' rowAB adE).1) rfl rfl 38 _ hba (sizeIt _ (ansL_fit HT.out.fit _).addr) (by rw [itC_length _ (ansL_fit HT.out.fit _).addr]; rfl) (oneIt _) ?_; intro w12 hb9 hg9 hs9))
 have hbb := (bgrown hBa hg9 hBa.size (Nat.le_refl _))
 obtain ⟨g11, hgg⟩ : ∃ g, w11.heap.size = g := ⟨_, rfl⟩
 have hx9 := hb9
 rw [hgg] at hx9
 try rw [hgg]
 have Hg11 := Lib.hid hx9
 replace HA := Lib.hid (HA.out.on hbb)
 replace HXB := Lib.hid (HXB.out.on hbb)
 replace HT := Lib.hid (HT.out.on hbb)
 replace HW := Lib.hid (bthen HW.out hbb)
 replace Hg7 := Lib.hid (Hg7.out.on hbb)
 replace Hg9 := Lib.hid (Hg9.out.on hbb)
 clear hba hBa hsa hb9 hg9 hs9 hbb hgg hx9
 have h4 := ex4
 have h5 := ex5
 have h6 := ex6
 rw [h4] at Hg7
 rw [h5] at Hg9
 try rw [h4]
 try rw [h5]
 try rw [h6]
 clear h4 h5 h6
 apply wp_region_lit
 refine wpList_value (v := .int .i64 0) (w' := w12) (by rfl) (by simp only [execOp]; go_simp) ?_
 simp only [Act.put, List.setIfInBounds_toArray, List.set_cons_zero, List.set_cons_succ]
 refine wpList_value (v := .bool true) (w' := w12) (by rfl) (by simp only [execOp]; go_simp) ?_
 simp only [Act.put, List.setIfInBounds_toArray, List.set_cons_zero, List.set_cons_succ]
 refine wpList_value (v := .bool true) (w' := w12) (by rfl) (by simp only [execOp]; go_simp) ?_
 simp only [Act.put, List.setIfInBounds_toArray, List.set_cons_zero, List.set_cons_succ]
 refine wpList_value (v := .int .i64 0) (w' := w12) (by rfl) (by simp only [execOp]; go_simp) ?_
 simp only [Act.put, List.setIfInBounds_toArray, List.set_cons_zero, List.set_cons_succ]
 refine wpList_value (v := .bool true) (w' := w12) (by rfl) (by simp only [execOp]; go_simp) ?_
 simp only [Act.put, List.setIfInBounds_toArray, List.set_cons_zero, List.set_cons_succ]
 refine wpList_value (v := .bool true) (w' := w12) (by rfl) (by simp only [execOp]; go_simp) ?_
 simp only [Act.put, List.setIfInBounds_toArray, List.set_cons_zero, List.set_cons_succ]
 refine wpList_value (v := .bool true) (w' := w12) (by rfl) (by simp only [execOp]; go_simp) ?_
 simp only [Act.put, List.setIfInBounds_toArray, List.set_cons_zero, List.set_cons_succ]
 refine wpList_value (v := .int .i64 30) (w' := w12) (by rfl) (by simp only [execOp]; go_simp) ?_
 simp only [Act.put, List.setIfInBounds_toArray, List.set_cons_zero, List.set_cons_succ]
 refine wpList_value (v := .bool true) (w' := w12) (by rfl) (by simp only [execOp]; go_simp) ?_
 simp only [Act.put, List.setIfInBounds_toArray, List.set_cons_zero, List.set_cons_succ]
 refine wpList_value (v := .bool true) (w' := w12) (by rfl) (by simp only [execOp]; go_simp) ?_
 simp only [Act.put, List.setIfInBounds_toArray, List.set_cons_zero, List.set_cons_succ]
 refine wpList_value (v := .bool true) (w' := w12) (by rfl) (by simp only [execOp]; go_simp) ?_
 simp only [Act.put, List.setIfInBounds_toArray, List.set_cons_zero, List.set_cons_succ]
 refine wpList_value (by rfl) (exec_load 38 _ rfl g7 (by rfl) 38 (itC (pxB, 2)) _ Hg7.out Try.underlying38 rfl (sizeIt _ pxB_fit.addr)) ?_
 simp only [Act.put, List.setIfInBounds_toArray, List.set_cons_zero, List.set_cons_succ]
 refine wpList_value (by rfl) (exec_load 30 _ rfl gB (by rfl) 30 pxB.cells _ HXB.out Try.underlying30 rfl (sizePx _ pxB_fit.addr)) ?_
 simp only [Act.put, List.setIfInBounds_toArray, List.set_cons_zero, List.set_cons_succ]
 refine wpList_value (by rfl) (exec_buildIt _ _ rfl pxB pxB_fit.addr 2 (by rfl) (by rfl)) ?_
 simp only [Act.put, List.setIfInBounds_toArray, List.set_cons_zero, List.set_cons_succ]
 refine wpList_value (by rfl) (exec_eqIt _ _ _ rfl (pxB, 2) (pxB, 2) pxB_fit.addr pxB_fit.addr true (by decide) (by rfl) (by rfl)) ?_
 simp only [Act.put, List.setIfInBounds_toArray, List.set_cons_zero, List.set_cons_succ]
 refine wpList_value (v := .bool true) (w' := w12) (by rfl) (by simp only [execOp]; go_simp) ?_
 simp only [Act.put, List.setIfInBounds_toArray, List.set_cons_zero, List.set_cons_succ]
 refine wpList_value (v := .bool true) (w' := w12) (by rfl) (by simp only [execOp]; go_simp) ?_
 simp only [Act.put, List.setIfInBounds_toArray, List.set_cons_zero, List.set_cons_succ]
 refine wpList_value (v := .bool true) (w' := w12) (by rfl) (by simp only [execOp]; go_simp) ?_
 simp only [Act.put, List.setIfInBounds_toArray, List.set_cons_zero, List.set_cons_succ]
 refine wpList_value (v := .bool true) (w' := w12) (by rfl) (by simp only [execOp]; go_simp) ?_
 simp only [Act.put, List.setIfInBounds_toArray, List.set_cons_zero, List.set_cons_succ]
 refine wpList_value (v := .bool true) (w' := w12) (by rfl) (by simp only [execOp]; go_simp) ?_
 simp only [Act.put, List.setIfInBounds_toArray, List.set_cons_zero, List.set_cons_succ]
 refine wpList_value (v := .pointer (some ⟨g9, 0, none⟩)) (w' := w12) (by rfl) (by simp only [execOp]; go_simp) ?_
 simp only [Act.put, List.setIfInBounds_toArray, List.set_cons_zero, List.set_cons_succ]
 refine wpList_value (by rfl) (exec_load_mid 30 _ rfl g9 0 (by rfl) pxA.cells _ (it_px (show w12.rangeAt g9 0 (itC (pxA, 1)) from fun j u hu => by rw [Nat.zero_add]; exact (Hg9.out.cell j).trans hu)) Try.underlying30 rfl (sizePx _ pxA_fit.addr)) ?_
 simp only [Act.put, List.setIfInBounds_toArray, List.set_cons_zero, List.set_cons_succ]
 refine wpList_value (by rfl) (exec_load 30 _ rfl gA (by rfl) 30 pxA.cells _ HA.out Try.underlying30 rfl (sizePx _ pxA_fit.addr)) ?_
 simp only [Act.put, List.setIfInBounds_toArray, List.set_cons_zero, List.set_cons_succ]
 refine wpList_value (by rfl) (exec_eqPx _ _ _ rfl pxA pxA pxA_fit.addr pxA_fit.addr true (by decide) (by rfl) (by rfl)) ?_
 simp only [Act.put, List.setIfInBounds_toArray, List.set_cons_zero, List.set_cons_succ]
 refine wpList_value (v := .bool true) (w' := w12) (by rfl) (by simp only [execOp]; go_simp) ?_
 simp only [Act.put, List.setIfInBounds_toArray, List.set_cons_zero, List.set_cons_succ]
 refine wpList_value (v := .bool true) (w' := w12) (by rfl) (by simp only [execOp]; go_simp) ?_
 simp only [Act.put, List.setIfInBounds_toArray, List.set_cons_zero, List.set_cons_succ]
 refine wpList_value (v := .bool true) (w' := w12) (by rfl) (by simp only [execOp]; go_simp) ?_
 simp only [Act.put, List.setIfInBounds_toArray, List.set_cons_zero, List.set_cons_succ]
 refine wpList_value (v := .bool true) (w' := w12) (by rfl) (by simp only [execOp]; go_simp) ?_
 simp only [Act.put, List.setIfInBounds_toArray, List.set_cons_zero, List.set_cons_succ]
 refine wpList_value (v := .bool true) (w' := w12) (by rfl) (by simp only [execOp]; go_simp) ?_
 simp only [Act.put, List.setIfInBounds_toArray, List.set_cons_zero, List.set_cons_succ]
 refine wpList_value (v := .bool false) (w' := w12) (by rfl) (by simp only [execOp]; go_simp) ?_
 simp only [Act.put, List.setIfInBounds_toArray, List.set_cons_zero, List.set_cons_succ]
 refine wpList_value (v := .bool true) (w' := w12) (by rfl) (by simp only [execOp]; go_simp) ?_
 simp only [Act.put, List.setIfInBounds_toArray, List.set_cons_zero, List.set_cons_succ]
 refine wpList_value (v := .bool true) (w' := w12) (by rfl) (by simp only [execOp]; go_simp) ?_
 simp only [Act.put, List.setIfInBounds_toArray, List.set_cons_zero, List.set_cons_succ]
 refine wpList_value (v := .bool true) (w' := w12) (by rfl) (by simp only [execOp]; go_simp) ?_
 simp only [Act.put, List.setIfInBounds_toArray, List.set_cons_zero, List.set_cons_succ]
 refine wpList_value (v := .pointer (some ⟨g, 0, none⟩)) (w' := w12) (by rfl) (by simp only [execOp]; go_simp) ?_
 simp only [Act.put, List.setIfInBounds_toArray, List.set_cons_zero, List.set_cons_succ]
 have hcl := tlen_O HT.out
 try simp only [ptV] at hcl
 refine wpList_callW (by rfl) (f := 21) (args := #[.pointer (some ⟨g, 0, none⟩)]) (by simp only [execOp]; go_simp) hcl ?_
 clear hcl
 rintro e w12 ⟨rfl, rfl⟩
 refine ⟨_, rfl, ?_⟩
 simp only [Act.put, List.setIfInBounds_toArray, List.set_cons_zero, List.set_cons_succ]
 refine wpList_value (v := .bool true) (w' := w12) (by rfl) (by simp only [execOp]; go_simp; first | rfl | decide) ?_
 simp only [Act.put, List.setIfInBounds_toArray, List.set_cons_zero, List.set_cons_succ]
 refine wpList_value (v := .bool true) (w' := w12) (by rfl) (by simp only [execOp]; go_simp) ?_
 simp only [Act.put, List.setIfInBounds_toArray, List.set_cons_zero, List.set_cons_succ]
 refine wpList_value (v := .bool true) (w' := w12) (by rfl) (by simp only [execOp]; go_simp) ?_
 simp only [Act.put, List.setIfInBounds_toArray, List.set_cons_zero, List.set_cons_succ]
 refine wpList_value (v := .pointer (some ⟨g, 0, none⟩)) (w' := w12) (by rfl) (by simp only [execOp]; go_simp) ?_
 simp only [Act.put, List.setIfInBounds_toArray, List.set_cons_zero, List.set_cons_succ]
 have hcl := tall_O HT.out (by omega)
 try simp only [ptV] at hcl
 refine wpList_callW (by rfl) (f := 12) (args := #[.pointer (some ⟨g, 0, none⟩)]) (by simp only [execOp]; go_simp) hcl ?_
 clear hcl
 rintro e w13 ⟨A9, c9, rfl, _, hb⟩
 refine ⟨_, rfl, ?_⟩
 replace HW := Lib.hid (bthen HW.out hb)
 clear hb
 simp only [Act.put, List.setIfInBounds_toArray, List.set_cons_zero, List.set_cons_succ]
 refine wpList_value (v := .int .i64 ((rowAB.length : Nat) : Int)) (w' := w13) (by rfl) (by simp only [execOp]; go_simp) ?_
 simp only [Act.put, List.setIfInBounds_toArray, List.set_cons_zero, List.set_cons_succ]
 refine wpList_value (v := .bool true) (w' := w13) (by rfl) (by simp only [execOp]; go_simp; first | rfl | decide) ?_
 simp only [Act.put, List.setIfInBounds_toArray, List.set_cons_zero, List.set_cons_succ]
 refine wpList_value (v := .bool true) (w' := w13) (by rfl) (by simp only [execOp]; go_simp) ?_
 simp only [Act.put, List.setIfInBounds_toArray, List.set_cons_zero, List.set_cons_succ]
 refine wpList_value (v := .bool true) (w' := w13) (by rfl) (by simp only [execOp]; go_simp) ?_
 simp only [Act.put, List.setIfInBounds_toArray, List.set_cons_zero, List.set_cons_succ]
 have hcl := tnew_O true 0 w13
 try simp only [ptV] at hcl
 refine wpList_callW (by rfl) (f := 9) (args := #[.bool true, .int .i64 0]) (by simp only [execOp]; go_simp) hcl ?_
 clear hcl
 rintro e w14 ⟨o9, rfl, ho9, _, hb⟩
 refine ⟨_, rfl, ?_⟩
 obtain rfl : o9 = none := ho9.2 (by omega)
 simp only [ptV]
 replace HW := Lib.hid (bthen HW.out hb)
 clear hb
 simp only [Act.put, List.setIfInBounds_toArray, List.set_cons_zero, List.set_cons_succ]
 refine wpList_value (v := .bool true) (w' := w14) (by rfl) (by simp only [execOp]; go_simp) ?_
 simp only [Act.put, List.setIfInBounds_toArray, List.set_cons_zero, List.set_cons_succ]
 refine wpList_value (v := .bool true) (w' := w14) (by rfl) (by simp only [execOp]; go_simp) ?_
 simp only [Act.put, List.setIfInBounds_toArray, List.set_cons_zero, List.set_cons_succ]
 refine wpList_value (v := .bool true) (w' := w14) (by rfl) (by simp only [execOp]; go_simp) ?_
 simp only [Act.put, List.setIfInBounds_toArray, List.set_cons_zero, List.set_cons_succ]
 apply wpList_nil
 go_wp2_with fail
 go_ret
 exact ⟨rfl, HW.out⟩
end Go.Proofs.Ytbemhcihmlijaaa


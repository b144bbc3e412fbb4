/- Texts of this claim put together, in build order: each one's own remark stands ahead of it. -/
import Derived.Test.YtdmgomknamdcfaaG02
import Derived.Test.YtdmgomknamdcfaaG18
import Derived.Test.YtdmgomknamdcfaaG19
import Derived.Sort.CutIn
/- What the table's each (layer 9) hands to a loop's body. No condition but sizes. -/
namespace Go.Proofs.Ytdmgomknamdcfaa
open Go.RowKit Go.Shelf
set_option linter.unusedVariables false
set_option maxRecDepth 20000
set_option linter.unusedSimpArgs false

attribute [local go_sem] Oper.semAt_some

theorem wpListIn_val {nF : Nat} {P : Program} {w w' : World} {ops : Array Oper} {rest : List Oper} {o : Oper} {a : Act} {Q : Exit → Act → World → Prop} {v : Value} (hgd : o.guard = none) (h : (execOp a.eval o).run P w = .ok (.value v) w')
  (hk : wpListIn Fence.wide nF P ops Q rest (a.put o.dst v) w') : wpListIn Fence.wide nF P ops Q (o :: rest) a w :=
 wpListIn_plain hgd fun K hK => wpIn_of_wp (wp_value h (hK _ _ hk))
theorem wpListIn_store_all {nF : Nat} {P : Program} {w : World} {ops : Array Oper} {rest : List Oper} {o : Oper} {a : Act} {Q : Exit → Act → World → Prop} (hgd : o.guard = none) (ty : TypeId) (x y : Operand) (ho : o.op = .store ty x y) (g : Nat) (new : List Value) (hx : a.eval x = .pointer (some ⟨g, 0, none⟩)) (hy : a.eval y = .agg new.toArray)
  (t : TypeId) (cs : List Value) (hb : Blk w g t cs) (hi : (P.info? ty).map (·.size) = some new.length) (hl : new.length = cs.length) (h1 : ∀ v ∈ new, v.oneCell' = true)
  (h : ∀ w', Blk w' g t new → w.grownBy w' (some g) → w'.heap.size = w.heap.size → wpListIn Fence.wide nF P ops Q rest (a.put o.dst undef) w') : wpListIn Fence.wide nF P ops Q (o :: rest) a w :=
 wpListIn_plain hgd fun K hK => wpIn_of_wp (wp_store_all ty x y ho g new hx hy t cs hb hi hl h1 fun w' h1 h2 h3 => hK _ _ (h w' h1 h2 h3))
section
variable {nF : Nat} {P : Program} {w w' : World} {ops : Array Oper} {rest : List Oper} {o : Oper} {a : Act} {Q : Exit → Act → World → Prop}
theorem wpListIn_skipW (hw : Region.wanted o (yielded ops a.tmps) = false) (h : wpListIn Fence.wide nF P ops Q rest (a.put o.dst undef) w) : wpListIn Fence.wide nF P ops Q (o :: rest) a w := by
 simp only [wpListIn, hw]
 exact ⟨fun _ _ => trivial, h⟩
theorem wpListIn_goW (hw : Region.wanted o (yielded ops a.tmps) = true) (h : o.wpIn Fence.wide nF P a w (wpListIn Fence.wide nF P ops Q rest) Q) : wpListIn Fence.wide nF P ops Q (o :: rest) a w := by
 simp only [wpListIn, hw, if_true]
 exact h
theorem wpListIn_valW {v : Value} (hw : Region.wanted o (yielded ops a.tmps) = true) (h : (execOp a.eval o).run P w = .ok (.value v) w') (hk : wpListIn Fence.wide nF P ops Q rest (a.put o.dst v) w') : wpListIn Fence.wide nF P ops Q (o :: rest) a w :=
 wpListIn_goW hw (wpIn_of_wp (wp_value h hk))
end
/-- what a round keeps: what lay below n₀, and all blocks but those of items -/
def KpI (n₀ : Nat) (A B : World) : Prop := Below n₀ A B ∧ ∀ (k : Nat) cs t fr, A.heap[k]? = some (Obj.cells cs t fr) → t ≠ 35 → t ≠ 40 → B.heap[k]? = some (Obj.cells cs t fr)
theorem KpI.trans {n₀ : Nat} {A B C : World} (h : KpI n₀ A B) (k : KpI n₀ B C) : KpI n₀ A C := ⟨h.1.trans k.1, fun i cs t fr hi h1 h2 => k.2 i cs t fr (h.2 i cs t fr hi h1 h2) h1 h2⟩
theorem KpI.of_below {n₀ : Nat} {A B : World} (hn : n₀ ≤ A.heap.size) (h : Below A.heap.size A B) : KpI n₀ A B := ⟨h.mono hn, fun k cs t fr hk _ _ => (h.block k (Array.getElem?_eq_some_iff.1 hk).1).trans hk⟩
theorem KpI.blk {n₀ : Nat} {A B : World} (h : KpI n₀ A B) {g : Nat} {t : TypeId} {cs : List Value} (hb : Blk A g t cs) (h1 : t ≠ 35) (h2 : t ≠ 40) : Blk B g t cs := h.2 g _ t _ hb h1 h2
theorem Tab.under {n₀ : Nat} {W W' : World} {g : Nat} {t : Tb} {A Af : Option Addr} {c cf : Nat} (h : Tab W g t A c Af cf) (hn : ∀ b, own3 g A c Af cf b → b < n₀) (hb : Below n₀ W W') : Tab W' g t A c Af cf :=
 h.kept (S := fun b => n₀ ≤ b) ⟨hb.os, hb.tape, hb.output, hb.size, fun k _ hk2 => hb.block k (by omega)⟩ (fun b hb' => by have := hn b hb'; omega)
/-- all that a node and those below it tell, in order -/
def allN (N : List Nd) : Nat → Nat → Option (List Itm)
 | 0, _ => none
 | f + 1, k =>
  match N[k]? with
  | none => none
  | some x => if k = 0 then some [] else
   match allN N f x.k0 with
   | none => none
   | some a =>
    match allN N f x.k1 with
    | none => none
    | some b => some ((if x.is = true then [(x.p, x.v)] else []) ++ (a ++ b))
set_option maxHeartbeats 4000000 in
theorem each9_any (g : Nat) (w : World) :
  Calls Try.prog 63 #[.pointer (some ⟨g, 0, none⟩)] w fun e w' => e = .returned (.func (.func 75) #[] #[.pointer (some ⟨w.heap.size, 0, none⟩)]) ∧ w' = w.alloc (.cells #[.pointer (some ⟨g, 0, none⟩)] 66) := by
 go_enter Try.func63, Try.ntmps63
 go_wp2
 go_ret
 exact ⟨rfl, rfl⟩

set_option maxRecDepth 100000 in
set_option maxHeartbeats 4000000 in
theorem walk_in (n₀ g t1 t2 t3 l : Nat) (t : Tb) (A Af : Option Addr) (c cf : Nat) (hTn : ∀ b, own3 g A c Af cf b → b < n₀) (B : Nat) (J Jx : List Itm → World → Prop) (hJb : ∀ s W W', J s W → Below W.heap.size W W' → J s W')
  (hY : ∀ m pre x W1, J pre W1 → x.1.fit → pre.length < B → YieldAt Fence.wide m Try.prog l #[.agg (itC x).toArray] W1 fun e W' =>
   (e = .returned (.bool true) ∧ J (pre ++ [x]) W' ∧ KpI n₀ W1 W') ∨ (e = .returned (.bool false) ∧ Jx (pre ++ [x]) W')) :
  ∀ (f k : Nat) (xs : List Itm) (hr : allN t.N f k = some xs) (n : Nat) (pre : List Itm) (W : World) (hJ : J pre W) (hlen : pre.length + xs.length ≤ B) (hn : n₀ ≤ W.heap.size) (hT : Tab W g t A c Af cf)
   (h1 : Blk W t1 66 [.pointer (some ⟨g, 0, none⟩)]) (h2 : Blk W t2 77 [.func (.yield l) #[] #[]])
   (h3 : Blk W t3 105 [.func (.func 76) #[] #[.pointer (some ⟨t1, 0, none⟩), .pointer (some ⟨t2, 0, none⟩), .pointer (some ⟨t3, 0, none⟩)]]),
   CallsIn Fence.wide n Try.prog 76 #[.int .i64 (k : Int), .pointer (some ⟨t1, 0, none⟩), .pointer (some ⟨t2, 0, none⟩), .pointer (some ⟨t3, 0, none⟩)] W fun e W' =>
    (e = .returned (.bool true) ∧ J (pre ++ xs) W' ∧ KpI n₀ W W') ∨ (e = .returned (.bool false) ∧ ∃ p, Jx p W') := by
 intro f
 induction f with
 | zero => intro k xs hr; cases hr
 | succ f ih =>
  intro k xs hr n pre W hJ hlen hn hT h1 h2 h3
  have IH := Hh ih
  have HY := Hh hY
  have HJB := Hh hJb
  have HJ := Hh hJ
  have HTN := Hh hTn
  have HT := Hh hT
  have HN := Hh hn
  have H1 := Hh h1
  have H2 := Hh h2
  have H3 := Hh h3
  have HLN := Hh hlen
  unfold allN at hr
  cases hx : t.N[k]? with
  | none => rw [hx] at hr; cases hr
  | some x =>
   rw [hx] at hr
   simp only [] at hr
   obtain ⟨bA, hA, _, hba, _, hrr, _, hk1, _⟩ := hT.node hx
   subst hA
   have HXF := Hh (hT.fit x (List.mem_of_getElem? hx))
   have HXL := Hh (x.cells_length HXF.out.addr)
   have HXR := Hh hrr
   have hlt : (k : Int) < (t.N.length : Int) := by omega
   have c0 : W.cell? ⟨t1, 0, none⟩ = some (.pointer (some ⟨g, 0, none⟩)) := h1.cell 0
   have c1 : W.cell? ⟨g, 3, none⟩ = some (.slice (some ⟨bA, 0, none⟩) t.N.length c) := hT.blk.cell 3
   clear ih hJb hY hJ hTn hT hn h1 h2 h3 hlen hx hba hrr hk1
   refine callsIn_of_wp Try.func76 rfl trivial ?_ rfl
   simp only [Try.ntmps76, List.size_toArray, List.length_cons, List.length_nil, Nat.reduceAdd, Nat.reduceSub, Array.replicate_succ, Array.replicate_zero, List.push_toArray, List.append_toArray, List.nil_append, List.cons_append]
   gi_upto_region 2 with (first
    | (refine wpListIn_val rfl (exec_load_mid 98 _ rfl bA (k * 22) (by rfl) x.cells _ HXR.out Try.underlying98 rfl (sizeNd _ HXF.out.addr)) ?_)
    | (refine wpListIn_val rfl (exec_alloc 98 rfl Nd.zero.cells zeroNd) ?_)
    | (refine wpListIn_store_all rfl 98 _ _ rfl W.heap.size x.cells rfl rfl 98 Nd.zero.cells (Blk.new W 98 _) (sizeNd _ HXF.out.addr) (by rw [HXL.out]; rfl) x.one ?_; intro W1 hk1 hg1 hs1))
   have hB1 : Below W.heap.size W W1 := bgrown (alloc_below W _) hg1 (alloc_below W _).size (Nat.le_refl _)
   obtain ⟨g6, hg6⟩ : ∃ g, W.heap.size = g := ⟨_, rfl⟩
   rw [hg6] at hk1
   try rw [hg6]
   have HK1 := Hh hk1
   have HJ1 := Hh (HJB.out _ _ _ HJ.out hB1)
   have HP1 := Hh (KpI.of_below HN.out hB1)
   clear hk1 hg1 hs1 hB1 hg6 c0 c1
   by_cases hk0 : k = 0
   ·subst hk0
    rw [if_pos rfl] at hr
    have hxs : xs = [] := by injection hr with hr; exact hr.symm
    subst hxs
    clear hr
    apply wpIn_region_lit
    refine wpListIn_valW (v := .int .i64 0) (w' := W1) (by rfl) (by simp only [execOp]; go_simp) ?_
    simp only [Act.put, List.setIfInBounds_toArray, List.set_cons_zero, List.set_cons_succ]
    refine wpListIn_valW (v := .bool true) (w' := W1) (by rfl) (by simp only [execOp]; go_simp) ?_
    simp only [Act.put, List.setIfInBounds_toArray, List.set_cons_zero, List.set_cons_succ]
    refine wpListIn_valW (v := .bool true) (w' := W1) (by rfl) (by simp only [execOp]; go_simp) ?_
    simp only [Act.put, List.setIfInBounds_toArray, List.set_cons_zero, List.set_cons_succ]
    refine wpListIn_skipW (by rfl) ?_
    simp only [Act.put, List.setIfInBounds_toArray, List.set_cons_zero, List.set_cons_succ]
    refine wpListIn_skipW (by rfl) ?_
    simp only [Act.put, List.setIfInBounds_toArray, List.set_cons_zero, List.set_cons_succ]
    refine wpListIn_skipW (by rfl) ?_
    simp only [Act.put, List.setIfInBounds_toArray, List.set_cons_zero, List.set_cons_succ]
    refine wpListIn_skipW (by rfl) ?_
    simp only [Act.put, List.setIfInBounds_toArray, List.set_cons_zero, List.set_cons_succ]
    refine wpListIn_skipW (by rfl) ?_
    simp only [Act.put, List.setIfInBounds_toArray, List.set_cons_zero, List.set_cons_succ]
    refine wpListIn_skipW (by rfl) ?_
    simp only [Act.put, List.setIfInBounds_toArray, List.set_cons_zero, List.set_cons_succ]
    refine wpListIn_skipW (by rfl) ?_
    simp only [Act.put, List.setIfInBounds_toArray, List.set_cons_zero, List.set_cons_succ]
    refine wpListIn_skipW (by rfl) ?_
    simp only [Act.put, List.setIfInBounds_toArray, List.set_cons_zero, List.set_cons_succ]
    refine wpListIn_skipW (by rfl) ?_
    simp only [Act.put, List.setIfInBounds_toArray, List.set_cons_zero, List.set_cons_succ]
    refine wpListIn_skipW (by rfl) ?_
    simp only [Act.put, List.setIfInBounds_toArray, List.set_cons_zero, List.set_cons_succ]
    refine wpListIn_skipW (by rfl) ?_
    simp only [Act.put, List.setIfInBounds_toArray, List.set_cons_zero, List.set_cons_succ]
    refine wpListIn_skipW (by rfl) ?_
    simp only [Act.put, List.setIfInBounds_toArray, List.set_cons_zero, List.set_cons_succ]
    refine wpListIn_skipW (by rfl) ?_
    simp only [Act.put, List.setIfInBounds_toArray, List.set_cons_zero, List.set_cons_succ]
    refine wpListIn_skipW (by rfl) ?_
    simp only [Act.put, List.setIfInBounds_toArray, List.set_cons_zero, List.set_cons_succ]
    refine wpListIn_skipW (by rfl) ?_
    simp only [Act.put, List.setIfInBounds_toArray, List.set_cons_zero, List.set_cons_succ]
    refine wpListIn_skipW (by rfl) ?_
    simp only [Act.put, List.setIfInBounds_toArray, List.set_cons_zero, List.set_cons_succ]
    refine wpListIn_skipW (by rfl) ?_
    simp only [Act.put, List.setIfInBounds_toArray, List.set_cons_zero, List.set_cons_succ]
    refine wpListIn_skipW (by rfl) ?_
    simp only [Act.put, List.setIfInBounds_toArray, List.set_cons_zero, List.set_cons_succ]
    refine wpListIn_skipW (by rfl) ?_
    simp only [Act.put, List.setIfInBounds_toArray, List.set_cons_zero, List.set_cons_succ]
    refine wpListIn_skipW (by rfl) ?_
    simp only [Act.put, List.setIfInBounds_toArray, List.set_cons_zero, List.set_cons_succ]
    refine wpListIn_skipW (by rfl) ?_
    simp only [Act.put, List.setIfInBounds_toArray, List.set_cons_zero, List.set_cons_succ]
    refine wpListIn_skipW (by rfl) ?_
    simp only [Act.put, List.setIfInBounds_toArray, List.set_cons_zero, List.set_cons_succ]
    refine wpListIn_skipW (by rfl) ?_
    simp only [Act.put, List.setIfInBounds_toArray, List.set_cons_zero, List.set_cons_succ]
    refine wpListIn_skipW (by rfl) ?_
    simp only [Act.put, List.setIfInBounds_toArray, List.set_cons_zero, List.set_cons_succ]
    refine wpListIn_skipW (by rfl) ?_
    simp only [Act.put, List.setIfInBounds_toArray, List.set_cons_zero, List.set_cons_succ]
    refine wpListIn_skipW (by rfl) ?_
    simp only [Act.put, List.setIfInBounds_toArray, List.set_cons_zero, List.set_cons_succ]
    refine wpListIn_valW (v := .bool true) (w' := W1) (by rfl) (by simp only [execOp]; go_simp) ?_
    simp only [Act.put, List.setIfInBounds_toArray, List.set_cons_zero, List.set_cons_succ]
    refine wpListIn_valW (v := .bool true) (w' := W1) (by rfl) (by simp only [execOp]; go_simp) ?_
    simp only [Act.put, List.setIfInBounds_toArray, List.set_cons_zero, List.set_cons_succ]
    apply wpListIn_nil
    gi_wp2
    refine bodyPost_ret (results_tmp rfl _ _ _) rfl ?_
    left
    refine ⟨rfl, ?_, HP1.out⟩
    rw [List.append_nil]; exact HJ1.out
   rw [if_neg hk0] at hr
   cases ha0 : allN t.N f x.k0 with
   | none => rw [ha0] at hr; cases hr
   | some a0 =>
    rw [ha0] at hr
    simp only [] at hr
    cases hb0 : allN t.N f x.k1 with
    | none => rw [hb0] at hr; cases hr
    | some b0 =>
     rw [hb0] at hr
     simp only [] at hr
     have HA0 := Hh ha0
     have HB0 := Hh hb0
     have HKN := Hh (show ¬ (k : Int) = 0 by omega)
     have hxs : xs = (if x.is = true then [(x.p, x.v)] else []) ++ (a0 ++ b0) := by injection hr with hr; exact hr.symm
     clear hr ha0 hb0 hk0
     cases hi : x.is
     ·rw [hi] at hxs
      simp only [Bool.false_eq_true, if_false, List.nil_append] at hxs
      have HXS := Hh hxs
      have HI := Hh hi
      clear hxs hi
      apply wpIn_region_lit
      refine wpListIn_valW (v := .int .i64 (k : Int)) (w' := W1) (by rfl) (by simp only [execOp]; go_simp) ?_
      simp only [Act.put, List.setIfInBounds_toArray, List.set_cons_zero, List.set_cons_succ]
      refine wpListIn_valW (v := .bool false) (w' := W1) (by rfl) (by have h9 := HKN.out; simp only [execOp]; go_simp; try omega) ?_
      simp only [Act.put, List.setIfInBounds_toArray, List.set_cons_zero, List.set_cons_succ]
      refine wpListIn_valW (v := .bool false) (w' := W1) (by rfl) (by simp only [execOp]; go_simp) ?_
      simp only [Act.put, List.setIfInBounds_toArray, List.set_cons_zero, List.set_cons_succ]
      refine wpListIn_valW (v := .pointer (some ⟨g6, 18, none⟩)) (w' := W1) (by rfl) (by simp only [execOp]; go_simp) ?_
      simp only [Act.put, List.setIfInBounds_toArray, List.set_cons_zero, List.set_cons_succ]
      have hc : W1.cell? ⟨g6, 18, none⟩ = some (.bool false) := (HK1.out.cell 18).trans ((x.get_is HXF.out.addr).trans (by rw [HI.out]))
      refine wpListIn_valW (v := .bool false) (w' := W1) (by rfl) (by simp only [execOp]; go_simp) ?_
      clear hc
      simp only [Act.put, List.setIfInBounds_toArray, List.set_cons_zero, List.set_cons_succ]
      refine wpListIn_valW (v := .bool true) (w' := W1) (by rfl) (by simp only [execOp]; go_simp) ?_
      simp only [Act.put, List.setIfInBounds_toArray, List.set_cons_zero, List.set_cons_succ]
      refine wpListIn_valW (v := .bool true) (w' := W1) (by rfl) (by simp only [execOp]; go_simp) ?_
      simp only [Act.put, List.setIfInBounds_toArray, List.set_cons_zero, List.set_cons_succ]
      refine wpListIn_skipW (by rfl) ?_
      simp only [Act.put, List.setIfInBounds_toArray, List.set_cons_zero, List.set_cons_succ]
      refine wpListIn_skipW (by rfl) ?_
      simp only [Act.put, List.setIfInBounds_toArray, List.set_cons_zero, List.set_cons_succ]
      refine wpListIn_skipW (by rfl) ?_
      simp only [Act.put, List.setIfInBounds_toArray, List.set_cons_zero, List.set_cons_succ]
      refine wpListIn_skipW (by rfl) ?_
      simp only [Act.put, List.setIfInBounds_toArray, List.set_cons_zero, List.set_cons_succ]
      refine wpListIn_skipW (by rfl) ?_
      simp only [Act.put, List.setIfInBounds_toArray, List.set_cons_zero, List.set_cons_succ]
      refine wpListIn_skipW (by rfl) ?_
      simp only [Act.put, List.setIfInBounds_toArray, List.set_cons_zero, List.set_cons_succ]
      refine wpListIn_skipW (by rfl) ?_
      simp only [Act.put, List.setIfInBounds_toArray, List.set_cons_zero, List.set_cons_succ]
      refine wpListIn_valW (v := .bool true) (w' := W1) (by rfl) (by simp only [execOp]; go_simp) ?_
      simp only [Act.put, List.setIfInBounds_toArray, List.set_cons_zero, List.set_cons_succ]
      refine wpListIn_valW (v := .bool true) (w' := W1) (by rfl) (by simp only [execOp]; go_simp) ?_
      simp only [Act.put, List.setIfInBounds_toArray, List.set_cons_zero, List.set_cons_succ]
      have hc : W1.cell? ⟨t3, 0, none⟩ = some (.func (.func 76) #[] #[.pointer (some ⟨t1, 0, none⟩), .pointer (some ⟨t2, 0, none⟩), .pointer (some ⟨t3, 0, none⟩)]) := (HP1.out.blk H3.out (by decide) (by decide)).cell 0
      refine wpListIn_valW (v := .func (.func 76) #[] #[.pointer (some ⟨t1, 0, none⟩), .pointer (some ⟨t2, 0, none⟩), .pointer (some ⟨t3, 0, none⟩)]) (w' := W1) (by rfl) (by simp only [execOp]; go_simp) ?_
      clear hc
      simp only [Act.put, List.setIfInBounds_toArray, List.set_cons_zero, List.set_cons_succ]
      refine wpListIn_valW (v := .pointer (some ⟨g6, 20, none⟩)) (w' := W1) (by rfl) (by simp only [execOp]; go_simp) ?_
      simp only [Act.put, List.setIfInBounds_toArray, List.set_cons_zero, List.set_cons_succ]
      refine wpListIn_valW (v := .pointer (some ⟨g6, 20, none⟩)) (w' := W1) (by rfl) (by simp only [execOp]; go_simp) ?_
      simp only [Act.put, List.setIfInBounds_toArray, List.set_cons_zero, List.set_cons_succ]
      have hc : W1.cell? ⟨g6, 20, none⟩ = some (.int .i64 ((x.k0 : Nat) : Int)) := (HK1.out.cell 20).trans (x.get_kid HXF.out.addr 0 (by omega))
      refine wpListIn_valW (v := .int .i64 ((x.k0 : Nat) : Int)) (w' := W1) (by rfl) (by simp only [execOp]; go_simp) ?_
      clear hc
      simp only [Act.put, List.setIfInBounds_toArray, List.set_cons_zero, List.set_cons_succ]
      refine wpListIn_goW (by rfl) ?_
      refine ⟨fun _ _ => trivial, ?_⟩
      go_simp
      refine ⟨fun h => by simp [Fence.wide] at h, (IH.out x.k0 a0 HA0.out _ pre W1 HJ1.out (by have h9 := HLN.out; rw [HXS.out] at h9; simp at h9 ⊢; omega) (Nat.le_trans HN.out HP1.out.1.size) (HT.out.under HTN.out HP1.out.1) (HP1.out.blk H1.out (by decide) (by decide)) (HP1.out.blk H2.out (by decide) (by decide)) (HP1.out.blk H3.out (by decide) (by decide))).mono ?_⟩
      rintro e W2 (⟨rfl, hJn, hkp⟩ | ⟨rfl, p9, hJx⟩)
      ·have HP2 := Hh (HP1.out.trans hkp)
       have HK2 := Hh (hkp.blk HK1.out (by decide) (by decide))
       have HJ2 := Hh hJn
       clear hJn hkp
       go_simp
       refine wpListIn_valW (v := .bool true) (w' := W2) (by rfl) (by simp only [execOp]; go_simp) ?_
       simp only [Act.put, List.setIfInBounds_toArray, List.set_cons_zero, List.set_cons_succ]
       refine wpListIn_valW (v := .bool true) (w' := W2) (by rfl) (by simp only [execOp]; go_simp) ?_
       simp only [Act.put, List.setIfInBounds_toArray, List.set_cons_zero, List.set_cons_succ]
       have hc : W2.cell? ⟨t3, 0, none⟩ = some (.func (.func 76) #[] #[.pointer (some ⟨t1, 0, none⟩), .pointer (some ⟨t2, 0, none⟩), .pointer (some ⟨t3, 0, none⟩)]) := (HP2.out.blk H3.out (by decide) (by decide)).cell 0
       refine wpListIn_valW (v := .func (.func 76) #[] #[.pointer (some ⟨t1, 0, none⟩), .pointer (some ⟨t2, 0, none⟩), .pointer (some ⟨t3, 0, none⟩)]) (w' := W2) (by rfl) (by simp only [execOp]; go_simp) ?_
       clear hc
       simp only [Act.put, List.setIfInBounds_toArray, List.set_cons_zero, List.set_cons_succ]
       refine wpListIn_valW (v := .pointer (some ⟨g6, 20, none⟩)) (w' := W2) (by rfl) (by simp only [execOp]; go_simp) ?_
       simp only [Act.put, List.setIfInBounds_toArray, List.set_cons_zero, List.set_cons_succ]
       refine wpListIn_valW (v := .pointer (some ⟨g6, 21, none⟩)) (w' := W2) (by rfl) (by simp only [execOp]; go_simp) ?_
       simp only [Act.put, List.setIfInBounds_toArray, List.set_cons_zero, List.set_cons_succ]
       have hc : W2.cell? ⟨g6, 21, none⟩ = some (.int .i64 ((x.k1 : Nat) : Int)) := (HK2.out.cell 21).trans (x.get_kid HXF.out.addr 1 (by omega))
       refine wpListIn_valW (v := .int .i64 ((x.k1 : Nat) : Int)) (w' := W2) (by rfl) (by simp only [execOp]; go_simp) ?_
       clear hc
       simp only [Act.put, List.setIfInBounds_toArray, List.set_cons_zero, List.set_cons_succ]
       refine wpListIn_goW (by rfl) ?_
       refine ⟨fun _ _ => trivial, ?_⟩
       go_simp
       refine ⟨fun h => by simp [Fence.wide] at h, (IH.out x.k1 b0 HB0.out _ (pre ++ a0) W2 HJ2.out (by have h9 := HLN.out; rw [HXS.out] at h9; simp at h9 ⊢; omega) (Nat.le_trans HN.out HP2.out.1.size) (HT.out.under HTN.out HP2.out.1) (HP2.out.blk H1.out (by decide) (by decide)) (HP2.out.blk H2.out (by decide) (by decide)) (HP2.out.blk H3.out (by decide) (by decide))).mono ?_⟩
       rintro e W3 (⟨rfl, hJn, hkp⟩ | ⟨rfl, p9, hJx⟩)
       ·have HP3 := Hh (HP2.out.trans hkp)
        have HK3 := Hh (hkp.blk HK2.out (by decide) (by decide))
        have HJ3 := Hh hJn
        clear hJn hkp
        go_simp
        refine wpListIn_valW (v := .bool true) (w' := W3) (by rfl) (by simp only [execOp]; go_simp) ?_
        simp only [Act.put, List.setIfInBounds_toArray, List.set_cons_zero, List.set_cons_succ]
        refine wpListIn_valW (v := .bool true) (w' := W3) (by rfl) (by simp only [execOp]; go_simp) ?_
        simp only [Act.put, List.setIfInBounds_toArray, List.set_cons_zero, List.set_cons_succ]
        refine wpListIn_valW (v := .bool true) (w' := W3) (by rfl) (by simp only [execOp]; go_simp) ?_
        simp only [Act.put, List.setIfInBounds_toArray, List.set_cons_zero, List.set_cons_succ]
        apply wpListIn_nil
        gi_wp2
        refine bodyPost_ret (results_tmp rfl _ _ _) rfl ?_
        left
        refine ⟨rfl, ?_, HP3.out⟩
        rw [HXS.out]; simpa using HJ3.out
       go_simp
       refine wpListIn_valW (v := .bool false) (w' := W3) (by rfl) (by simp only [execOp]; go_simp) ?_
       simp only [Act.put, List.setIfInBounds_toArray, List.set_cons_zero, List.set_cons_succ]
       refine wpListIn_valW (v := .bool false) (w' := W3) (by rfl) (by simp only [execOp]; go_simp) ?_
       simp only [Act.put, List.setIfInBounds_toArray, List.set_cons_zero, List.set_cons_succ]
       refine wpListIn_valW (v := .bool false) (w' := W3) (by rfl) (by simp only [execOp]; go_simp) ?_
       simp only [Act.put, List.setIfInBounds_toArray, List.set_cons_zero, List.set_cons_succ]
       apply wpListIn_nil
       gi_wp2
       refine bodyPost_ret (results_tmp rfl _ _ _) rfl ?_
       right
       exact ⟨rfl, p9, hJx⟩
      go_simp
      refine wpListIn_valW (v := .bool false) (w' := W2) (by rfl) (by simp only [execOp]; go_simp) ?_
      simp only [Act.put, List.setIfInBounds_toArray, List.set_cons_zero, List.set_cons_succ]
      refine wpListIn_valW (v := .bool false) (w' := W2) (by rfl) (by simp only [execOp]; go_simp) ?_
      simp only [Act.put, List.setIfInBounds_toArray, List.set_cons_zero, List.set_cons_succ]
      refine wpListIn_skipW (by rfl) ?_
      simp only [Act.put, List.setIfInBounds_toArray, List.set_cons_zero, List.set_cons_succ]
      refine wpListIn_skipW (by rfl) ?_
      simp only [Act.put, List.setIfInBounds_toArray, List.set_cons_zero, List.set_cons_succ]
      refine wpListIn_skipW (by rfl) ?_
      simp only [Act.put, List.setIfInBounds_toArray, List.set_cons_zero, List.set_cons_succ]
      refine wpListIn_skipW (by rfl) ?_
      simp only [Act.put, List.setIfInBounds_toArray, List.set_cons_zero, List.set_cons_succ]
      refine wpListIn_skipW (by rfl) ?_
      simp only [Act.put, List.setIfInBounds_toArray, List.set_cons_zero, List.set_cons_succ]
      refine wpListIn_valW (v := .bool false) (w' := W2) (by rfl) (by simp only [execOp]; go_simp) ?_
      simp only [Act.put, List.setIfInBounds_toArray, List.set_cons_zero, List.set_cons_succ]
      refine wpListIn_valW (v := .bool false) (w' := W2) (by rfl) (by simp only [execOp]; go_simp) ?_
      simp only [Act.put, List.setIfInBounds_toArray, List.set_cons_zero, List.set_cons_succ]
      refine wpListIn_valW (v := .bool false) (w' := W2) (by rfl) (by simp only [execOp]; go_simp) ?_
      simp only [Act.put, List.setIfInBounds_toArray, List.set_cons_zero, List.set_cons_succ]
      apply wpListIn_nil
      gi_wp2
      refine bodyPost_ret (results_tmp rfl _ _ _) rfl ?_
      right
      exact ⟨rfl, p9, hJx⟩
     rw [hi] at hxs
     simp only [if_true] at hxs
     have HXS := Hh hxs
     have HI := Hh hi
     clear hxs hi
     apply wpIn_region_lit
     refine wpListIn_valW (v := .int .i64 (k : Int)) (w' := W1) (by rfl) (by simp only [execOp]; go_simp) ?_
     simp only [Act.put, List.setIfInBounds_toArray, List.set_cons_zero, List.set_cons_succ]
     refine wpListIn_valW (v := .bool false) (w' := W1) (by rfl) (by have h9 := HKN.out; simp only [execOp]; go_simp; try omega) ?_
     simp only [Act.put, List.setIfInBounds_toArray, List.set_cons_zero, List.set_cons_succ]
     refine wpListIn_valW (v := .bool false) (w' := W1) (by rfl) (by simp only [execOp]; go_simp) ?_
     simp only [Act.put, List.setIfInBounds_toArray, List.set_cons_zero, List.set_cons_succ]
     refine wpListIn_valW (v := .pointer (some ⟨g6, 18, none⟩)) (w' := W1) (by rfl) (by simp only [execOp]; go_simp) ?_
     simp only [Act.put, List.setIfInBounds_toArray, List.set_cons_zero, List.set_cons_succ]
     have hc : W1.cell? ⟨g6, 18, none⟩ = some (.bool true) := (HK1.out.cell 18).trans ((x.get_is HXF.out.addr).trans (by rw [HI.out]))
     refine wpListIn_valW (v := .bool true) (w' := W1) (by rfl) (by simp only [execOp]; go_simp) ?_
     clear hc
     simp only [Act.put, List.setIfInBounds_toArray, List.set_cons_zero, List.set_cons_succ]
     refine wpListIn_valW (v := .bool false) (w' := W1) (by rfl) (by simp only [execOp]; go_simp) ?_
     simp only [Act.put, List.setIfInBounds_toArray, List.set_cons_zero, List.set_cons_succ]
     refine wpListIn_valW (v := .bool false) (w' := W1) (by rfl) (by simp only [execOp]; go_simp) ?_
     simp only [Act.put, List.setIfInBounds_toArray, List.set_cons_zero, List.set_cons_succ]
     have hc : W1.cell? ⟨t2, 0, none⟩ = some (.func (.yield l) #[] #[]) := (HP1.out.blk H2.out (by decide) (by decide)).cell 0
     refine wpListIn_valW (v := .func (.yield l) #[] #[]) (w' := W1) (by rfl) (by simp only [execOp]; go_simp) ?_
     clear hc
     simp only [Act.put, List.setIfInBounds_toArray, List.set_cons_zero, List.set_cons_succ]
     refine wpListIn_valW (v := .pointer (some ⟨g6, 0, none⟩)) (w' := W1) (by rfl) (by simp only [execOp]; go_simp) ?_
     simp only [Act.put, List.setIfInBounds_toArray, List.set_cons_zero, List.set_cons_succ]
     refine wpListIn_valW (v := .agg x.p.cells.toArray) (w' := W1) (by rfl) (by exact exec_load_mid 30 _ rfl g6 0 (by rfl) x.p.cells _ (Nd.px_range (show W1.rangeAt g6 0 x.cells from fun j u hu => by rw [Nat.zero_add]; exact (HK1.out.cell j).trans hu)) Try.underlying30 rfl (sizePx _ HXF.out.addr)) ?_
     simp only [Act.put, List.setIfInBounds_toArray, List.set_cons_zero, List.set_cons_succ]
     refine wpListIn_valW (v := .pointer (some ⟨g6, 19, none⟩)) (w' := W1) (by rfl) (by simp only [execOp]; go_simp) ?_
     simp only [Act.put, List.setIfInBounds_toArray, List.set_cons_zero, List.set_cons_succ]
     have hc : W1.cell? ⟨g6, 19, none⟩ = some (.int .i64 x.v) := (HK1.out.cell 19).trans (x.get_v HXF.out.addr)
     refine wpListIn_valW (v := .int .i64 x.v) (w' := W1) (by rfl) (by simp only [execOp]; go_simp) ?_
     clear hc
     simp only [Act.put, List.setIfInBounds_toArray, List.set_cons_zero, List.set_cons_succ]
     refine wpListIn_valW (v := .agg (itC (x.p, x.v)).toArray) (w' := W1) (by rfl) (by exact exec_buildIt _ _ rfl x.p HXF.out.addr x.v (by rfl) (by rfl)) ?_
     simp only [Act.put, List.setIfInBounds_toArray, List.set_cons_zero, List.set_cons_succ]
     refine wpListIn_goW (by rfl) ?_
     obtain ⟨fn, tmps, assign, bodyC, hy, hR⟩ := HY.out (n - 1) pre (x.p, x.v) W1 HJ1.out HXF.out (by have h9 := HLN.out; rw [HXS.out] at h9; simp at h9; omega)
     refine ⟨fun _ _ => trivial, ?_⟩
     go_simp
     refine ⟨fun h => by simp [Fence.wide] at h, hR.mono ?_⟩
     rintro e W2 (⟨rfl, hJn, hkp⟩ | ⟨rfl, hJx⟩)
     ·have HP2 := Hh (HP1.out.trans hkp)
      have HK2 := Hh (hkp.blk HK1.out (by decide) (by decide))
      have HJ2 := Hh hJn
      clear hJn hkp
      go_simp
      refine wpListIn_valW (v := .bool true) (w' := W2) (by rfl) (by simp only [execOp]; go_simp) ?_
      simp only [Act.put, List.setIfInBounds_toArray, List.set_cons_zero, List.set_cons_succ]
      refine wpListIn_valW (v := .bool true) (w' := W2) (by rfl) (by simp only [execOp]; go_simp) ?_
      simp only [Act.put, List.setIfInBounds_toArray, List.set_cons_zero, List.set_cons_succ]
      have hc : W2.cell? ⟨t3, 0, none⟩ = some (.func (.func 76) #[] #[.pointer (some ⟨t1, 0, none⟩), .pointer (some ⟨t2, 0, none⟩), .pointer (some ⟨t3, 0, none⟩)]) := (HP2.out.blk H3.out (by decide) (by decide)).cell 0
      refine wpListIn_valW (v := .func (.func 76) #[] #[.pointer (some ⟨t1, 0, none⟩), .pointer (some ⟨t2, 0, none⟩), .pointer (some ⟨t3, 0, none⟩)]) (w' := W2) (by rfl) (by simp only [execOp]; go_simp) ?_
      clear hc
      simp only [Act.put, List.setIfInBounds_toArray, List.set_cons_zero, List.set_cons_succ]
      refine wpListIn_valW (v := .pointer (some ⟨g6, 20, none⟩)) (w' := W2) (by rfl) (by simp only [execOp]; go_simp) ?_
      simp only [Act.put, List.setIfInBounds_toArray, List.set_cons_zero, List.set_cons_succ]
      refine wpListIn_valW (v := .pointer (some ⟨g6, 20, none⟩)) (w' := W2) (by rfl) (by simp only [execOp]; go_simp) ?_
      simp only [Act.put, List.setIfInBounds_toArray, List.set_cons_zero, List.set_cons_succ]
      have hc : W2.cell? ⟨g6, 20, none⟩ = some (.int .i64 ((x.k0 : Nat) : Int)) := (HK2.out.cell 20).trans (x.get_kid HXF.out.addr 0 (by omega))
      refine wpListIn_valW (v := .int .i64 ((x.k0 : Nat) : Int)) (w' := W2) (by rfl) (by simp only [execOp]; go_simp) ?_
      clear hc
      simp only [Act.put, List.setIfInBounds_toArray, List.set_cons_zero, List.set_cons_succ]
      refine wpListIn_goW (by rfl) ?_
      refine ⟨fun _ _ => trivial, ?_⟩
      go_simp
      refine ⟨fun h => by simp [Fence.wide] at h, (IH.out x.k0 a0 HA0.out _ (pre ++ [(x.p, x.v)]) W2 HJ2.out (by have h9 := HLN.out; rw [HXS.out] at h9; simp at h9 ⊢; omega) (Nat.le_trans HN.out HP2.out.1.size) (HT.out.under HTN.out HP2.out.1) (HP2.out.blk H1.out (by decide) (by decide)) (HP2.out.blk H2.out (by decide) (by decide)) (HP2.out.blk H3.out (by decide) (by decide))).mono ?_⟩
      rintro e W3 (⟨rfl, hJn, hkp⟩ | ⟨rfl, p9, hJx⟩)
      ·have HP3 := Hh (HP2.out.trans hkp)
       have HK3 := Hh (hkp.blk HK2.out (by decide) (by decide))
       have HJ3 := Hh hJn
       clear hJn hkp
       go_simp
       refine wpListIn_valW (v := .bool true) (w' := W3) (by rfl) (by simp only [execOp]; go_simp) ?_
       simp only [Act.put, List.setIfInBounds_toArray, List.set_cons_zero, List.set_cons_succ]
       refine wpListIn_valW (v := .bool true) (w' := W3) (by rfl) (by simp only [execOp]; go_simp) ?_
       simp only [Act.put, List.setIfInBounds_toArray, List.set_cons_zero, List.set_cons_succ]
       have hc : W3.cell? ⟨t3, 0, none⟩ = some (.func (.func 76) #[] #[.pointer (some ⟨t1, 0, none⟩), .pointer (some ⟨t2, 0, none⟩), .pointer (some ⟨t3, 0, none⟩)]) := (HP3.out.blk H3.out (by decide) (by decide)).cell 0
       refine wpListIn_valW (v := .func (.func 76) #[] #[.pointer (some ⟨t1, 0, none⟩), .pointer (some ⟨t2, 0, none⟩), .pointer (some ⟨t3, 0, none⟩)]) (w' := W3) (by rfl) (by simp only [execOp]; go_simp) ?_
       clear hc
       simp only [Act.put, List.setIfInBounds_toArray, List.set_cons_zero, List.set_cons_succ]
       refine wpListIn_valW (v := .pointer (some ⟨g6, 20, none⟩)) (w' := W3) (by rfl) (by simp only [execOp]; go_simp) ?_
       simp only [Act.put, List.setIfInBounds_toArray, List.set_cons_zero, List.set_cons_succ]
       refine wpListIn_valW (v := .pointer (some ⟨g6, 21, none⟩)) (w' := W3) (by rfl) (by simp only [execOp]; go_simp) ?_
       simp only [Act.put, List.setIfInBounds_toArray, List.set_cons_zero, List.set_cons_succ]
       have hc : W3.cell? ⟨g6, 21, none⟩ = some (.int .i64 ((x.k1 : Nat) : Int)) := (HK3.out.cell 21).trans (x.get_kid HXF.out.addr 1 (by omega))
       refine wpListIn_valW (v := .int .i64 ((x.k1 : Nat) : Int)) (w' := W3) (by rfl) (by simp only [execOp]; go_simp) ?_
       clear hc
       simp only [Act.put, List.setIfInBounds_toArray, List.set_cons_zero, List.set_cons_succ]
       refine wpListIn_goW (by rfl) ?_
       refine ⟨fun _ _ => trivial, ?_⟩
       go_simp
       refine ⟨fun h => by simp [Fence.wide] at h, (IH.out x.k1 b0 HB0.out _ ((pre ++ [(x.p, x.v)]) ++ a0) W3 HJ3.out (by have h9 := HLN.out; rw [HXS.out] at h9; simp at h9 ⊢; omega) (Nat.le_trans HN.out HP3.out.1.size) (HT.out.under HTN.out HP3.out.1) (HP3.out.blk H1.out (by decide) (by decide)) (HP3.out.blk H2.out (by decide) (by decide)) (HP3.out.blk H3.out (by decide) (by decide))).mono ?_⟩
       rintro e W4 (⟨rfl, hJn, hkp⟩ | ⟨rfl, p9, hJx⟩)
       ·have HP4 := Hh (HP3.out.trans hkp)
        have HK4 := Hh (hkp.blk HK3.out (by decide) (by decide))
        have HJ4 := Hh hJn
        clear hJn hkp
        go_simp
        refine wpListIn_valW (v := .bool true) (w' := W4) (by rfl) (by simp only [execOp]; go_simp) ?_
        simp only [Act.put, List.setIfInBounds_toArray, List.set_cons_zero, List.set_cons_succ]
        refine wpListIn_valW (v := .bool true) (w' := W4) (by rfl) (by simp only [execOp]; go_simp) ?_
        simp only [Act.put, List.setIfInBounds_toArray, List.set_cons_zero, List.set_cons_succ]
        refine wpListIn_valW (v := .bool true) (w' := W4) (by rfl) (by simp only [execOp]; go_simp) ?_
        simp only [Act.put, List.setIfInBounds_toArray, List.set_cons_zero, List.set_cons_succ]
        apply wpListIn_nil
        gi_wp2
        refine bodyPost_ret (results_tmp rfl _ _ _) rfl ?_
        left
        refine ⟨rfl, ?_, HP4.out⟩
        rw [HXS.out]; simpa using HJ4.out
       go_simp
       refine wpListIn_valW (v := .bool false) (w' := W4) (by rfl) (by simp only [execOp]; go_simp) ?_
       simp only [Act.put, List.setIfInBounds_toArray, List.set_cons_zero, List.set_cons_succ]
       refine wpListIn_valW (v := .bool false) (w' := W4) (by rfl) (by simp only [execOp]; go_simp) ?_
       simp only [Act.put, List.setIfInBounds_toArray, List.set_cons_zero, List.set_cons_succ]
       refine wpListIn_valW (v := .bool false) (w' := W4) (by rfl) (by simp only [execOp]; go_simp) ?_
       simp only [Act.put, List.setIfInBounds_toArray, List.set_cons_zero, List.set_cons_succ]
       apply wpListIn_nil
       gi_wp2
       refine bodyPost_ret (results_tmp rfl _ _ _) rfl ?_
       right
       exact ⟨rfl, p9, hJx⟩
      go_simp
      refine wpListIn_valW (v := .bool false) (w' := W3) (by rfl) (by simp only [execOp]; go_simp) ?_
      simp only [Act.put, List.setIfInBounds_toArray, List.set_cons_zero, List.set_cons_succ]
      refine wpListIn_valW (v := .bool false) (w' := W3) (by rfl) (by simp only [execOp]; go_simp) ?_
      simp only [Act.put, List.setIfInBounds_toArray, List.set_cons_zero, List.set_cons_succ]
      refine wpListIn_skipW (by rfl) ?_
      simp only [Act.put, List.setIfInBounds_toArray, List.set_cons_zero, List.set_cons_succ]
      refine wpListIn_skipW (by rfl) ?_
      simp only [Act.put, List.setIfInBounds_toArray, List.set_cons_zero, List.set_cons_succ]
      refine wpListIn_skipW (by rfl) ?_
      simp only [Act.put, List.setIfInBounds_toArray, List.set_cons_zero, List.set_cons_succ]
      refine wpListIn_skipW (by rfl) ?_
      simp only [Act.put, List.setIfInBounds_toArray, List.set_cons_zero, List.set_cons_succ]
      refine wpListIn_skipW (by rfl) ?_
      simp only [Act.put, List.setIfInBounds_toArray, List.set_cons_zero, List.set_cons_succ]
      refine wpListIn_valW (v := .bool false) (w' := W3) (by rfl) (by simp only [execOp]; go_simp) ?_
      simp only [Act.put, List.setIfInBounds_toArray, List.set_cons_zero, List.set_cons_succ]
      refine wpListIn_valW (v := .bool false) (w' := W3) (by rfl) (by simp only [execOp]; go_simp) ?_
      simp only [Act.put, List.setIfInBounds_toArray, List.set_cons_zero, List.set_cons_succ]
      refine wpListIn_valW (v := .bool false) (w' := W3) (by rfl) (by simp only [execOp]; go_simp) ?_
      simp only [Act.put, List.setIfInBounds_toArray, List.set_cons_zero, List.set_cons_succ]
      apply wpListIn_nil
      gi_wp2
      refine bodyPost_ret (results_tmp rfl _ _ _) rfl ?_
      right
      exact ⟨rfl, p9, hJx⟩
     go_simp
     refine wpListIn_valW (v := .bool false) (w' := W2) (by rfl) (by simp only [execOp]; go_simp) ?_
     simp only [Act.put, List.setIfInBounds_toArray, List.set_cons_zero, List.set_cons_succ]
     refine wpListIn_valW (v := .bool false) (w' := W2) (by rfl) (by simp only [execOp]; go_simp) ?_
     simp only [Act.put, List.setIfInBounds_toArray, List.set_cons_zero, List.set_cons_succ]
     refine wpListIn_skipW (by rfl) ?_
     simp only [Act.put, List.setIfInBounds_toArray, List.set_cons_zero, List.set_cons_succ]
     refine wpListIn_skipW (by rfl) ?_
     simp only [Act.put, List.setIfInBounds_toArray, List.set_cons_zero, List.set_cons_succ]
     refine wpListIn_skipW (by rfl) ?_
     simp only [Act.put, List.setIfInBounds_toArray, List.set_cons_zero, List.set_cons_succ]
     refine wpListIn_skipW (by rfl) ?_
     simp only [Act.put, List.setIfInBounds_toArray, List.set_cons_zero, List.set_cons_succ]
     refine wpListIn_skipW (by rfl) ?_
     simp only [Act.put, List.setIfInBounds_toArray, List.set_cons_zero, List.set_cons_succ]
     refine wpListIn_valW (v := .bool false) (w' := W2) (by rfl) (by simp only [execOp]; go_simp) ?_
     simp only [Act.put, List.setIfInBounds_toArray, List.set_cons_zero, List.set_cons_succ]
     refine wpListIn_valW (v := .bool false) (w' := W2) (by rfl) (by simp only [execOp]; go_simp) ?_
     simp only [Act.put, List.setIfInBounds_toArray, List.set_cons_zero, List.set_cons_succ]
     refine wpListIn_skipW (by rfl) ?_
     simp only [Act.put, List.setIfInBounds_toArray, List.set_cons_zero, List.set_cons_succ]
     refine wpListIn_skipW (by rfl) ?_
     simp only [Act.put, List.setIfInBounds_toArray, List.set_cons_zero, List.set_cons_succ]
     refine wpListIn_skipW (by rfl) ?_
     simp only [Act.put, List.setIfInBounds_toArray, List.set_cons_zero, List.set_cons_succ]
     refine wpListIn_skipW (by rfl) ?_
     simp only [Act.put, List.setIfInBounds_toArray, List.set_cons_zero, List.set_cons_succ]
     refine wpListIn_skipW (by rfl) ?_
     simp only [Act.put, List.setIfInBounds_toArray, List.set_cons_zero, List.set_cons_succ]
     refine wpListIn_valW (v := .bool false) (w' := W2) (by rfl) (by simp only [execOp]; go_simp) ?_
     simp only [Act.put, List.setIfInBounds_toArray, List.set_cons_zero, List.set_cons_succ]
     refine wpListIn_valW (v := .bool false) (w' := W2) (by rfl) (by simp only [execOp]; go_simp) ?_
     simp only [Act.put, List.setIfInBounds_toArray, List.set_cons_zero, List.set_cons_succ]
     refine wpListIn_valW (v := .bool false) (w' := W2) (by rfl) (by simp only [execOp]; go_simp) ?_
     simp only [Act.put, List.setIfInBounds_toArray, List.set_cons_zero, List.set_cons_succ]
     apply wpListIn_nil
     gi_wp2
     refine bodyPost_ret (results_tmp rfl _ _ _) rfl ?_
     right
     exact ⟨rfl, _, hJx⟩
end Go.Proofs.Ytdmgomknamdcfaa


/- Blocks that are known whole: structs and arrays by their cells, made, loaded, stored, in plain regions and in those that draw their order. No condition. -/
import Derived.Test.YtbabkcdhihmomaaBase
import Derived.Deep.MidRow
import Derived.Laws.IdiomCopy
import Derived.OrdersHeld
import Derived.Deep.RegionHeld
namespace Go.Proofs.Ytbabkcdhihmomaa
open Go.RowKit
set_option linter.unusedVariables false
set_option maxRecDepth 20000

/-- block g holds just the cells cs, of type t -/
def Blk (w : World) (g : Nat) (t : TypeId) (cs : List Value) : Prop := w.heap[g]? = some (.cells cs.toArray t (0, 0))

section
variable {w w' : World} {g : Nat} {t : TypeId} {cs : List Value}
theorem Blk.lt (h : Blk w g t cs) : g < w.heap.size := heap_lt h
theorem Blk.cell (h : Blk w g t cs) (j : Nat) : w.cell? ⟨g, j, none⟩ = cs[j]? := by rw [cell_at h j]; simp
theorem Blk.frozen (h : Blk w g t cs) (j : Nat) : w.frozen? ⟨g, j, none⟩ = false := frozen_at h j
theorem Blk.new (w : World) (t : TypeId) (cs : List Value) : Blk (w.alloc (.cells cs.toArray t)) w.heap.size t cs := heap_new w _ t
theorem Blk.newN (w : World) (t : TypeId) (cs : List Value) (n : Nat) (h : w.heap.size = n) : Blk (w.alloc (.cells cs.toArray t)) n t cs := by subst h; exact heap_new w _ t
theorem Blk.drew (h : Blk w g t cs) : Blk w.drew g t cs := h
theorem Blk.alloc (h : Blk w g t cs) (o : Obj) : Blk (w.alloc o) g t cs := (Below.heap_alloc w o g h.lt).trans h
theorem Blk.below {B : Nat} (h : Blk w g t cs) (hb : Below B w w') (hg : g < B) : Blk w' g t cs := (hb.block g hg).trans h
theorem Blk.on (h : Blk w g t cs) (hb : Below w.heap.size w w') : Blk w' g t cs := h.below hb h.lt
theorem Blk.grown {row : Option Nat} (h : Blk w g t cs) (hb : w.grownBy w' row) (hg : some g ≠ row) : Blk w' g t cs := (hb.block g h.lt hg).trans h
theorem Blk.set (h : Blk w g t cs) (j : Nat) (u : Value) : Blk (w.setCell ⟨g, j, none⟩ u) g t (cs.set j u) := by
  have := heap_set h j u
  unfold Blk
  rw [this]
  simp
theorem Blk.far (h : Blk w g t cs) {p : Addr} (hp : g ≠ p.block) (u : Value) : Blk (w.setCell p u) g t cs := (Below.heap_setCell w p u g hp).trans h
theorem Blk.range (h : Blk w g t cs) (o n : Nat) : w.rangeAt g o ((cs.drop o).take n) := fun j v hv => by
  rw [h.cell]
  rw [List.getElem?_take] at hv
  split at hv
  · rw [List.getElem?_drop] at hv; exact hv
  · cases hv
theorem Blk.row (h : Blk w g t cs) (sz o n : Nat) (hn : o + n * sz ≤ cs.length) : Row w w.heap.size sz (some ⟨g, o, none⟩) n ((cs.drop o).take (n * sz)) :=
  ⟨by rw [List.length_take, List.length_drop]; omega, fun _ => ⟨g, o, rfl, h.lt, fun j u hu => h.range o (n * sz) j u hu⟩⟩
theorem Blk.there (h : Blk w g t cs) (o n : Nat) (hn : o + n ≤ cs.length) : w.there g o n := fun j hj => by
  refine ⟨?_, h.frozen _⟩
  rw [h.cell, List.getElem?_eq_getElem (by omega)]
  rfl
theorem blk_setCells (new : List Value) : ∀ (o : Nat) (w : World) (cs : List Value), Blk w g t cs → o + new.length ≤ cs.length → Blk (w.setCells g o new) g t (cs.take o ++ new ++ cs.drop (o + new.length)) := by
  induction new with
  | nil =>
    intro o w cs h ho
    have e : cs.take o ++ [] ++ cs.drop (o + 0) = cs := by simp
    simp only [List.length_nil]
    rw [e]
    exact h
  | cons v new ih =>
    intro o w cs h ho
    simp only [List.length_cons] at ho
    have h1 := ih (o + 1) (w.setCell ⟨g, o, none⟩ v) (cs.set o v) (h.set o v) (by rw [List.length_set]; omega)
    have e : (cs.set o v).take (o + 1) ++ new ++ (cs.set o v).drop (o + 1 + new.length) = cs.take o ++ (v :: new) ++ cs.drop (o + (v :: new).length) := by
      have e1 : (cs.set o v).take (o + 1) = cs.take o ++ [v] := by
        rw [take_snoc (cs.set o v) o v (by rw [List.getElem?_set_self (by omega)]), List.take_set_of_le (Nat.le_refl _)]
      have e2 : (cs.set o v).drop (o + 1 + new.length) = cs.drop (o + (new.length + 1)) := by
        rw [List.drop_set_of_lt (by omega)]
        congr 1
        omega
      rw [e1, e2]
      simp
    rw [e] at h1
    exact h1
theorem grown_setCells (g : Nat) (new : List Value) : ∀ (o : Nat) (a w : World), a.grownBy w (some g) → a.grownBy (w.setCells g o new) (some g) := by
  induction new with
  | nil => exact fun _ _ _ h => h
  | cons v new ih => exact fun o a w h => ih (o + 1) a _ (grown_set h o v)
theorem size_setCells (g : Nat) (new : List Value) : ∀ (o : Nat) (w : World), (w.setCells g o new).heap.size = w.heap.size := by
  induction new with
  | nil => exact fun _ _ => rfl
  | cons v new ih => exact fun o w => (ih (o + 1) _).trans (by simp [World.setCell])
theorem alloc_below (w : World) (o : Obj) : Below w.heap.size w (w.alloc o) := (Below.refl _ _).alloc (Nat.le_refl _) o
end

section
variable {P : Program} {w : World} {ops : Array Oper} {rest : List Oper} {o : Oper} {a : Act} {Q : Exit → Act → World → Prop} {K : Act → World → Prop}
theorem wp_value {v : Value} {w' : World} (h : (execOp a.eval o).run P w = .ok (.value v) w') (hk : K (a.put o.dst v) w') : o.wp P a w K Q := by
  unfold Oper.wp
  rw [h]
  exact hk
theorem wpList_value (hgd : Region.wanted o (yielded ops a.tmps) = true) {v : Value} {w' : World} (h : (execOp a.eval o).run P w = .ok (.value v) w') (hk : wpList P ops Q rest (a.put o.dst v) w') : wpList P ops Q (o :: rest) a w :=
  wpList_wanted hgd fun _ hK => wp_value h (hK _ _ hk)

theorem exec_alloc (T : TypeId) (ho : o.op = .alloc T) (zs : List Value) (hz : ∀ w, (zeroValue T).run P w = .ok (.agg zs.toArray) w) :
    (execOp a.eval o).run P w = .ok (.value (.pointer (some ⟨w.heap.size, 0, none⟩))) (w.alloc (.cells zs.toArray T)) := by
  unfold execOp
  simp only [ho, Instr.alloc, Sem.run_bind, hz, Result.andThen_ok, newVar, newRow, Value.cells]
  rfl
theorem exec_box (T : TypeId) (x : Operand) (ho : o.op = .box T x) (cs : List Value) (hx : a.eval x = .agg cs.toArray) :
    (execOp a.eval o).run P w = .ok (.value (.pointer (some ⟨w.heap.size, 0, none⟩))) (w.alloc (.cells cs.toArray T)) := by
  unfold execOp
  simp only [ho, hx, Instr.box, Sem.run_bind, newVar, newRow, Value.cells]
  rfl
theorem exec_load (ty : TypeId) (x : Operand) (ho : o.op = .load ty x) (g : Nat) (hx : a.eval x = .pointer (some ⟨g, 0, none⟩)) (t : TypeId) (cs : List Value) (d : TypeDesc) (hb : Blk w g t cs)
    (hu : P.underlying ty = some d) (hd : (match d with | .struct _ | .array _ _ => true | _ => false) = true) (hi : (P.info? ty).map (·.size) = some cs.length) :
    (execOp a.eval o).run P w = .ok (.value (.agg cs.toArray)) w := by
  unfold execOp
  simp only [ho, hx, Instr.loadAt, Instr.sureAddr, Sem.run_bind, Sem.run_pure, Result.andThen_ok, run_loadVar_row w g t ty cs.toArray (0, 0) d hb hu hd (by simpa using hi)]
theorem exec_load_mid (ty : TypeId) (x : Operand) (ho : o.op = .load ty x) (b off : Nat) (hx : a.eval x = .pointer (some ⟨b, off, none⟩)) (cs : List Value) (d : TypeDesc) (hc : w.rangeAt b off cs)
    (hu : P.underlying ty = some d) (hd : d.isRow = true) (hi : (P.info? ty).map (·.size) = some cs.length) :
    (execOp a.eval o).run P w = .ok (.value (.agg cs.toArray)) w := by
  unfold execOp
  simp only [ho, hx, Sem.run_bind, Sem.run_pure, Result.andThen_ok, run_loadAt_mid w b off ty cs d hc hu hd hi]
theorem run_store_blk (ty : TypeId) (g off : Nat) (new : List Value) (t : TypeId) (cs : List Value) (hb : Blk w g t cs) (hi : (P.info? ty).map (·.size) = some new.length) (hoff : off + new.length ≤ cs.length) (h1 : ∀ v ∈ new, v.oneCell' = true) :
    (Instr.storeAt ty (.pointer (some ⟨g, off, none⟩)) (.agg new.toArray)).run P w = .ok () (w.setCells g off new) := by
  have := run_storeAt_mid (P := P) w g off ty new.toArray (by simpa using hb.there off new.length hoff) (by simpa using hi) (all_oneCell_toArray h1)
  simpa using this
theorem wp_store_blk (ty : TypeId) (x y : Operand) (ho : o.op = .store ty x y) (g off : Nat) (new : List Value) (hx : a.eval x = .pointer (some ⟨g, off, none⟩)) (hy : a.eval y = .agg new.toArray)
    (t : TypeId) (cs : List Value) (hb : Blk w g t cs) (hi : (P.info? ty).map (·.size) = some new.length) (hoff : off + new.length ≤ cs.length) (h1 : ∀ v ∈ new, v.oneCell' = true)
    (h : ∀ w', Blk w' g t (cs.take off ++ new ++ cs.drop (off + new.length)) → w.grownBy w' (some g) → w'.heap.size = w.heap.size → K (a.put o.dst undef) w') : o.wp P a w K Q := by
  unfold Oper.wp execOp
  simp only [ho, hx, hy, Sem.run_bind, Sem.run_pure, run_store_blk ty g off new t cs hb hi hoff h1, Result.andThen_ok]
  exact (h _ (blk_setCells new off w cs hb hoff) (grown_setCells g new off w w (grown_refl w _)) (size_setCells g new off w))

theorem run_arrayAt (t e : TypeId) (n : Nat) (ht : P.underlying t = some (.array n e)) (a : Addr) (len cap : Nat) (hn : n ≤ len) (w : World) : (Instr.arrayAt t (.slice (some a) len cap)).run P w = .ok (.pointer (some a)) w := by
  have h : ¬ len < n := by omega
  unfold Instr.arrayAt
  simp [run_underlying ht, h]
theorem wp_store_all (ty : TypeId) (x y : Operand) (ho : o.op = .store ty x y) (g : Nat) (new : List Value) (hx : a.eval x = .pointer (some ⟨g, 0, none⟩)) (hy : a.eval y = .agg new.toArray)
    (t : TypeId) (cs : List Value) (hb : Blk w g t cs) (hi : (P.info? ty).map (·.size) = some new.length) (hl : new.length = cs.length) (h1 : ∀ v ∈ new, v.oneCell' = true)
    (h : ∀ w', Blk w' g t new → w.grownBy w' (some g) → w'.heap.size = w.heap.size → K (a.put o.dst undef) w') : o.wp P a w K Q :=
  wp_store_blk ty x y ho g 0 new hx hy t cs hb hi (by omega) h1 (fun w' hb' hg hs => h w' (by
    have e : cs.take 0 ++ new ++ cs.drop (0 + new.length) = new := by rw [List.drop_of_length_le (by omega)]; simp
    rw [e] at hb'
    exact hb') hg hs)
theorem wp_alloc_blk (T : TypeId) (ho : o.op = .alloc T) (zs : List Value) (hz : ∀ w, (zeroValue T).run P w = .ok (.agg zs.toArray) w)
    (h : ∀ g w', Blk w' g T zs → Below w.heap.size w w' → w'.heap.size = w.heap.size + 1 → g = w.heap.size → K (a.put o.dst (.pointer (some ⟨g, 0, none⟩))) w') : o.wp P a w K Q :=
  wp_value (exec_alloc T ho zs hz) (h _ _ (Blk.new w T zs) (alloc_below w _) (by simp) rfl)
theorem wpList_alloc_blk (hgd : Region.wanted o (yielded ops a.tmps) = true) (T : TypeId) (ho : o.op = .alloc T) (zs : List Value) (hz : ∀ w, (zeroValue T).run P w = .ok (.agg zs.toArray) w)
    (h : ∀ w', Blk w' w.heap.size T zs → Below w.heap.size w w' → w'.heap.size = w.heap.size + 1 → wpList P ops Q rest (a.put o.dst (.pointer (some ⟨w.heap.size, 0, none⟩))) w') : wpList P ops Q (o :: rest) a w :=
  wpList_value hgd (exec_alloc T ho zs hz) (h _ (Blk.new w T zs) (alloc_below w _) (by simp))
theorem wpList_box_blk (hgd : Region.wanted o (yielded ops a.tmps) = true) (T : TypeId) (x : Operand) (ho : o.op = .box T x) (cs : List Value) (hx : a.eval x = .agg cs.toArray)
    (h : ∀ w', Blk w' w.heap.size T cs → Below w.heap.size w w' → w'.heap.size = w.heap.size + 1 → wpList P ops Q rest (a.put o.dst (.pointer (some ⟨w.heap.size, 0, none⟩))) w') : wpList P ops Q (o :: rest) a w :=
  wpList_value hgd (exec_box T x ho cs hx) (h _ (Blk.new w T cs) (alloc_below w _) (by simp))
theorem wpList_load_blk (hgd : Region.wanted o (yielded ops a.tmps) = true) (ty : TypeId) (x : Operand) (ho : o.op = .load ty x) (g : Nat) (hx : a.eval x = .pointer (some ⟨g, 0, none⟩)) (t : TypeId) (cs : List Value) (d : TypeDesc) (hb : Blk w g t cs)
    (hu : P.underlying ty = some d) (hd : (match d with | .struct _ | .array _ _ => true | _ => false) = true) (hi : (P.info? ty).map (·.size) = some cs.length)
    (h : wpList P ops Q rest (a.put o.dst (.agg cs.toArray)) w) : wpList P ops Q (o :: rest) a w :=
  wpList_value hgd (exec_load ty x ho g hx t cs d hb hu hd hi) h
theorem wpList_load_midB (hgd : Region.wanted o (yielded ops a.tmps) = true) (ty : TypeId) (x : Operand) (ho : o.op = .load ty x) (b off : Nat) (hx : a.eval x = .pointer (some ⟨b, off, none⟩)) (cs : List Value) (d : TypeDesc) (hc : w.rangeAt b off cs)
    (hu : P.underlying ty = some d) (hd : d.isRow = true) (hi : (P.info? ty).map (·.size) = some cs.length)
    (h : wpList P ops Q rest (a.put o.dst (.agg cs.toArray)) w) : wpList P ops Q (o :: rest) a w :=
  wpList_value hgd (exec_load_mid ty x ho b off hx cs d hc hu hd hi) h
/-- a store of all cells of a block -/
theorem wpList_store_all (hgd : Region.wanted o (yielded ops a.tmps) = true) (ty : TypeId) (x y : Operand) (ho : o.op = .store ty x y) (g : Nat) (new : List Value) (hx : a.eval x = .pointer (some ⟨g, 0, none⟩)) (hy : a.eval y = .agg new.toArray)
    (t : TypeId) (cs : List Value) (hb : Blk w g t cs) (hi : (P.info? ty).map (·.size) = some new.length) (hl : new.length = cs.length) (h1 : ∀ v ∈ new, v.oneCell' = true)
    (h : ∀ w', Blk w' g t new → w.grownBy w' (some g) → w'.heap.size = w.heap.size → wpList P ops Q rest (a.put o.dst undef) w') : wpList P ops Q (o :: rest) a w :=
  wpList_wanted hgd fun _ hK => wp_store_blk ty x y ho g 0 new hx hy t cs hb hi (by omega) h1 (fun w' hb' hg hs => hK _ _ (h w' (by
    have e : cs.take 0 ++ new ++ cs.drop (0 + new.length) = new := by rw [List.drop_of_length_le (by omega)]; simp
    rw [e] at hb'
    exact hb') hg hs))
/-- a store of an array's cells into the midst of a block -/
theorem wpList_store_blk (hgd : Region.wanted o (yielded ops a.tmps) = true) (ty : TypeId) (x y : Operand) (ho : o.op = .store ty x y) (g off : Nat) (new : List Value) (hx : a.eval x = .pointer (some ⟨g, off, none⟩)) (hy : a.eval y = .agg new.toArray)
    (t : TypeId) (cs : List Value) (hb : Blk w g t cs) (hi : (P.info? ty).map (·.size) = some new.length) (hoff : off + new.length ≤ cs.length) (h1 : ∀ v ∈ new, v.oneCell' = true)
    (h : ∀ w', Blk w' g t (cs.take off ++ new ++ cs.drop (off + new.length)) → w.grownBy w' (some g) → w'.heap.size = w.heap.size → wpList P ops Q rest (a.put o.dst undef) w') : wpList P ops Q (o :: rest) a w :=
  wpList_wanted hgd fun _ hK => wp_store_blk ty x y ho g off new hx hy t cs hb hi hoff h1 (fun w' hb' hg hs => hK _ _ (h w' hb' hg hs))
end

theorem results_cell2 {P : Program} {fn : Func} {p u : Tmp} {ty : TypeId} (h : fn.results = #[.cell p ty, .tmp u]) (tmps : Array Value) (w : World) (g : Nat) (cs : List Value) (t : TypeId) (d : TypeDesc) (hp : tmps.getD p undef = .pointer (some ⟨g, 0, none⟩)) (hb : Blk w g t cs)
    (hu : P.underlying ty = some d) (hd : (match d with | .struct _ | .array _ _ => true | _ => false) = true) (hi : (P.info? ty).map (·.size) = some cs.length) : (results fn tmps).run P w = .ok (.tuple #[.agg cs.toArray, tmps.getD u undef]) w := by
  have hp' : (tmps[p]?).getD undef = .pointer (some ⟨g, 0, none⟩) := by simpa using hp
  simp [results, h, hp', asAddr, run_loadVar_row w g t ty cs.toArray (0, 0) d hb hu hd (by simpa using hi)]
theorem results_cell1 {P : Program} {fn : Func} {p : Tmp} {ty : TypeId} (h : fn.results = #[.cell p ty]) (tmps : Array Value) (w : World) (g : Nat) (cs : List Value) (t : TypeId) (d : TypeDesc) (hp : tmps.getD p undef = .pointer (some ⟨g, 0, none⟩)) (hb : Blk w g t cs)
    (hu : P.underlying ty = some d) (hd : (match d with | .struct _ | .array _ _ => true | _ => false) = true) (hi : (P.info? ty).map (·.size) = some cs.length) : (results fn tmps).run P w = .ok (.agg cs.toArray) w := by
  have hp' : (tmps[p]?).getD undef = .pointer (some ⟨g, 0, none⟩) := by simpa using hp
  simp [results, h, hp', asAddr, run_loadVar_row w g t ty cs.toArray (0, 0) d hb hu hd (by simpa using hi)]

/-! a region that draws its order, one move at a time: S: what was there is as it was -/
section
variable {P : Program} {ops : Array Oper} {Q : Exit → Act → World → Prop} {md : Region.Mode} {S : World → Prop} {fuel : Nat} {listed : Array Bool} {a : Act} {w : World}
theorem rg_take (i : Nat) (d : Option Tmp) {oi : Oper} {v : Value} (hi : ops[i]? = some oi) (hs : Region.noSelect ops = true) (hf : Region.free md ops listed i = true) (hr : (Region.ready md ops listed).contains i = true)
    (hd : oi.dst = d) (hw : Region.wanted oi (yielded ops a.tmps) = true) (hv : ∀ w, S w → (execOp a.eval oi).run P w = .ok (.value v) w) (hQ : ∀ c a w, Q (.panic c) (a.put d v) w → Q (.panic c) a w) (hS : S w)
    (h : wpAnyH P md ops Q S fuel (listed.setIfInBounds i true) (a.put d v) w) : wpAnyH P md ops Q S (fuel + 1) listed a w := by
  subst hd
  exact wpAnyH_take hi hs hf hr hQ (.inl ⟨hw, hv⟩) hS h
theorem rg_skip (i : Nat) (d : Option Tmp) {oi : Oper} (hi : ops[i]? = some oi) (hs : Region.noSelect ops = true) (hf : Region.free md ops listed i = true) (hr : (Region.ready md ops listed).contains i = true)
    (hd : oi.dst = d) (hw : Region.wanted oi (yielded ops a.tmps) = false) (hQ : ∀ c a w, Q (.panic c) (a.put d undef) w → Q (.panic c) a w) (hS : S w)
    (h : wpAnyH P md ops Q S fuel (listed.setIfInBounds i true) (a.put d undef) w) : wpAnyH P md ops Q S (fuel + 1) listed a w := by
  subst hd
  exact wpAnyH_take hi hs hf hr hQ (.inr ⟨hw, rfl⟩) hS h
/-- the only one that may come up: a call -/
theorem rg_call (i : Nat) {oi : Oper} (hr : Region.ready md ops listed = [i]) (hi : ops[i]? = some oi) (hw : Region.wanted oi (yielded ops a.tmps) = true)
    (h : ∀ K : Act → World → Prop, (∀ a w, S w → wpAnyH P md ops Q S fuel (listed.setIfInBounds i true) a w → K a w) → oi.wp P a w K Q) : wpAnyH P md ops Q S (fuel + 1) listed a w :=
  wpAnyH_ready hr (by simp) (AllReadyH.cons hi (fun K hK => by rw [if_pos hw]; exact h K (fun a w hs hW => hK.out a w hs (fun _ => hW))) AllReadyH.nil)
/-- the only one that may come up: one that leaves a value -/
theorem rg_one (i : Nat) (d : Option Tmp) {oi : Oper} (hr : Region.ready md ops listed = [i]) (hi : ops[i]? = some oi) (hd : oi.dst = d) (hw : Region.wanted oi (yielded ops a.tmps) = true)
    (h : ∀ K : Act → World → Prop, (∀ v w, S w → wpAnyH P md ops Q S fuel (listed.setIfInBounds i true) (a.put d v) w → K (a.put oi.dst v) w) → oi.wp P a w K Q) : wpAnyH P md ops Q S (fuel + 1) listed a w := by
  subst hd
  exact rg_call i hr hi hw fun K hK => h K fun v w hs hW => hK _ w hs hW
/-- two may come up: a call, and one that leaves a value -/
theorem rg_two (i j : Nat) (d : Option Tmp) {oi oj : Oper} (hr : Region.ready md ops listed = [i, j]) (hi : ops[i]? = some oi) (hj : ops[j]? = some oj) (hd : oj.dst = d) (hwi : Region.wanted oi (yielded ops a.tmps) = true) (hwj : Region.wanted oj (yielded ops a.tmps) = true)
    (h1 : ∀ K : Act → World → Prop, (∀ a w, S w → wpAnyH P md ops Q S fuel (listed.setIfInBounds i true) a w → K a w) → oi.wp P a w K Q)
    (h2 : ∀ K : Act → World → Prop, (∀ v w, S w → wpAnyH P md ops Q S fuel (listed.setIfInBounds j true) (a.put d v) w → K (a.put oj.dst v) w) → oj.wp P a w K Q) : wpAnyH P md ops Q S (fuel + 1) listed a w := by
  subst hd
  exact wpAnyH_ready hr (by simp) (AllReadyH.cons hi (fun K hK => by rw [if_pos hwi]; exact h1 K (fun a w hs hW => hK.out a w hs (fun _ => hW)))
    (AllReadyH.cons hj (fun K hK => by rw [if_pos hwj]; exact h2 K (fun v w hs hW => hK.out _ w hs (fun _ => hW))) AllReadyH.nil))
end
end Go.Proofs.Ytbabkcdhihmomaa

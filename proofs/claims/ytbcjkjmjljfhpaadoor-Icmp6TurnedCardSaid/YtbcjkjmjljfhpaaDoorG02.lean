/- Texts of this claim put together, in build order: each one's own remark stands ahead of it. -/
import Derived.Test.YtbcjkjmjljfhpaaDoorG01
import Derived.Deep.MidRow
import Derived.Laws.IdiomCopy
import Derived.OrdersHeld
import Derived.Deep.RegionHeld
import Derived.Lib.SliceRun
import Derived.BigQuiet
import Derived.Deep.QuietTactic
/- Blocks that are known whole: structs and arrays by their cells, made, loaded, stored, in plain regions and in those that draw their order. No condition. -/
namespace Go.Proofs.YtbcjkjmjljfhpaaDoor
open Go.RowKit
set_option linter.unusedVariables false
set_option maxRecDepth 20000

/-- block g holds just the cells cs, of type t -/
def Blk (w : World) (g : Nat) (t : TypeId) (cs : List Value) : Prop := w.heap[g]? = some (.cells cs.toArray t (0, 0))

section
variable {w w' : World} {g : Nat} {t : TypeId} {cs : List Value}
theorem Blk.lt (h : Blk w g t cs) : g < w.heap.size := heap_lt h
theorem Blk.cell (h : Blk w g t cs) (j : Nat) : w.cell? ⟨g, j, none⟩ = cs[j]? := by rw [cell_at h j]; simp
theorem Blk.frozen (h : Blk w g t cs) (j : Nat) : w.frozen? ⟨g, j, none⟩ = false := frozen_at h j
theorem Blk.new (w : World) (t : TypeId) (cs : List Value) : Blk (w.alloc (.cells cs.toArray t)) w.heap.size t cs := heap_new w _ t
theorem Blk.newN (w : World) (t : TypeId) (cs : List Value) (n : Nat) (h : w.heap.size = n) : Blk (w.alloc (.cells cs.toArray t)) n t cs := by subst h; exact heap_new w _ t
theorem Blk.drew (h : Blk w g t cs) : Blk w.drew g t cs := h
theorem Blk.alloc (h : Blk w g t cs) (o : Obj) : Blk (w.alloc o) g t cs := (Below.heap_alloc w o g h.lt).trans h
theorem Blk.below {B : Nat} (h : Blk w g t cs) (hb : Below B w w') (hg : g < B) : Blk w' g t cs := (hb.block g hg).trans h
theorem Blk.on (h : Blk w g t cs) (hb : Below w.heap.size w w') : Blk w' g t cs := h.below hb h.lt
theorem Blk.grown {row : Option Nat} (h : Blk w g t cs) (hb : w.grownBy w' row) (hg : some g ≠ row) : Blk w' g t cs := (hb.block g h.lt hg).trans h
theorem Blk.set (h : Blk w g t cs) (j : Nat) (u : Value) : Blk (w.setCell ⟨g, j, none⟩ u) g t (cs.set j u) := by
  have := heap_set h j u
  unfold Blk
  rw [this]
  simp
theorem Blk.far (h : Blk w g t cs) {p : Addr} (hp : g ≠ p.block) (u : Value) : Blk (w.setCell p u) g t cs := (Below.heap_setCell w p u g hp).trans h
theorem Blk.range (h : Blk w g t cs) (o n : Nat) : w.rangeAt g o ((cs.drop o).take n) := fun j v hv => by
  rw [h.cell]
  rw [List.getElem?_take] at hv
  split at hv
  · rw [List.getElem?_drop] at hv; exact hv
  · cases hv
theorem Blk.row (h : Blk w g t cs) (sz o n : Nat) (hn : o + n * sz ≤ cs.length) : Row w w.heap.size sz (some ⟨g, o, none⟩) n ((cs.drop o).take (n * sz)) :=
  ⟨by rw [List.length_take, List.length_drop]; omega, fun _ => ⟨g, o, rfl, h.lt, fun j u hu => h.range o (n * sz) j u hu⟩⟩
theorem Blk.there (h : Blk w g t cs) (o n : Nat) (hn : o + n ≤ cs.length) : w.there g o n := fun j hj => by
  refine ⟨?_, h.frozen _⟩
  rw [h.cell, List.getElem?_eq_getElem (by omega)]
  rfl
theorem blk_setCells (new : List Value) : ∀ (o : Nat) (w : World) (cs : List Value), Blk w g t cs → o + new.length ≤ cs.length → Blk (w.setCells g o new) g t (cs.take o ++ new ++ cs.drop (o + new.length)) := by
  induction new with
  | nil =>
    intro o w cs h ho
    have e : cs.take o ++ [] ++ cs.drop (o + 0) = cs := by simp
    simp only [List.length_nil]
    rw [e]
    exact h
  | cons v new ih =>
    intro o w cs h ho
    simp only [List.length_cons] at ho
    have h1 := ih (o + 1) (w.setCell ⟨g, o, none⟩ v) (cs.set o v) (h.set o v) (by rw [List.length_set]; omega)
    have e : (cs.set o v).take (o + 1) ++ new ++ (cs.set o v).drop (o + 1 + new.length) = cs.take o ++ (v :: new) ++ cs.drop (o + (v :: new).length) := by
      have e1 : (cs.set o v).take (o + 1) = cs.take o ++ [v] := by
        rw [take_snoc (cs.set o v) o v (by rw [List.getElem?_set_self (by omega)]), List.take_set_of_le (Nat.le_refl _)]
      have e2 : (cs.set o v).drop (o + 1 + new.length) = cs.drop (o + (new.length + 1)) := by
        rw [List.drop_set_of_lt (by omega)]
        congr 1
        omega
      rw [e1, e2]
      simp
    rw [e] at h1
    exact h1
theorem grown_setCells (g : Nat) (new : List Value) : ∀ (o : Nat) (a w : World), a.grownBy w (some g) → a.grownBy (w.setCells g o new) (some g) := by
  induction new with
  | nil => exact fun _ _ _ h => h
  | cons v new ih => exact fun o a w h => ih (o + 1) a _ (grown_set h o v)
theorem size_setCells (g : Nat) (new : List Value) : ∀ (o : Nat) (w : World), (w.setCells g o new).heap.size = w.heap.size := by
  induction new with
  | nil => exact fun _ _ => rfl
  | cons v new ih => exact fun o w => (ih (o + 1) _).trans (by simp [World.setCell])
theorem alloc_below (w : World) (o : Obj) : Below w.heap.size w (w.alloc o) := (Below.refl _ _).alloc (Nat.le_refl _) o
end

section
variable {P : Program} {w : World} {ops : Array Oper} {rest : List Oper} {o : Oper} {a : Act} {Q : Exit → Act → World → Prop} {K : Act → World → Prop}
theorem wp_value {v : Value} {w' : World} (h : (execOp a.eval o).run P w = .ok (.value v) w') (hk : K (a.put o.dst v) w') : o.wp P a w K Q := by
  unfold Oper.wp
  rw [h]
  exact hk
theorem wpList_value (hgd : Region.wanted o (yielded ops a.tmps) = true) {v : Value} {w' : World} (h : (execOp a.eval o).run P w = .ok (.value v) w') (hk : wpList P ops Q rest (a.put o.dst v) w') : wpList P ops Q (o :: rest) a w :=
  wpList_wanted hgd fun _ hK => wp_value h (hK _ _ hk)

theorem exec_alloc (T : TypeId) (ho : o.op = .alloc T) (zs : List Value) (hz : ∀ w, (zeroValue T).run P w = .ok (.agg zs.toArray) w) :
    (execOp a.eval o).run P w = .ok (.value (.pointer (some ⟨w.heap.size, 0, none⟩))) (w.alloc (.cells zs.toArray T)) := by
  unfold execOp
  simp only [ho, Instr.alloc, Sem.run_bind, hz, Result.andThen_ok, newVar, newRow, Value.cells]
  rfl
theorem exec_box (T : TypeId) (x : Operand) (ho : o.op = .box T x) (cs : List Value) (hx : a.eval x = .agg cs.toArray) :
    (execOp a.eval o).run P w = .ok (.value (.pointer (some ⟨w.heap.size, 0, none⟩))) (w.alloc (.cells cs.toArray T)) := by
  unfold execOp
  simp only [ho, hx, Instr.box, Sem.run_bind, newVar, newRow, Value.cells]
  rfl
theorem exec_load (ty : TypeId) (x : Operand) (ho : o.op = .load ty x) (g : Nat) (hx : a.eval x = .pointer (some ⟨g, 0, none⟩)) (t : TypeId) (cs : List Value) (d : TypeDesc) (hb : Blk w g t cs)
    (hu : P.underlying ty = some d) (hd : (match d with | .struct _ | .array _ _ => true | _ => false) = true) (hi : (P.info? ty).map (·.size) = some cs.length) :
    (execOp a.eval o).run P w = .ok (.value (.agg cs.toArray)) w := by
  unfold execOp
  simp only [ho, hx, Instr.loadAt, Instr.sureAddr, Sem.run_bind, Sem.run_pure, Result.andThen_ok, run_loadVar_row w g t ty cs.toArray (0, 0) d hb hu hd (by simpa using hi)]
theorem exec_load_mid (ty : TypeId) (x : Operand) (ho : o.op = .load ty x) (b off : Nat) (hx : a.eval x = .pointer (some ⟨b, off, none⟩)) (cs : List Value) (d : TypeDesc) (hc : w.rangeAt b off cs)
    (hu : P.underlying ty = some d) (hd : d.isRow = true) (hi : (P.info? ty).map (·.size) = some cs.length) :
    (execOp a.eval o).run P w = .ok (.value (.agg cs.toArray)) w := by
  unfold execOp
  simp only [ho, hx, Sem.run_bind, Sem.run_pure, Result.andThen_ok, run_loadAt_mid w b off ty cs d hc hu hd hi]
theorem run_store_blk (ty : TypeId) (g off : Nat) (new : List Value) (t : TypeId) (cs : List Value) (hb : Blk w g t cs) (hi : (P.info? ty).map (·.size) = some new.length) (hoff : off + new.length ≤ cs.length) (h1 : ∀ v ∈ new, v.oneCell' = true) :
    (Instr.storeAt ty (.pointer (some ⟨g, off, none⟩)) (.agg new.toArray)).run P w = .ok () (w.setCells g off new) := by
  have := run_storeAt_mid (P := P) w g off ty new.toArray (by simpa using hb.there off new.length hoff) (by simpa using hi) (all_oneCell_toArray h1)
  simpa using this
theorem wp_store_blk (ty : TypeId) (x y : Operand) (ho : o.op = .store ty x y) (g off : Nat) (new : List Value) (hx : a.eval x = .pointer (some ⟨g, off, none⟩)) (hy : a.eval y = .agg new.toArray)
    (t : TypeId) (cs : List Value) (hb : Blk w g t cs) (hi : (P.info? ty).map (·.size) = some new.length) (hoff : off + new.length ≤ cs.length) (h1 : ∀ v ∈ new, v.oneCell' = true)
    (h : ∀ w', Blk w' g t (cs.take off ++ new ++ cs.drop (off + new.length)) → w.grownBy w' (some g) → w'.heap.size = w.heap.size → K (a.put o.dst undef) w') : o.wp P a w K Q := by
  unfold Oper.wp execOp
  simp only [ho, hx, hy, Sem.run_bind, Sem.run_pure, run_store_blk ty g off new t cs hb hi hoff h1, Result.andThen_ok]
  exact (h _ (blk_setCells new off w cs hb hoff) (grown_setCells g new off w w (grown_refl w _)) (size_setCells g new off w))

theorem run_arrayAt (t e : TypeId) (n : Nat) (ht : P.underlying t = some (.array n e)) (a : Addr) (len cap : Nat) (hn : n ≤ len) (w : World) : (Instr.arrayAt t (.slice (some a) len cap)).run P w = .ok (.pointer (some a)) w := by
  have h : ¬ len < n := by omega
  unfold Instr.arrayAt
  simp [run_underlying ht, h]
theorem wp_store_all (ty : TypeId) (x y : Operand) (ho : o.op = .store ty x y) (g : Nat) (new : List Value) (hx : a.eval x = .pointer (some ⟨g, 0, none⟩)) (hy : a.eval y = .agg new.toArray)
    (t : TypeId) (cs : List Value) (hb : Blk w g t cs) (hi : (P.info? ty).map (·.size) = some new.length) (hl : new.length = cs.length) (h1 : ∀ v ∈ new, v.oneCell' = true)
    (h : ∀ w', Blk w' g t new → w.grownBy w' (some g) → w'.heap.size = w.heap.size → K (a.put o.dst undef) w') : o.wp P a w K Q :=
  wp_store_blk ty x y ho g 0 new hx hy t cs hb hi (by omega) h1 (fun w' hb' hg hs => h w' (by
    have e : cs.take 0 ++ new ++ cs.drop (0 + new.length) = new := by rw [List.drop_of_length_le (by omega)]; simp
    rw [e] at hb'
    exact hb') hg hs)
theorem wp_alloc_blk (T : TypeId) (ho : o.op = .alloc T) (zs : List Value) (hz : ∀ w, (zeroValue T).run P w = .ok (.agg zs.toArray) w)
    (h : ∀ g w', Blk w' g T zs → Below w.heap.size w w' → w'.heap.size = w.heap.size + 1 → g = w.heap.size → K (a.put o.dst (.pointer (some ⟨g, 0, none⟩))) w') : o.wp P a w K Q :=
  wp_value (exec_alloc T ho zs hz) (h _ _ (Blk.new w T zs) (alloc_below w _) (by simp) rfl)
theorem wpList_alloc_blk (hgd : Region.wanted o (yielded ops a.tmps) = true) (T : TypeId) (ho : o.op = .alloc T) (zs : List Value) (hz : ∀ w, (zeroValue T).run P w = .ok (.agg zs.toArray) w)
    (h : ∀ w', Blk w' w.heap.size T zs → Below w.heap.size w w' → w'.heap.size = w.heap.size + 1 → wpList P ops Q rest (a.put o.dst (.pointer (some ⟨w.heap.size, 0, none⟩))) w') : wpList P ops Q (o :: rest) a w :=
  wpList_value hgd (exec_alloc T ho zs hz) (h _ (Blk.new w T zs) (alloc_below w _) (by simp))
theorem wpList_box_blk (hgd : Region.wanted o (yielded ops a.tmps) = true) (T : TypeId) (x : Operand) (ho : o.op = .box T x) (cs : List Value) (hx : a.eval x = .agg cs.toArray)
    (h : ∀ w', Blk w' w.heap.size T cs → Below w.heap.size w w' → w'.heap.size = w.heap.size + 1 → wpList P ops Q rest (a.put o.dst (.pointer (some ⟨w.heap.size, 0, none⟩))) w') : wpList P ops Q (o :: rest) a w :=
  wpList_value hgd (exec_box T x ho cs hx) (h _ (Blk.new w T cs) (alloc_below w _) (by simp))
theorem wpList_load_blk (hgd : Region.wanted o (yielded ops a.tmps) = true) (ty : TypeId) (x : Operand) (ho : o.op = .load ty x) (g : Nat) (hx : a.eval x = .pointer (some ⟨g, 0, none⟩)) (t : TypeId) (cs : List Value) (d : TypeDesc) (hb : Blk w g t cs)
    (hu : P.underlying ty = some d) (hd : (match d with | .struct _ | .array _ _ => true | _ => false) = true) (hi : (P.info? ty).map (·.size) = some cs.length)
    (h : wpList P ops Q rest (a.put o.dst (.agg cs.toArray)) w) : wpList P ops Q (o :: rest) a w :=
  wpList_value hgd (exec_load ty x ho g hx t cs d hb hu hd hi) h
theorem wpList_load_midB (hgd : Region.wanted o (yielded ops a.tmps) = true) (ty : TypeId) (x : Operand) (ho : o.op = .load ty x) (b off : Nat) (hx : a.eval x = .pointer (some ⟨b, off, none⟩)) (cs : List Value) (d : TypeDesc) (hc : w.rangeAt b off cs)
    (hu : P.underlying ty = some d) (hd : d.isRow = true) (hi : (P.info? ty).map (·.size) = some cs.length)
    (h : wpList P ops Q rest (a.put o.dst (.agg cs.toArray)) w) : wpList P ops Q (o :: rest) a w :=
  wpList_value hgd (exec_load_mid ty x ho b off hx cs d hc hu hd hi) h
/-- a store of all cells of a block -/
theorem wpList_store_all (hgd : Region.wanted o (yielded ops a.tmps) = true) (ty : TypeId) (x y : Operand) (ho : o.op = .store ty x y) (g : Nat) (new : List Value) (hx : a.eval x = .pointer (some ⟨g, 0, none⟩)) (hy : a.eval y = .agg new.toArray)
    (t : TypeId) (cs : List Value) (hb : Blk w g t cs) (hi : (P.info? ty).map (·.size) = some new.length) (hl : new.length = cs.length) (h1 : ∀ v ∈ new, v.oneCell' = true)
    (h : ∀ w', Blk w' g t new → w.grownBy w' (some g) → w'.heap.size = w.heap.size → wpList P ops Q rest (a.put o.dst undef) w') : wpList P ops Q (o :: rest) a w :=
  wpList_wanted hgd fun _ hK => wp_store_blk ty x y ho g 0 new hx hy t cs hb hi (by omega) h1 (fun w' hb' hg hs => hK _ _ (h w' (by
    have e : cs.take 0 ++ new ++ cs.drop (0 + new.length) = new := by rw [List.drop_of_length_le (by omega)]; simp
    rw [e] at hb'
    exact hb') hg hs))
/-- a store of an array's cells into the midst of a block -/
theorem wpList_store_blk (hgd : Region.wanted o (yielded ops a.tmps) = true) (ty : TypeId) (x y : Operand) (ho : o.op = .store ty x y) (g off : Nat) (new : List Value) (hx : a.eval x = .pointer (some ⟨g, off, none⟩)) (hy : a.eval y = .agg new.toArray)
    (t : TypeId) (cs : List Value) (hb : Blk w g t cs) (hi : (P.info? ty).map (·.size) = some new.length) (hoff : off + new.length ≤ cs.length) (h1 : ∀ v ∈ new, v.oneCell' = true)
    (h : ∀ w', Blk w' g t (cs.take off ++ new ++ cs.drop (off + new.length)) → w.grownBy w' (some g) → w'.heap.size = w.heap.size → wpList P ops Q rest (a.put o.dst undef) w') : wpList P ops Q (o :: rest) a w :=
  wpList_wanted hgd fun _ hK => wp_store_blk ty x y ho g off new hx hy t cs hb hi hoff h1 (fun w' hb' hg hs => hK _ _ (h w' hb' hg hs))
end

theorem results_cell2 {P : Program} {fn : Func} {p u : Tmp} {ty : TypeId} (h : fn.results = #[.cell p ty, .tmp u]) (tmps : Array Value) (w : World) (g : Nat) (cs : List Value) (t : TypeId) (d : TypeDesc) (hp : tmps.getD p undef = .pointer (some ⟨g, 0, none⟩)) (hb : Blk w g t cs)
    (hu : P.underlying ty = some d) (hd : (match d with | .struct _ | .array _ _ => true | _ => false) = true) (hi : (P.info? ty).map (·.size) = some cs.length) : (results fn tmps).run P w = .ok (.tuple #[.agg cs.toArray, tmps.getD u undef]) w := by
  have hp' : (tmps[p]?).getD undef = .pointer (some ⟨g, 0, none⟩) := by simpa using hp
  simp [results, h, hp', asAddr, run_loadVar_row w g t ty cs.toArray (0, 0) d hb hu hd (by simpa using hi)]
theorem results_cell1 {P : Program} {fn : Func} {p : Tmp} {ty : TypeId} (h : fn.results = #[.cell p ty]) (tmps : Array Value) (w : World) (g : Nat) (cs : List Value) (t : TypeId) (d : TypeDesc) (hp : tmps.getD p undef = .pointer (some ⟨g, 0, none⟩)) (hb : Blk w g t cs)
    (hu : P.underlying ty = some d) (hd : (match d with | .struct _ | .array _ _ => true | _ => false) = true) (hi : (P.info? ty).map (·.size) = some cs.length) : (results fn tmps).run P w = .ok (.agg cs.toArray) w := by
  have hp' : (tmps[p]?).getD undef = .pointer (some ⟨g, 0, none⟩) := by simpa using hp
  simp [results, h, hp', asAddr, run_loadVar_row w g t ty cs.toArray (0, 0) d hb hu hd (by simpa using hi)]

/-! a region that draws its order, one move at a time: S: what was there is as it was -/
section
variable {P : Program} {ops : Array Oper} {Q : Exit → Act → World → Prop} {md : Region.Mode} {S : World → Prop} {fuel : Nat} {listed : Array Bool} {a : Act} {w : World}
theorem rg_take (i : Nat) (d : Option Tmp) {oi : Oper} {v : Value} (hi : ops[i]? = some oi) (hs : Region.noSelect ops = true) (hf : Region.free md ops listed i = true) (hr : (Region.ready md ops listed).contains i = true)
    (hd : oi.dst = d) (hw : Region.wanted oi (yielded ops a.tmps) = true) (hv : ∀ w, S w → (execOp a.eval oi).run P w = .ok (.value v) w) (hQ : ∀ c a w, Q (.panic c) (a.put d v) w → Q (.panic c) a w) (hS : S w)
    (h : wpAnyH P md ops Q S fuel (listed.setIfInBounds i true) (a.put d v) w) : wpAnyH P md ops Q S (fuel + 1) listed a w := by
  subst hd
  exact wpAnyH_take hi hs hf hr hQ (.inl ⟨hw, hv⟩) hS h
theorem rg_skip (i : Nat) (d : Option Tmp) {oi : Oper} (hi : ops[i]? = some oi) (hs : Region.noSelect ops = true) (hf : Region.free md ops listed i = true) (hr : (Region.ready md ops listed).contains i = true)
    (hd : oi.dst = d) (hw : Region.wanted oi (yielded ops a.tmps) = false) (hQ : ∀ c a w, Q (.panic c) (a.put d undef) w → Q (.panic c) a w) (hS : S w)
    (h : wpAnyH P md ops Q S fuel (listed.setIfInBounds i true) (a.put d undef) w) : wpAnyH P md ops Q S (fuel + 1) listed a w := by
  subst hd
  exact wpAnyH_take hi hs hf hr hQ (.inr ⟨hw, rfl⟩) hS h
/-- the only one that may come up: a call -/
theorem rg_call (i : Nat) {oi : Oper} (hr : Region.ready md ops listed = [i]) (hi : ops[i]? = some oi) (hw : Region.wanted oi (yielded ops a.tmps) = true)
    (h : ∀ K : Act → World → Prop, (∀ a w, S w → wpAnyH P md ops Q S fuel (listed.setIfInBounds i true) a w → K a w) → oi.wp P a w K Q) : wpAnyH P md ops Q S (fuel + 1) listed a w :=
  wpAnyH_ready hr (by simp) (AllReadyH.cons hi (fun K hK => by rw [if_pos hw]; exact h K (fun a w hs hW => hK.out a w hs (fun _ => hW))) AllReadyH.nil)
/-- the only one that may come up: one that leaves a value -/
theorem rg_one (i : Nat) (d : Option Tmp) {oi : Oper} (hr : Region.ready md ops listed = [i]) (hi : ops[i]? = some oi) (hd : oi.dst = d) (hw : Region.wanted oi (yielded ops a.tmps) = true)
    (h : ∀ K : Act → World → Prop, (∀ v w, S w → wpAnyH P md ops Q S fuel (listed.setIfInBounds i true) (a.put d v) w → K (a.put oi.dst v) w) → oi.wp P a w K Q) : wpAnyH P md ops Q S (fuel + 1) listed a w := by
  subst hd
  exact rg_call i hr hi hw fun K hK => h K fun v w hs hW => hK _ w hs hW
/-- two may come up: a call, and one that leaves a value -/
theorem rg_two (i j : Nat) (d : Option Tmp) {oi oj : Oper} (hr : Region.ready md ops listed = [i, j]) (hi : ops[i]? = some oi) (hj : ops[j]? = some oj) (hd : oj.dst = d) (hwi : Region.wanted oi (yielded ops a.tmps) = true) (hwj : Region.wanted oj (yielded ops a.tmps) = true)
    (h1 : ∀ K : Act → World → Prop, (∀ a w, S w → wpAnyH P md ops Q S fuel (listed.setIfInBounds i true) a w → K a w) → oi.wp P a w K Q)
    (h2 : ∀ K : Act → World → Prop, (∀ v w, S w → wpAnyH P md ops Q S fuel (listed.setIfInBounds j true) (a.put d v) w → K (a.put oj.dst v) w) → oj.wp P a w K Q) : wpAnyH P md ops Q S (fuel + 1) listed a w := by
  subst hd
  exact wpAnyH_ready hr (by simp) (AllReadyH.cons hi (fun K hK => by rw [if_pos hwi]; exact h1 K (fun a w hs hW => hK.out a w hs (fun _ => hW)))
    (AllReadyH.cons hj (fun K hK => by rw [if_pos hwj]; exact h2 K (fun v w hs hW => hK.out _ w hs (fun _ => hW))) AllReadyH.nil))
end
end Go.Proofs.YtbcjkjmjljfhpaaDoor

/- What the program's bytes-and-numbers functions (octet.Cut, octet.Get, octet.Put, slices.Clone) compute. No condition but sizes. -/
namespace Go.Proofs.YtbcjkjmjljfhpaaDoor
open Go.RowKit
set_option linter.unusedVariables false
set_option maxRecDepth 20000

theorem infoByte : (Tryd.prog.info? 5).map (fun i => (i.zero, i.size, i.bytes)) = some (some (.int .u8 0), 1, 1) := by kernel_rfl

set_option maxHeartbeats 400000 in
theorem clone_bytes (A : Option Addr) (n c : Nat) (l : List UInt8) (w : World) (h : Row w w.heap.size 1 A n (bv l)) (hn : n ≤ 1099511627776) :
    Calls Tryd.prog 44 #[.slice A n c] w fun e w' => ∃ A' c', e = .returned (.slice A' n c') ∧ Own w' w.heap.size 5 1 A' n c' (bv l) ∧ Below w.heap.size w w' := by
  rcases A with _ | a
  · have h0 : n = 0 := by
      rcases Nat.eq_zero_or_pos n with h0 | h0
      · exact h0
      · obtain ⟨b, o, hA, _⟩ := h.2 h0; cases hA
    subst h0
    have hl : bv l = [] := List.eq_nil_of_length_eq_zero (by simpa using h.1)
    rw [hl]
    clear hl h
    have he := fun W => Lib.run_eql_slice_nil (P := Tryd.prog) W 22 5 none 0 c 0 0 Tryd.underlying22
    go_enter Tryd.func44, Tryd.ntmps44
    go_wp2
    go_ret
    exact ⟨none, 0, rfl, Own.nil _ _ _ _ _, Below.refl _ _⟩
  · have he := fun W => Lib.run_eql_slice_nil (P := Tryd.prog) W 22 5 (some a) n c 0 0 Tryd.underlying22
    go_enter Tryd.func44, Tryd.ntmps44
    go_wp2_with (at_builtin; refine wpList_append_Own _ rfl _ _ 22 rfl w.heap.size 5 _ 1 1 Tryd.underlying22 infoByte rfl (by decide) _ 0 0 [] rfl (Own.nil _ _ _ _ _) w.heap.size (some a) n c (bv l) rfl (h.below ((Below.refl _ _).alloc (Nat.le_refl _) _)) (bv_one l) (by simp only [maxLen]; omega) (by omega) (by simp) ?_; intro A' c' w1 hown hg _)
    go_ret
    simp only [Nat.zero_add, List.nil_append] at hown
    exact ⟨A', c', by simp, hown, ((Below.refl _ _).alloc (Nat.le_refl _) _).grown hg (by simp) (by simp [blk])⟩

/-- the bytes are there -/
def There (n : Nat) (i s : Int) : Prop := 0 ≤ i ∧ 0 ≤ s ∧ i ≤ n ∧ s ≤ n - i
instance (n : Nat) (i s : Int) : Decidable (There n i s) := by unfold There; infer_instance

set_option maxHeartbeats 400000 in
theorem cut_no (A : Option Addr) (n c : Nat) (i s : Int) (w : World) (hn : n ≤ 1099511627776) (hno : ¬ There n i s) :
    Calls Tryd.prog 51 #[.slice A n c, .int .i64 i, .int .i64 s] w fun e w' => e = .returned (.tuple #[.slice none 0 0, .bool false]) ∧ w = w' := by
  by_cases h1 : i < 0
  · clear hno
    go_enter Tryd.func51, Tryd.ntmps51
    go_wp2_with fail
    go_ret2
    exact ⟨rfl, rfl⟩
  by_cases h2 : s < 0
  · clear hno
    go_enter Tryd.func51, Tryd.ntmps51
    go_wp2_with fail
    go_ret2
    exact ⟨rfl, rfl⟩
  by_cases h3 : (n : Int) < i
  · clear hno
    go_enter Tryd.func51, Tryd.ntmps51
    go_wp2_with fail
    go_ret2
    exact ⟨rfl, rfl⟩
  have h4 : (n : Int) - i < s := by unfold There at hno; omega
  clear hno
  go_enter Tryd.func51, Tryd.ntmps51
  go_wp2_with fail
  go_ret2
  exact ⟨rfl, rfl⟩

set_option maxHeartbeats 400000 in
theorem cut_yes (A : Option Addr) (n c : Nat) (l : List UInt8) (i s : Int) (w : World) (h : Row w w.heap.size 1 A n (bv l)) (hc : n ≤ c) (hcm : c ≤ maxLen) (hn : n ≤ 1099511627776) (hi : 0 ≤ i) (hs : 0 ≤ s) (hle : i + s ≤ n) :
    Calls Tryd.prog 51 #[.slice A n c, .int .i64 i, .int .i64 s] w fun e w' => ∃ A' c', e = .returned (.tuple #[.slice A' s.toNat c', .bool true]) ∧ Own w' w.heap.size 5 1 A' s.toNat c' (bv ((l.drop i.toNat).take s.toNat)) ∧ Below w.heap.size w w' := by
  obtain ⟨i, rfl⟩ := Int.eq_ofNat_of_zero_le hi
  obtain ⟨s, rfl⟩ := Int.eq_ofNat_of_zero_le hs
  simp only [Int.toNat_natCast]
  unfold maxLen at hcm
  have hle' : i + s ≤ n := by omega
  have h3 : i ≤ n := by omega
  have h4 : (s : Int) ≤ (n : Int) - (i : Int) := by omega
  clear hi hs
  by_cases hs0 : s = 0
  · subst hs0
    go_enter Tryd.func51, Tryd.ntmps51
    go_wp2_with fail
    refine (clone_bytes _ 0 _ [] _ (Row.nil _ _ _ _) (by omega)).mono ?_
    rintro e w' ⟨A', c', rfl, hown, hb⟩
    go_wp2_with fail
    go_ret2
    exact ⟨A', c', rfl, by simpa using hown, hb⟩
  · have hr := h.sub1 (i := i) (k := s) hle'
    rw [← bv_drop, ← bv_take] at hr
    have HR := Lib.hid hr
    clear hr h
    go_enter Tryd.func51, Tryd.ntmps51
    go_wp2_with fail
    refine (clone_bytes _ s _ _ _ HR.out (by omega)).mono ?_
    rintro e w' ⟨A', c', rfl, hown, hb⟩
    go_wp2_with fail
    go_ret2
    exact ⟨A', c', rfl, hown, hb⟩

/-- bytes as a number, the highest one first -/
def be (l : List UInt8) : Nat := l.foldl (fun n u => n * 256 + u.toNat) 0

set_option maxHeartbeats 400000 in
theorem get_no (A : Option Addr) (n c : Nat) (l : List UInt8) (i s : Int) (w : World) (h : Row w w.heap.size 1 A n (bv l)) (hc : n ≤ c) (hcm : c ≤ maxLen) (hn : n ≤ 1099511627776) (hno : ¬ (There n i s ∧ 1 ≤ s ∧ s ≤ 8)) :
    Calls Tryd.prog 30 #[.slice A n c, .int .i64 i, .int .i64 s] w fun e w' => e = .returned (.tuple #[.int .u64 0, .bool false]) ∧ Below w.heap.size w w' := by
  by_cases ht : There n i s
  · have H := Lib.hid ht
    obtain ⟨t1, t2, t3, t4⟩ := ht
    by_cases h1 : s < 1
    · clear hno
      go_enter Tryd.func30, Tryd.ntmps30
      go_wp2_with fail
      refine (cut_yes _ n c l _ _ _ h hc hcm hn t1 t2 (by omega)).mono ?_
      rintro e w' ⟨A', c', rfl, hown, hb⟩
      go_wp2_with fail
      go_ret2
      exact ⟨rfl, hb⟩
    · have h8 : 8 < s := Int.not_le.1 fun h8 => hno ⟨H.out, by omega, h8⟩
      clear hno
      go_enter Tryd.func30, Tryd.ntmps30
      go_wp2_with fail
      refine (cut_yes _ n c l _ _ _ h hc hcm hn t1 t2 (by omega)).mono ?_
      rintro e w' ⟨A', c', rfl, hown, hb⟩
      go_wp2_with fail
      go_ret2
      exact ⟨rfl, hb⟩
  · clear hno
    have H := Lib.hid ht
    clear ht
    go_enter Tryd.func30, Tryd.ntmps30
    go_wp2_with fail
    refine (cut_no _ n c _ _ _ hn H.out).mono ?_
    rintro e w' ⟨rfl, rfl⟩
    go_wp2_with fail
    go_ret2
    exact ⟨rfl, Below.refl _ _⟩

theorem be_snoc (l : List UInt8) (u : UInt8) : be (l ++ [u]) = be l * 256 + u.toNat := by simp [be]
theorem be_lt (l : List UInt8) : be l < 256 ^ l.length := by
  have h : ∀ k (l : List UInt8), l.length = k → be l < 256 ^ k := by
    intro k
    induction k with
    | zero => intro l hl; rw [List.eq_nil_of_length_eq_zero hl]; simp [be]
    | succ k ih =>
      intro l hl
      rcases List.eq_nil_or_concat l with rfl | ⟨r, u, rfl⟩
      · simp at hl
      · simp only [List.concat_eq_append, List.length_append, List.length_singleton] at hl ⊢
        have hr := ih r (by omega)
        have := u.toNat_lt
        rw [be_snoc, Nat.pow_succ]
        omega
  exact h _ l rfl
theorem or_join64 (a c : Int) (h0 : 0 ≤ a) (h1 : a < 72057594037927936) (h2 : 0 ≤ c) (h3 : c ≤ 255) : bits .or .u64 (a * 256) c = a * 256 + c := by
  obtain ⟨a, rfl⟩ := Int.eq_ofNat_of_zero_le h0
  obtain ⟨c, rfl⟩ := Int.eq_ofNat_of_zero_le h2
  have he : ((a : Int) * 256) = ((a * 256 : Nat) : Int) := by omega
  rw [he, u64_or_nat _ _ (by omega) (by omega), nat_join 8 _ _ (by omega) (by omega)]
  omega

set_option maxHeartbeats 400000 in
theorem get_yes (A : Option Addr) (n c : Nat) (l : List UInt8) (i s : Int) (w : World) (h : Row w w.heap.size 1 A n (bv l)) (hc : n ≤ c) (hcm : c ≤ maxLen) (hn : n ≤ 1099511627776) (hi : 0 ≤ i) (h1 : 1 ≤ s) (h8 : s ≤ 8) (hle : i + s ≤ n) :
    Calls Tryd.prog 30 #[.slice A n c, .int .i64 i, .int .i64 s] w fun e w' => e = .returned (.tuple #[.int .u64 (be ((l.drop i.toNat).take s.toNat) : Nat), .bool true]) ∧ Below w.heap.size w w' := by
  obtain ⟨s, rfl⟩ := Int.eq_ofNat_of_zero_le (show 0 ≤ s by omega)
  have hL : ((l.drop i.toNat).take s).length = s := by
    have := h.1
    rw [bv_length] at this
    simp
    omega
  go_enter Tryd.func30, Tryd.ntmps30
  go_wp2_with fail
  refine (cut_yes _ n c l _ _ _ h hc hcm hn (by omega) (by omega) (by omega)).mono ?_
  rintro e w' ⟨A', c', rfl, hown, hb⟩
  simp only [Int.toNat_natCast] at hown hL
  generalize hLe : (l.drop i.toNat).take s = L at hown hL
  have HL := Lib.hid hLe
  clear hLe
  have hrow := hown.row
  have HO := Lib.hid hown
  clear hown h
  go_wp2_with fail
  go_loop [10, 32] (fun m j => ∃ k : Nat, k ≤ s ∧ j = .int .i64 k ∧ m = .int .u64 (be (L.take k) : Nat)) (fun _ j => s - (intOf j).toNat)
  case atStart => exact ⟨0, Nat.zero_le _, rfl, by simp [be]⟩
  case round =>
    obtain ⟨k, hk, rfl, rfl⟩ := hrel
    by_cases hlt : k < s
    · obtain ⟨b, o, rfl, hbB, hcell⟩ := hrow.2 (by omega)
      obtain ⟨u, hu⟩ := get_ex L (k := k) (by omega)
      have hcu := hcell k _ (bv_get L k u hu)
      have hub := byte_le u
      have hlt2 : be (L.take k) < 256 ^ 7 := by
        refine Nat.lt_of_lt_of_le (be_lt _) (Nat.pow_le_pow_right (by omega) ?_)
        rw [List.length_take]
        omega
      have HS := Lib.hid (take_snoc L k u hu)
      clear hu hcell
      go_wp2
      go_round
      case rel =>
        refine ⟨k + 1, by omega, by go_num, ?_⟩
        rw [HS.out, be_snoc, or_join64 _ _ (by omega) (by omega) hub.1 hub.2]
        go_num
      case measure => simp [intOf]; omega
    · go_wp2
      go_ret2
      have ht : L.take k = L := List.take_of_length_le (by omega)
      exact ⟨by rw [← HL.out] at ht ⊢; simp [ht], hb⟩

/-- a number as so many bytes, the highest one first -/
def toBe : Nat → Nat → List UInt8
  | 0, _ => []
  | s + 1, m => toBe s (m / 256) ++ [UInt8.ofNat (m % 256)]
theorem toBe_length (s m : Nat) : (toBe s m).length = s := by
  induction s generalizing m with
  | zero => rfl
  | succ s ih => simp [toBe, ih]
theorem toBe_get (s m k : Nat) (h : k < s) : (toBe s m)[k]? = some (UInt8.ofNat (m / 256 ^ (s - 1 - k) % 256)) := by
  induction s generalizing m with
  | zero => omega
  | succ s ih =>
    rw [toBe]
    rcases Nat.lt_or_ge k s with hk | hk
    · rw [List.getElem?_append_left (by rw [toBe_length]; exact hk), ih _ hk, Nat.div_div_eq_div_mul, ← Nat.pow_succ']
      rw [show (s - 1 - k).succ = s + 1 - 1 - k by omega]
    · have : k = s := by omega
      subst this
      rw [List.getElem?_append_right (by rw [toBe_length]; omega), toBe_length]
      simp

theorem cast_shr (m k : Nat) : (m : Int) / 2 ^ k = ((m / 2 ^ k : Nat) : Int) := by rw [Int.natCast_ediv, Int.natCast_pow]; rfl
theorem set_mid {α : Type} (X : List α) (y : α) (r : List α) (v : α) (j : Nat) (h : X.length = j) : (X ++ y :: r).set j v = X ++ v :: r := by
  subst h
  simp
theorem put_step (l : List UInt8) (i s k m : Nat) (hi : i + k < l.length) (hk : k < s) :
    (bv (l.take i ++ (toBe s m).take k ++ l.drop (i + k))).set (i + k) (.int .u8 ((m : Int) / 2 ^ (8 * (s - 1 - k)) % 256)) = bv (l.take i ++ (toBe s m).take (k + 1) ++ l.drop (i + (k + 1))) := by
  have hX : (bv (l.take i ++ (toBe s m).take k)).length = i + k := by rw [bv_length]; simp [toBe_length]; omega
  unfold bv at hX
  rw [take_snoc _ k _ (toBe_get s m k hk), List.drop_eq_getElem_cons hi, bv_append]
  simp only [bv, List.map_cons]
  rw [set_mid _ _ _ _ _ hX]
  simp only [List.map_append, List.map_cons, List.append_assoc, List.cons_append, List.nil_append]
  have e : ((m : Int) / 2 ^ (8 * (s - 1 - k)) % 256) = ((UInt8.ofNat (m / 256 ^ (s - 1 - k) % 256)).toNat : Int) := by
    rw [UInt8.toNat_ofNat', Nat.mod_eq_of_lt (Nat.mod_lt _ (by omega)), show (256 : Nat) ^ (s - 1 - k) = 2 ^ (8 * (s - 1 - k)) from (Nat.pow_mul 2 8 _).symm, Int.natCast_emod, ← cast_shr]
    rfl
  rw [e, Nat.add_assoc]

set_option maxHeartbeats 400000 in
theorem put_no (A : Option Addr) (n c : Nat) (l : List UInt8) (i s m : Int) (w : World) (h : Row w w.heap.size 1 A n (bv l)) (hc : n ≤ c) (hcm : c ≤ maxLen) (hn : n ≤ 1099511627776) (hno : ¬ (There n i s ∧ 1 ≤ s ∧ s ≤ 8)) :
    Calls Tryd.prog 20 #[.slice A n c, .int .i64 i, .int .i64 s, .int .u64 m] w fun e w' => e = .returned (.tuple #[.slice none 0 0, .bool false]) ∧ Below w.heap.size w w' := by
  have H := Lib.hid hno
  clear hno
  go_enter Tryd.func20, Tryd.ntmps20
  go_wp2_with fail
  refine (get_no _ n c l _ _ _ h hc hcm hn H.out).mono ?_
  rintro e w' ⟨rfl, hb⟩
  go_wp2_with fail
  go_ret2
  exact ⟨rfl, hb⟩

set_option maxHeartbeats 400000 in
theorem put_yes (A : Option Addr) (n c : Nat) (l : List UInt8) (i s m : Int) (w : World) (h : Row w w.heap.size 1 A n (bv l)) (hc : n ≤ c) (hcm : c ≤ maxLen) (hn : n ≤ 1099511627776) (hi : 0 ≤ i) (h1 : 1 ≤ s) (h8 : s ≤ 8) (hle : i + s ≤ n) (hm : 0 ≤ m) (hm2 : m < 256 ^ s.toNat) :
    Calls Tryd.prog 20 #[.slice A n c, .int .i64 i, .int .i64 s, .int .u64 m] w fun e w' => ∃ A' c', e = .returned (.tuple #[.slice A' n c', .bool true]) ∧ Own w' w.heap.size 5 1 A' n c' (bv (l.take i.toNat ++ toBe s.toNat m.toNat ++ l.drop (i.toNat + s.toNat))) ∧ Below w.heap.size w w' := by
  obtain ⟨s, rfl⟩ := Int.eq_ofNat_of_zero_le (show 0 ≤ s by omega)
  obtain ⟨i, rfl⟩ := Int.eq_ofNat_of_zero_le hi
  obtain ⟨m, rfl⟩ := Int.eq_ofNat_of_zero_le hm
  simp only [Int.toNat_natCast] at hm2 ⊢
  have hmn : m < 2 ^ (8 * s) := by
    have h2 : m < 256 ^ s := by rw [show (256 : Int) ^ s = ((256 ^ s : Nat) : Int) from (Int.natCast_pow 256 s).symm] at hm2; exact Int.ofNat_lt.1 hm2
    rw [Nat.pow_mul]
    exact h2
  have Ht : ((m : Int) / 2 ^ (8 * s) != 0) = false := by
    have h0 : (m : Int) / 2 ^ (8 * s) = ((m / 2 ^ (8 * s) : Nat) : Int) := cast_shr m _
    rw [h0, Nat.div_eq_of_lt hmn]
    rfl
  clear hm2 hmn
  have hl : l.length = n := by have := h.1; rw [bv_length] at this; omega
  by_cases hs8 : (s : Int) < 8
  all_goals
    go_enter Tryd.func20, Tryd.ntmps20
    go_wp2_with fail
    refine (get_yes _ n c l _ _ _ h hc hcm hn (by omega) (by omega) (by omega) (by omega)).mono ?_
    rintro e w' ⟨rfl, hb⟩
    go_wp2_with fail
    refine (clone_bytes _ n _ l _ ((h.below hb).more hb.size) hn).mono ?_
    rintro e w1 ⟨A', c', rfl, hown, hb1⟩
    have hown := hown.mono hb.size
    have hbb := hb.trans (hb1.mono hb.size)
    obtain ⟨g, rfl, hg1, hg2, _, _⟩ := hown.open_ (by omega)
    clear h hb hb1
    go_wp2_with fail
    go_loopw [37] (fun j wr => ∃ k : Nat, k ≤ s ∧ j = .int .i64 k ∧ Own wr w.heap.size 5 1 (some ⟨g, 0, none⟩) n c' (bv (l.take i ++ (toBe s m).take k ++ l.drop (i + k))) ∧ Below w.heap.size w wr) (fun j _ => s - (intOf j).toNat)
    case atStart => exact ⟨0, Nat.zero_le _, rfl, by simpa using hown, hbb⟩
    case round =>
      obtain ⟨k, hk, rfl, hown, hbb⟩ := hrel
      by_cases hlt : k < s
      · obtain ⟨g', hg', _, hg4, hcell, hfro⟩ := hown.open_ (by omega)
        injection hg' with hg'
        injection hg' with hg'
        subst hg'
        obtain ⟨u, hu⟩ := get_ex (l.take i ++ (toBe s m).take k ++ l.drop (i + k)) (k := i + k) (by simp [toBe_length]; omega)
        have hcu := hcell (i + k) _ (bv_get _ _ u hu)
        have hfu := hfro (i + k)
        have HO := Lib.hid hown
        clear hu hcell hfro hown
        have hxl : (l.take i ++ (toBe s m).take k ++ l.drop (i + k)).length = n := by simp [toBe_length]; omega
        go_wp2
        go_roundw
        case rel =>
          refine ⟨k + 1, by omega, by go_num, ?_, hbb.setCell hg1 _⟩
          have := HO.out.set (j := i + k) (by omega) (.int .u8 ((m : Int) / 2 ^ (8 * (s - 1 - k)) % 256))
          rwa [put_step l i s k m (by omega) hlt] at this
        case measure => simp [intOf]; omega
      · have : k = s := by omega
        subst this
        have HO := Lib.hid hown
        clear hown
        go_wp2
        go_ret2
        refine ⟨_, _, rfl, ?_, hbb⟩
        have := HO.out
        rwa [List.take_of_length_le (l := toBe k m) (by rw [toBe_length]; omega)] at this
end Go.Proofs.YtbcjkjmjljfhpaaDoor

/- What the reference's functions on bytes (footplateref01) compute. No condition but sizes. -/
namespace Go.Proofs.YtbcjkjmjljfhpaaDoor
open Go.RowKit
set_option linter.unusedVariables false
set_option maxRecDepth 20000

theorem byte_mod (q : Nat) : ((UInt8.ofNat (q % 256)).toNat : Int) = (q : Int) % 256 := by
  rw [UInt8.toNat_ofNat', Nat.mod_eq_of_lt (Nat.mod_lt _ (by omega))]
  omega
theorem row_one (wr : World) (q : Nat) : Row (wr.alloc (.cells #[.int .u8 ((q : Int) % 256)] 5)) (wr.heap.size + 1) 1 (some ⟨wr.heap.size, 0, none⟩) 1 (bv [UInt8.ofNat (q % 256)]) := by
  have := Row.new (n := 1) (sz := 1) (e := 5) wr #[.int .u8 ((q : Int) % 256)] rfl
  simpa [bv, byte_mod] using this

theorem ba_append (a b : Array UInt8) : (ByteArray.mk a ++ ByteArray.mk b) = ByteArray.mk (a ++ b) := by
  apply ByteArray.ext
  simp
theorem str_cat (a b : List UInt8) : Value.string ((ByteArray.mk a.toArray) ++ (ByteArray.mk b.toArray)) = str (a ++ b) := by
  rw [ba_append]
  simp
theorem toBe_cons (s m : Nat) : toBe (s + 1) m = UInt8.ofNat (m / 256 ^ s % 256) :: toBe s m := by
  induction s generalizing m with
  | zero => simp [toBe]
  | succ s ih =>
    rw [toBe, ih (m / 256), Nat.div_div_eq_div_mul, ← Nat.pow_succ']
    simp [toBe]

set_option maxHeartbeats 400000 in
theorem bytes_any (m s : Int) (w : World) (hm : 0 ≤ m) (hm2 : m ≤ 4611686018427387904) (hs : 0 ≤ s) (h8 : s ≤ 8) :
    Calls Tryd.prog 24 #[.int .u64 m, .int .i64 s] w fun e w' => e = .returned (str (toBe s.toNat m.toNat)) ∧ Below w.heap.size w w' := by
  obtain ⟨s, rfl⟩ := Int.eq_ofNat_of_zero_le hs
  obtain ⟨m, rfl⟩ := Int.eq_ofNat_of_zero_le hm
  simp only [Int.toNat_natCast]
  go_enter Tryd.func24, Tryd.ntmps24
  go_wp2_with fail
  go_loopw [0, 5, 6] (fun a t j wr => ∃ k : Nat, k ≤ s ∧ j = .int .i64 k ∧ a = .int .u64 (m / 256 ^ k : Nat) ∧ t = str (toBe k m) ∧ Below w.heap.size w wr) (fun _ _ j _ => s - (intOf j).toNat)
  case atStart => exact ⟨0, Nat.zero_le _, rfl, by simp, rfl, Below.refl _ _⟩
  case round =>
    obtain ⟨k, hk, rfl, rfl, rfl, hb⟩ := hrel
    by_cases hlt : k < s
    · have hd : 0 ≤ m / 256 ^ k := Nat.zero_le _
      have hd2 : m / 256 ^ k ≤ m := Nat.div_le_self _ _
      have htl : (toBe k m).length ≤ 8 := by rw [toBe_length]; omega
      generalize hq : m / 256 ^ k = q at hd hd2 ⊢
      have HQ := Lib.hid hq
      clear hq
      go_wp2_with (refine wpList_str rfl _ 22 9 5 rfl Tryd.underlying22 Tryd.underlying5 Tryd.underlying9 _ _ _ _ [UInt8.ofNat (q % 256)] rfl (row_one wr q) ?_)
      go_roundw
      case rel =>
        refine ⟨k + 1, by omega, by go_num, ?_, ?_, hb.alloc hb.size _⟩
        · rw [Nat.pow_succ, ← Nat.div_div_eq_div_mul, HQ.out]
          go_num
        · rw [toBe_cons, HQ.out]
          exact str_cat [_] _
      case measure => simp [intOf]; omega
    · have : k = s := by omega
      subst this
      go_wp2
      go_ret
      exact ⟨rfl, hb⟩

/-- the bytes are there: the reference's own test -/
theorem there_any (l : List UInt8) (i s : Int) (w : World) (hl : l.length ≤ 1099511627776) :
    Calls Tryd.prog 60 #[str l, .int .i64 i, .int .i64 s] w fun e w' => e = .returned (.bool (decide (There l.length i s))) ∧ w = w' := by
  by_cases h1 : 0 ≤ i <;> by_cases h2 : 0 ≤ s <;> by_cases h3 : i ≤ (l.length : Int) <;> by_cases h4 : s ≤ (l.length : Int) - i
  all_goals
    go_enter Tryd.func60, Tryd.ntmps60
    go_wp2_with fail
    go_ret
    refine ⟨ret_bool ?_, rfl⟩
    symm
    first | (apply decide_eq_true; unfold There; omega) | (apply decide_eq_false; unfold There; omega)

theorem ba_get (l : List UInt8) (j : Nat) (u : UInt8) (h : l[j]? = some u) : ∀ h', (ByteArray.mk l.toArray)[j]'h' = u := by
  intro h'
  obtain ⟨hj, rfl⟩ := List.getElem?_eq_some_iff.1 h
  rfl

theorem rget_no (l : List UInt8) (i s : Int) (w : World) (hl : l.length ≤ 1099511627776) (hno : ¬ (There l.length i s ∧ 1 ≤ s ∧ s ≤ 8)) :
    Calls Tryd.prog 37 #[str l, .int .i64 i, .int .i64 s] w fun e w' => e = .returned (.tuple #[.int .u64 0, .bool false]) ∧ w = w' := by
  by_cases ht : There l.length i s
  · have ht' : decide (There l.length i s) = true := decide_eq_true ht
    by_cases h1 : s < 1
    · clear hno ht
      go_enter Tryd.func37, Tryd.ntmps37
      go_wp2_with fail
      refine (there_any l _ _ _ hl).mono ?_
      rintro e w' ⟨rfl, rfl⟩
      go_wp2_with fail
      go_ret2
      exact ⟨rfl, rfl⟩
    · have h8 : 8 < s := Int.not_le.1 fun h8 => hno ⟨ht, by omega, h8⟩
      clear hno ht
      go_enter Tryd.func37, Tryd.ntmps37
      go_wp2_with fail
      refine (there_any l _ _ _ hl).mono ?_
      rintro e w' ⟨rfl, rfl⟩
      go_wp2_with fail
      go_ret2
      exact ⟨rfl, rfl⟩
  · have ht' : decide (There l.length i s) = false := decide_eq_false ht
    clear hno ht
    go_enter Tryd.func37, Tryd.ntmps37
    go_wp2_with fail
    refine (there_any l _ _ _ hl).mono ?_
    rintro e w' ⟨rfl, rfl⟩
    go_wp2_with fail
    go_ret2
    exact ⟨rfl, rfl⟩

set_option maxHeartbeats 400000 in
theorem rget_yes (l : List UInt8) (i s : Int) (w : World) (hl : l.length ≤ 1099511627776) (hi : 0 ≤ i) (h1 : 1 ≤ s) (h8 : s ≤ 8) (hle : i + s ≤ l.length) :
    Calls Tryd.prog 37 #[str l, .int .i64 i, .int .i64 s] w fun e w' => e = .returned (.tuple #[.int .u64 (be ((l.drop i.toNat).take s.toNat) : Nat), .bool true]) ∧ w = w' := by
  obtain ⟨s, rfl⟩ := Int.eq_ofNat_of_zero_le (show 0 ≤ s by omega)
  obtain ⟨i, rfl⟩ := Int.eq_ofNat_of_zero_le hi
  have ht' : decide (There l.length (i : Int) (s : Int)) = true := decide_eq_true ⟨by omega, by omega, by omega, by omega⟩
  have hL : ((l.drop i).take s).length = s := by simp; omega
  simp only [Int.toNat_natCast]
  go_enter Tryd.func37, Tryd.ntmps37
  go_wp2_with fail
  refine (there_any l _ _ _ hl).mono ?_
  rintro e w' ⟨rfl, rfl⟩
  go_wp2_with fail
  go_loop [9, 10] (fun m j => ∃ k : Nat, k ≤ s ∧ j = .int .i64 k ∧ m = .int .u64 (be (((l.drop i).take s).take k) : Nat)) (fun _ j => s - (intOf j).toNat)
  case atStart => exact ⟨0, Nat.zero_le _, rfl, by simp [be]⟩
  case round =>
    obtain ⟨k, hk, rfl, rfl⟩ := hrel
    by_cases hlt : k < s
    · obtain ⟨u, hu⟩ := get_ex ((l.drop i).take s) (k := k) (by omega)
      have hub := byte_le u
      have hlt2 : be (((l.drop i).take s).take k) < 256 ^ 7 := by
        refine Nat.lt_of_lt_of_le (be_lt _) (Nat.pow_le_pow_right (by omega) ?_)
        rw [List.length_take]
        omega
      have HS := Lib.hid (take_snoc _ k u hu)
      have HU := Lib.hid hu
      clear hu
      generalize hq : be (((l.drop i).take s).take k) = q at hlt2 ⊢
      have HQ := Lib.hid hq
      clear hq hL
      have hik : i + k < l.length := by omega
      go_wp2
      go_round
      case rel =>
        refine ⟨k + 1, by omega, by go_num, ?_⟩
        have hg := ba_get l (i + k) u (by
          have := HU.out
          rw [List.getElem?_take, if_pos hlt, List.getElem?_drop] at this
          exact this)
        simp only [hg, IntKind.wrap_u64]
        rw [HS.out, be_snoc, HQ.out]
        simp only [Value.int.injEq, true_and]
        omega
      case measure => simp [intOf]; omega
    · have : k = s := by omega
      subst this
      have ht : ((l.drop i).take k).take k = (l.drop i).take k := List.take_of_length_le (by omega)
      have HT := Lib.hid ht
      clear ht
      go_wp2
      go_ret2
      exact ⟨by simp [HT.out], rfl⟩

/-- a digit of 16; below 0: none -/
def digitF (c : Nat) : Int := if 48 ≤ c ∧ c ≤ 57 then c - 48 else if 97 ≤ c ∧ c ≤ 102 then c - 87 else if 65 ≤ c ∧ c ≤ 70 then c - 55 else -1

/-- the digits of L tell the bytes of R -/
def Tells (L R : List UInt8) : Prop := L.length = 2 * R.length ∧ ∀ k, k < R.length → 0 ≤ digitF (L.getD (2 * k) 0).toNat ∧ 0 ≤ digitF (L.getD (2 * k + 1) 0).toNat ∧ 16 * digitF (L.getD (2 * k) 0).toNat + digitF (L.getD (2 * k + 1) 0).toNat = ((R.getD k 0).toNat : Int)
instance (L R : List UInt8) : Decidable (Tells L R) := by unfold Tells; infer_instance
theorem digitF_le (c : Nat) : digitF c ≤ 15 := by unfold digitF; split <;> (try split) <;> (try split) <;> omega

end Go.Proofs.YtbcjkjmjljfhpaaDoor


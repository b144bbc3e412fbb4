/- Texts of this claim put together, in build order: each one's own remark stands ahead of it. -/
import Derived.Test.YtbemhcihmlijaaaG01
import Derived.RangeFuncNested
import Derived.RangeFuncBound
import Derived.RangeFuncCalls
import Derived.RangeFuncLeaves
import Derived.RangeFuncBox
import Derived.Shelf.Abstract
import Derived.Shelf.RegionOpen
import Derived.OwnWalkIn
import Derived.TacticsInMore
import Derived.LoopNIn
import Derived.LoopIn
import Derived.Maps.AppendAt
import Derived.Test.YtbemhcihmlijaaaG05
import Derived.OrdersIn
import Derived.ControlIn
/- A range over a function whose iterator keeps its own state in a captured variable (a cell), and ends where it is done or where a round says so. No condition. -/
namespace Go.Proofs.Ytbemhcihmlijaaa
open Go.RowKit Go.Shelf
set_option linter.unusedVariables false
set_option maxRecDepth 20000

section
variable {F : Fence} {n : Nat} {P : Program}

/-- what a caller's word must bear between two rounds: new blocks, and the iterator's own variable -/
structure Lets {α : Type} (Bx : Nat) (J : List α → World → Prop) : Prop where
 below : ∀ s W W', J s W → Below W.heap.size W W' → J s W'
 set : ∀ s W v, J s W → J s (W.setCell ⟨Bx, 0, none⟩ v)

/-- an iterator that ends where it is done, or where a round has said so, and goes on only where `go` holds of what came -/
def EndsD {α : Type} (F : Fence) (n : Nat) (P : Program) (g : Nat) (lb : Array Value) (encs : α → Array Value) (Kp : World → World → Prop) (go : α → Prop) (okx : List α → α → World → Prop) (Sn Sp : List α → Prop) (Bx : Nat) (w : World) : Prop :=
 ∀ (l : Nat) (J Jx : List α → World → Prop) (W : World), Below w.heap.size w W → Lets Bx J → (∀ s W, J s W → ∀ x ∈ s, go x) →
  (∀ pre x W1, J pre W1 → okx pre x W1 → YieldAt F (n - 1) P l (encs x) W1 fun e W' =>
   (e = .returned (.bool true) ∧ J (pre ++ [x]) W' ∧ Kp W1 W') ∨ (e = .returned (.bool false) ∧ Jx (pre ++ [x]) W')) →
  J [] W →
  CallsIn F n P g (#[.func (.yield l) #[] #[]] ++ lb) W fun e W' => (∃ v, e = .returned v) ∧ ((∃ xs, Sn xs ∧ J xs W') ∨ ∃ pre, Sp pre ∧ Jx pre W')

/-- the law: a loop over such an iterator (after the kit's law for a boxed loop variable) -/
theorem rangeD {α : Type} {g : Operand} {ps : Array Tmp} {assign body : Code} {Q : Exit → Act → World → Prop} {a : Act} {w : World}
  (hro : F.round = none) (h1 : 1 ≤ n) {gf : Nat} {lb : Array Value} (hg : a.eval g = .func (.func gf) #[] lb) (hFg : F.fn gf) (eg : ∀ args w, (callFunc gf args).run P w = .ok (.enter gf args) w)
  {encs : α → Array Value} {Kp : World → World → Prop} {ok : α → Prop} {okx : List α → α → World → Prop} {Sn Sp : List α → Prop} {Bx : Nat} {w0 : World} (hseq : EndsD F (n - 1) P gf lb encs Kp ok okx Sn Sp Bx w0) (hBx : Bx < w.heap.size)
  (hKt : ∀ {A B C : World}, Kp A B → Kp B C → Kp A C) (hKb : ∀ (W : World) (l : Nat) (o o' : Obj), w.heap.size ≤ l → W.heap[l]? = some o → o.isCells = false → o.isWalk = false → Kp W (W.putObj l o')) (hb0 : Below w0.heap.size w0 w) (hps : ∀ x, (encs x).size = ps.size)
  (I : List α → World → Prop) (Ix : Code → List α → World → Prop) (hI : OwnFrom w.heap.size I) (hIx : ∀ c, OwnFrom w.heap.size (Ix c)) (hIl : Lets Bx I) (hIg : ∀ s W, I s W → ∀ x ∈ s, ok x) (h0 : I [] w) (Ax : List α → α → Act → World → Prop) (hAx : ∀ pre x a', OwnFrom w.heap.size (fun (_ : Unit) W => Ax pre x a' W))
  (hassign : ∀ (l : Nat) (pre : List α) (x : α) (W : World) (K : Act → World → Prop), I pre W → okx pre x W → (∀ a' W', KeepsFrom w.heap.size W W' → Kp W W' → I pre W' → Ax pre x a' W' → K a' W') →
   assign.wpIn (F.inRound l) (n - 1 - 1) P (Exit.then K (fun _ _ _ => False)) { tmps := (ps.zip (encs x)).foldl (fun t (p, v) => t.setIfInBounds p v) a.tmps, defers := [] } W)
  (hbody : ∀ (l : Nat) (pre : List α) (x : α) (a' : Act) (W : World), w.heap.size ≤ l → (∃ r, W.heap[l]? = some (.loop r)) → I pre W → Ax pre x a' W → body.wpIn (F.inRound l) (n - 1 - 1) P (ownPostG w.heap.size Kp I Ix (pre ++ [x]) W) a' W)
  (hdone : ∀ (D : Nat) (xs : List α) (W : World), w.heap.size ≤ D → Sn xs → I xs W → W.heap[D]? = some (.deferred (some [])) → Q .normal { a with defers := { target := .collected D, args := #[] } :: a.defers } W)
  (hstop : ∀ (D : Nat) (c : Code) (pre : List α) (W : World), w.heap.size ≤ D → Sp pre → Ix c pre W → W.heap[D]? = some (.deferred (some [])) → c.wpIn F n P Q { a with defers := { target := .collected D, args := #[] } :: a.defers } W) :
  (Code.rangeFunc g ps assign body).wpIn F n P Q a w := by
 refine wpIn_rangeFunc ?_
 intro fn hfn
 rw [hro]
 obtain ⟨rec, hrec⟩ : ∃ rec : LoopState → Option Code → Loop, rec = fun st pe => { state := st, pending := pe, fn, tmps := a.tmps, params := ps, assign, body, defers := w.heap.size } := ⟨_, rfl⟩
 obtain ⟨W1, hW1⟩ : ∃ W1, (w.alloc (.deferred (some []))).alloc (.loop (rec .ready none)) = W1 := ⟨_, rfl⟩
 have hL1 : W1.heap[w.heap.size + 1]? = some (.loop (rec .ready none)) := by
  rw [← hW1]; have := World.alloc_heap_new (w.alloc (.deferred (some []))) (.loop (rec .ready none)); rwa [World.size_alloc] at this
 have hK1 : W1.heap[w.heap.size]? = some (.deferred (some [])) := by
  rw [← hW1]; exact (Below.heap_alloc _ _ _ (by simp)).trans (World.alloc_heap_new w _)
 have hI1 : I [] W1 := by rw [← hW1]; exact hI.alloc _ (hI.alloc _ h0)
 have hb1 : Below w0.heap.size w0 W1 := by
  rw [← hW1]; exact hb0.trans ((((Below.refl _ w).alloc (Nat.le_refl _) _).alloc (by simp) _).mono hb0.size)
 refine ⟨w.heap.size + 1, [{ target := .collected w.heap.size, args := #[] }], W1, { target := .fn (.func gf) lb, args := #[.func (.yield (w.heap.size + 1)) #[] #[]] }, W1, gf,
  #[.func (.yield (w.heap.size + 1)) #[] #[]] ++ lb, W1, ?_, ?_, ?_, ?_, fun _ => h1, ?_⟩
 ·rw [← hW1, hrec]; exact run_enterLoop_outer _ _ _ _ _
 ·simp only [resolve, hg]
  simp [go_sem]
 ·intro f' hf'; simp [Target.leads] at hf'; subst hf'; exact hFg
 ·simp [invoke, go_sem, eg]
 · -- THE ITERATOR's CONTRACT, AT THE CALLER's INVARIANT WITH THE TWO FACTS OF BOOK-KEEPING BESIDE IT
  refine (hseq (w.heap.size + 1)
   (fun pre W => I pre W ∧ W.heap[w.heap.size + 1]? = some (.loop (rec .ready none)) ∧ W.heap[w.heap.size]? = some (.deferred (some [])))
   (fun pre W => ∃ c, Ix c pre W ∧ W.heap[w.heap.size + 1]? = some (.loop (rec .done (some c))) ∧ W.heap[w.heap.size]? = some (.deferred (some [])))
   W1 hb1
   ⟨fun s A B hs hb => ⟨hIl.below s A B hs.1 hb, (hb.block _ (Array.getElem?_eq_some_iff.1 hs.2.1).1).trans hs.2.1, (hb.block _ (Array.getElem?_eq_some_iff.1 hs.2.2).1).trans hs.2.2⟩,
    fun s A v hs => ⟨hIl.set s A v hs.1, (Below.heap_setCell A ⟨Bx, 0, none⟩ v _ (by simp only; omega)).trans hs.2.1, (Below.heap_setCell A ⟨Bx, 0, none⟩ v _ (by simp only; omega)).trans hs.2.2⟩⟩
   (fun s W hs => hIg s W hs.1)
   ?_ ⟨hI1, hL1, hK1⟩).mono ?_
  · -- ONE ROUND
   rintro pre x W ⟨hi, hl, hk⟩ hox
   have hlt : w.heap.size + 1 < W.heap.size := (Array.getElem?_eq_some_iff.1 hl).1
   have hy := run_yield (P := P) (args := encs x) hl (by rw [hrec]; exact hps x)
   rw [hrec] at hy
   refine ⟨fn, _, assign, body, hy, roundIn_of_wpIn hfn (hassign _ pre x W _ hi hox ?_)⟩
   clear hy
   intro a' Wa hkfa hkpa hia hax
   -- THE ASSIGN CODE MAY HAVE LAID BLOCKS (a loop variable that an inner function captures is boxed): the two blocks of book-keeping lie as they lay
   replace hl := hkfa.same _ _ (by omega) hl rfl
   replace hk := hkfa.same _ _ (Nat.le_refl _) hk rfl
   replace hlt : w.heap.size + 1 < Wa.heap.size := (Array.getElem?_eq_some_iff.1 hl).1
   replace hi := hia
   clear hia
   revert hkpa hkfa
   generalize W = Wb
   intro hkfa hkpa
   obtain ⟨W, rfl⟩ : ∃ W, W = Wa := ⟨_, rfl⟩
   refine ⟨_, run_beginRound hl (by rw [hrec]), ?_⟩
   have hl2 : (W.putObj (w.heap.size + 1) (.loop { rec .ready none with state := .busy })).heap[w.heap.size + 1]? = some (.loop { rec .ready none with state := .busy }) := World.putObj_heap_same hlt
   have hk2 : (W.putObj (w.heap.size + 1) (.loop { rec .ready none with state := .busy })).heap[w.heap.size]? = some (.deferred (some [])) := (World.putObj_heap_other (by omega)).trans hk
   have hw2 : Kp W (W.putObj (w.heap.size + 1) (.loop { rec .ready none with state := .busy })) := hKb _ _ _ _ (by omega) hl rfl rfl
   refine wpIn_mono (hbody _ pre x a' _ (by omega) ⟨_, hl2⟩ (hI.putObj _ hi (by omega) hl rfl) ((hAx pre x a').putObj (s := ()) _ hax (by omega) hl rfl)) ?_
   have fin : ∀ (jump : Option Code) (W3 : World), KeepsFrom w.heap.size (W.putObj (w.heap.size + 1) (.loop { rec .ready none with state := .busy })) W3 →
     (Instr.endRound (w.heap.size + 1) jump).run P W3 = .ok (.bool jump.isNone) (W3.putObj (w.heap.size + 1) (.loop (rec (if jump.isNone then .ready else .done) jump))) ∧
     W3.heap[w.heap.size + 1]? = some (.loop { rec .ready none with state := .busy }) ∧
     (W3.putObj (w.heap.size + 1) (.loop (rec (if jump.isNone then .ready else .done) jump))).heap[w.heap.size + 1]? = some (.loop (rec (if jump.isNone then .ready else .done) jump)) ∧
     (W3.putObj (w.heap.size + 1) (.loop (rec (if jump.isNone then .ready else .done) jump))).heap[w.heap.size]? = some (.deferred (some [])) := fun jump W3 hk3 => by
    have hl3 := hk3.same _ _ (by omega) hl2 rfl
    have := run_endRound (P := P) jump hl3
    rw [hrec] at this ⊢
    exact ⟨this, by rw [hrec] at hl3; exact hl3, World.putObj_heap_same (Array.getElem?_eq_some_iff.1 hl3).1, (World.putObj_heap_other (by omega)).trans (hk3.same _ _ (Nat.le_refl _) hk2 rfl)⟩
   rintro e a3 W3 hp
   cases e with
   | normal =>
    obtain ⟨hk3, hkp3, hi3⟩ := hp
    obtain ⟨hr, hl3, hl4, hk4⟩ := fin none W3 hk3
    exact ⟨_, _, hr, .inl ⟨rfl, ⟨hI.putObj _ hi3 (by omega) hl3 rfl, hl4, hk4⟩, hKt hkpa (hKt (hKt hw2 hkp3) (hKb _ _ _ _ (by omega) hl3 rfl rfl))⟩⟩
   | ret =>
    obtain ⟨hk3, hi3⟩ := hp
    obtain ⟨hr, hl3, hl4, hk4⟩ := fin (some .ret) W3 hk3
    exact ⟨_, _, hr, .inr ⟨rfl, .ret, (hIx _).putObj _ hi3 (by omega) hl3 rfl, hl4, hk4⟩⟩
   | exit id =>
    obtain ⟨hk3, hi3⟩ := hp
    obtain ⟨hr, hl3, hl4, hk4⟩ := fin (some (.exit id)) W3 hk3
    exact ⟨_, _, hr, .inr ⟨rfl, .exit id, (hIx _).putObj _ hi3 (by omega) hl3 rfl, hl4, hk4⟩⟩
   | goto t =>
    obtain ⟨hk3, hi3⟩ := hp
    obtain ⟨hr, hl3, hl4, hk4⟩ := fin (some (.goto t)) W3 hk3
    exact ⟨_, _, hr, .inr ⟨rfl, .goto t, (hIx _).putObj _ hi3 (by omega) hl3 rfl, hl4, hk4⟩⟩
   | panic ch => exact hp.elim
   | outgrown => exact hp.elim
  · -- BEHIND THE ITERATOR
   rintro e W2 ⟨⟨v, rfl⟩, (⟨xs, hS, hi, hl, hk⟩ | ⟨pre, hSp, c, hi, hl, hk⟩)⟩
   ·exact ⟨none, _, by have := run_endLoop (P := P) hl (by rw [hrec]; simp); rw [hrec] at this; exact this, hdone _ xs _ (Nat.le_refl _) hS (hI.putObj _ hi (by omega) hl rfl) ((World.putObj_heap_other (by omega)).trans hk)⟩
   ·exact ⟨some c, _, by have := run_endLoop (P := P) hl (by rw [hrec]; simp); rw [hrec] at this; exact this, hstop _ c pre _ (Nat.le_refl _) hSp ((hIx c).putObj _ hi (by omega) hl rfl) ((World.putObj_heap_other (by omega)).trans hk)⟩
end
end Go.Proofs.Ytbemhcihmlijaaa

/- A region inside the wide fence that draws its order, whose last but one operation waits for all others ahead of it, and the last one for that: the others are walked once, in any order, then these two. No condition. -/
namespace Go.Proofs.Ytbemhcihmlijaaa
open Go.RowKit
set_option linter.unusedVariables false
set_option maxRecDepth 20000

def last2B (ops : Array Oper) (m : Nat) : Bool := (List.range m).all (fun i => (closure ops ops.size [m]).contains i) && waits ops (m + 1) m
theorem rows_wide {n : Nat} {P : Program} {row : String} {args : Array Value} {w : World} {R : Value → World → Prop} (h : Rows P row args w R) : RowsIn Fence.wide n P row args w R :=
 fun c cs _ => let ⟨v, w', r, s⟩ := h c cs; ⟨v, w', r, stepsIn_wide.2 s⟩

section
variable {n : Nat} {P : Program} {ops : Array Oper} {R : Nat → Value → World → Prop} {X : World → World → Prop} {a0 : Act} {w0 : World}
theorem uponIn_of_upon {o : Oper} {a : Act} {K : Act → World → Prop} {Q : Exit → Act → World → Prop} (r : Result Next) (h : Oper.upon P o a K (fun _ _ _ => False) r) : Oper.uponIn Fence.wide n P o a K Q r := by
 cases r with
 | ok x w' =>
  cases x with
  | enter f args =>
   rw [Oper.upon_enter] at h
   rw [Oper.uponIn_enter]
   refine ⟨(fun e => by cases e), callsIn_wide.2 (Calls.mono h ?_)⟩
   intro e w'' he
   cases e with
   | returned v => exact he
   | panicked c => exact he.elim
   | outgrown => obtain ⟨_, _, h⟩ := he; exact h.elim
  | row row args => exact ⟨(fun e => by cases e), rows_wide h⟩
  | round => exact (h : False).elim
  | value v => exact h
  | skip => exact h
  | defer d => exact h
  | _ => exact (h : False).elim
 | halt x w' => cases x <;> exact (h : False).elim
theorem wpIn_of_wp {o : Oper} {a : Act} {w : World} {K : Act → World → Prop} {Q : Exit → Act → World → Prop} (h : o.wp P a w K (fun _ _ _ => False)) : o.wpIn Fence.wide n P a w K Q := by
 refine ⟨fun _ _ => trivial, ?_⟩
 rw [show Fence.wide.round = none from rfl, Oper.semAt_none]
 exact uponIn_of_upon _ h
theorem closure_listed2 {listed : Array Bool} {m : Nat} (hc : ∀ i, (i = m ∨ listed.getD i true = true) → i < ops.size → ∀ j, waits ops i j = true → listed.getD j true = true ∧ j < ops.size) :
  ∀ (k : Nat) (l : List Nat), (∀ i ∈ l, i < ops.size ∧ (i = m ∨ listed.getD i true = true)) → ∀ i ∈ closure ops k l, i < ops.size ∧ (i = m ∨ listed.getD i true = true) := by
 intro k
 induction k with
 | zero => exact fun l h => h
 | succ k ih =>
  intro l h
  refine ih _ fun i hi => ?_
  rcases List.mem_append.1 hi with hi | hi
  ·exact h i hi
  ·obtain ⟨h1, h2⟩ := List.mem_filter.1 hi
   simp only [Bool.and_eq_true] at h2
   obtain ⟨x, hx, hw⟩ := List.any_eq_true.1 h2.2
   have := hc x (h x hx).2 (h x hx).1 i hw
   exact ⟨this.2, .inr this.1⟩

theorem wpIn_region_last2_aux {Q : Exit → Act → World → Prop} (m : Nat) (hm : ops.size = m + 2) (hXt : ∀ A B C, X A B → X B C → X A C) (hR : ∀ i v A B, R i v A → X A B → R i v B) (hp : plainB ops a0.tmps.size = true) (hlast : last2B ops m = true) (o2 : Oper) (ho2 : ops[m + 1]? = some o2) (hg2 : o2.guard = none)
  (hsteps : RelSteps P ops R X a0 w0 0 (ops.toList.take m)) (hpost : ∀ vs W o, ops[m]? = some o → X w0 W → (∀ i, i < m → R i (vs i) W) → o.wpIn Fence.wide n P (putAll vs 0 (ops.toList.take m) a0) W (fun a W' => o2.wpIn Fence.wide n P a W' (fun a W'' => Q .normal a W'') Q) Q)
  (hwant : ∀ vs W o, ops[m]? = some o → X w0 W → (∀ i, i < m → R i (vs i) W) → Region.wanted o (yielded ops (putAll vs 0 (ops.toList.take m) a0).tmps) = true) :
  ∀ (fuel : Nat) (listed : Array Bool) (a : Act) (W : World) (vs : Nat → Value), RelInv ops R X a0 w0 listed a W vs → listed.getD m true = false → listed.getD (m + 1) true = false → ((List.range ops.size).filter fun i => !listed.getD i true).length ≤ fuel → wpAnyIn Fence.wide n P .any ops Q fuel listed a W := by
 intro fuel
 induction fuel with
 | zero =>
  intro listed a W vs I hun _ hlen
  have : m ∈ (List.range ops.size).filter fun i => !listed.getD i true := List.mem_filter.2 ⟨List.mem_range.2 (by omega), by simp only [hun, Bool.not_false]⟩
  have hnil : ((List.range ops.size).filter fun i => !listed.getD i true) = [] := List.eq_nil_of_length_eq_zero (by omega)
  rw [hnil] at this
  cases this
 | succ fuel ih =>
  intro listed a W vs I hunm hunm2 hlen
  refine ⟨fun h => ?_, fun i hi => ?_⟩
  ·have := listed_all hp I.len h m (by omega)
   rw [hunm] at this
   cases this
  obtain ⟨hun, o, ho, hall⟩ := mem_ready.1 hi
  have hilt : i < ops.size := (Array.getElem?_eq_some_iff.1 ho).1
  have hpre : ∀ j, waits ops i j = true → listed.getD j true = true ∧ j < ops.size := by
   intro j hj
   obtain ⟨e, he, hb, rfl⟩ := waits_of ho hj
   have h1 := hall e he hb
   have hlt := (plain_at hp hilt).2 o ho e he hb
   have hjs : e.on < ops.size := by omega
   refine ⟨?_, hjs⟩
   rw [Array.getD_eq_getD_getElem?] at h1 ⊢
   rw [Array.getElem?_eq_getElem (by rw [I.len]; exact hjs)] at h1 ⊢
   exact h1
  by_cases him : i = m
  ·subst him
   have hl2 := hlast
   unfold last2B at hl2
   rw [Bool.and_eq_true] at hl2
   have hothers : ∀ j, j < i → listed.getD j true = true := by
    intro j hj
    have hc := List.all_eq_true.1 hl2.1 j (List.mem_range.2 hj)
    have hmem : j ∈ closure ops ops.size [i] := by simpa using hc
    have := closure_listed2 (listed := listed) (ops := ops) (m := i) (fun x hx hxs y hy => by
     rcases hx with hx | hx
     ·subst hx
      exact hpre y hy
     ·exact I.closed x hx hxs y hy) ops.size [i] (fun x hx => by
     simp at hx
     subst hx
     exact ⟨by omega, .inl rfl⟩) j hmem
    rcases this.2 with h | h
    ·omega
    ·exact h
   have ha : a = putAll vs 0 (ops.toList.take i) a0 := by
    refine act_ext (by rw [putAll_size, I.size]) (by rw [putAll_defers, I.defers]) fun k hk => ?_
    by_cases hw : ∃ j, j < i ∧ dstOf ops j = some k
    ·obtain ⟨j, hj, hd⟩ := hw
     have hjs : j < ops.size := by omega
     rw [(I.vals j (hothers j hj) hjs).2 k hd]
     have hoj : (ops.toList.take i)[j]? = some ops[j] := by rw [List.getElem?_take, if_pos hj]; simp [Array.getElem?_eq_getElem hjs]
     have := putAll_some vs (ops.toList.take i) k 0 a0 j ops[j] hoj (by rw [← dst_bind (Array.getElem?_eq_getElem hjs)]; exact hd) (by rw [← I.size]; exact hk) (fun x y hx hne => by
      rw [List.getElem?_take] at hx
      split at hx
      ·have hx' : ops[x]? = some y := by simpa using hx
       rw [← dst_bind hx']
       exact ((plain_at hp hjs).1 k hd).2 x (Array.getElem?_eq_some_iff.1 hx').1 hne
      ·cases hx)
     rw [this, Nat.zero_add]
    ·rw [I.rest k (fun j hl hj hd => by
      rcases Nat.lt_or_ge j i with h | h
      ·exact hw ⟨j, h, hd⟩
      ·rcases Nat.lt_or_ge i j with h2 | h2
       ·have : j = i + 1 := by omega
        subst this
        rw [hunm2] at hl
        cases hl
       ·have : j = i := by omega
        subst this
        rw [hun] at hl
        cases hl)]
     refine (putAll_none vs (ops.toList.take i) k 0 a0 fun x hx hd => ?_).symm
     obtain ⟨j, hj⟩ := List.getElem?_of_mem hx
     rw [List.getElem?_take] at hj
     split at hj
     ·rename_i hji
      have hj' : ops[j]? = some x := by simpa using hj
      exact hw ⟨j, hji, by rw [dst_bind hj']; exact hd⟩
     ·cases hj
   have hRR : ∀ j, j < i → R j (vs j) W := fun j hj => (I.vals j (hothers j hj) (by omega)).1
   have key := hpost vs W o ho I.world hRR
   have hwn := hwant vs W o ho I.world hRR
   rw [← ha] at key hwn
   have hils : i < listed.size := by rw [I.len]; exact hilt
   have hget : ∀ j, (listed.setIfInBounds i true).getD j true = if j = i then true else listed.getD j true := by
    intro j
    by_cases hj : j = i
    ·subst hj
     rw [if_pos rfl, Array.getD_eq_getD_getElem?, Array.getElem?_setIfInBounds_self_of_lt hils]
     rfl
    ·rw [if_neg hj, Array.getD_eq_getD_getElem?, Array.getD_eq_getD_getElem?, Array.getElem?_setIfInBounds_ne (fun e => hj e.symm)]
   have hlt2 : i + 1 < ops.size := by omega
   have hpos : 1 ≤ fuel := by
    have hsub : ((List.range ops.size).filter fun j => !(listed.setIfInBounds i true).getD j true) = (((List.range ops.size).filter fun j => !listed.getD j true).filter fun j => !decide (j = i)) := by
     rw [List.filter_filter]
     apply List.filter_congr
     intro j _
     rw [hget]
     by_cases hji : j = i
     ·simp [hji]
     ·simp [hji]
    have hmem : i ∈ (List.range ops.size).filter fun j => !listed.getD j true := List.mem_filter.2 ⟨List.mem_range.2 hilt, by simp only [hun, Bool.not_false]⟩
    have h1 := List.length_filter_lt_length_iff_exists (p := fun j => !decide (j = i)) |>.2 ⟨i, hmem, by simp⟩
    have hmem2 : i + 1 ∈ (List.range ops.size).filter fun j => !(listed.setIfInBounds i true).getD j true := List.mem_filter.2 ⟨List.mem_range.2 hlt2, by rw [hget, if_neg (by omega), hunm2]; rfl⟩
    rw [hsub] at hmem2
    have := List.length_pos_of_mem hmem2
    omega
   obtain ⟨fuel, rfl⟩ : ∃ q, fuel = q + 1 := ⟨fuel - 1, by omega⟩
   have next : ∀ a' W', o2.wpIn Fence.wide n P a' W' (fun a W'' => Q .normal a W'') Q → wpAnyIn Fence.wide n P .any ops Q (fuel + 1) (listed.setIfInBounds i true) a' W' := by
    intro a' W' hq
    refine ⟨fun h => ?_, fun j hj => ?_⟩
    ·have := listed_all hp (by rw [Array.size_setIfInBounds, I.len]) h (i + 1) hlt2
     rw [hget, if_neg (by omega), hunm2] at this
     cases this
    ·obtain ⟨hunj, oj, hoj, _⟩ := mem_ready.1 hj
     have hjlt : j < ops.size := (Array.getElem?_eq_some_iff.1 hoj).1
     have hji : j = i + 1 := by
      rw [hget] at hunj
      split at hunj
      ·cases hunj
      ·rename_i hne
       rcases Nat.lt_or_ge j i with h | h
       ·rw [hothers j h] at hunj
        cases hunj
       ·omega
     subst hji
     rw [ho2] at hoj
     injection hoj with hoj
     subst hoj
     unfold wpOpIn
     rw [ho2]
     simp only
     rw [if_pos (wanted_none hg2)]
     refine Oper.wpIn_mono (fun a'' W'' hQ => wpAnyIn_done ?_ hQ _) hq
     apply List.eq_nil_iff_forall_not_mem.2
     intro k hk
     obtain ⟨h1, o', ho', _⟩ := mem_ready.1 hk
     have hks : k < ops.size := (Array.getElem?_eq_some_iff.1 ho').1
     have hg2' : ((listed.setIfInBounds i true).setIfInBounds (i + 1) true).getD k true = true := by
      by_cases hk1 : k = i + 1
      ·subst hk1
       rw [Array.getD_eq_getD_getElem?, Array.getElem?_setIfInBounds_self_of_lt (by rw [Array.size_setIfInBounds, I.len]; exact hks)]
       rfl
      ·rw [Array.getD_eq_getD_getElem?, Array.getElem?_setIfInBounds_ne (fun e => hk1 e.symm), ← Array.getD_eq_getD_getElem?, hget]
       split
       ·rfl
       ·exact hothers k (by omega)
     rw [hg2'] at h1
     cases h1
   have key2 := Oper.wpIn_mono next key
   unfold wpOpIn
   rw [ho]
   simp only
   rw [if_pos hwn]
   exact key2
  ·have hilm : i < m := by
    rcases Nat.lt_or_ge i m with h | h
    ·exact h
    ·have h1 : i = m + 1 := by omega
     subst h1
     have hl2 := hlast
     unfold last2B at hl2
     rw [Bool.and_eq_true] at hl2
     have := (hpre m hl2.2).1
     rw [hunm] at this
     cases this
   have hst := relSteps_at (ops.toList.take m) 0 hsteps i o (by rw [List.getElem?_take, if_pos hilm]; simpa using ho)
   rw [Nat.zero_add] at hst
   have key := hst a vs W I.world (fun j hj => (I.vals j (hpre j hj).1 (hpre j hj).2).1) (fun j d hj hd => (I.vals j (hpre j hj).1 (hpre j hj).2).2 d hd)
    (fun k hk => I.rest k fun j hlj hj hd => by
     have := List.all_eq_true.1 hk j (List.mem_range.2 hj)
     simp only [hd, bne_self_eq_false, Bool.false_or, Bool.or_eq_true, beq_iff_eq] at this
     rcases this with h | h
     ·have := (I.closed j hlj hj i h).1
      rw [hun] at this
      cases this
     ·subst h
      rw [hun] at hlj
      cases hlj)
   have next : ∀ v W', R i v W' → X W W' → wpAnyIn Fence.wide n P .any ops Q fuel (listed.setIfInBounds i true) (a.put o.dst v) W' := by
    intro v W' hv hx
    have hils : i < listed.size := by rw [I.len]; exact hilt
    have hget : ∀ j, (listed.setIfInBounds i true).getD j true = if j = i then true else listed.getD j true := by
     intro j
     by_cases hj : j = i
     ·subst hj
      rw [if_pos rfl, Array.getD_eq_getD_getElem?, Array.getElem?_setIfInBounds_self_of_lt hils]
      rfl
     ·rw [if_neg hj, Array.getD_eq_getD_getElem?, Array.getD_eq_getD_getElem?, Array.getElem?_setIfInBounds_ne (fun e => hj e.symm)]
    have hput : ∀ k, o.dst ≠ some k → (a.put o.dst v).eval (.tmp k) = a.eval (.tmp k) := fun k hk => Act.eval_put fun d hd e => by injection e with e; exact hk (by rw [hd, e])
    refine ih _ _ _ (fun j => if j = i then v else vs j) ?_ (by rw [hget, if_neg (by omega)]; exact hunm) (by rw [hget, if_neg (by omega)]; exact hunm2) ?_
    ·refine ⟨hXt _ _ _ I.world hx, ?_, ?_, by rw [Array.size_setIfInBounds, I.len], ?_, ?_, ?_⟩
     ·rw [← I.size]; cases h : o.dst <;> simp [Act.put]
     ·rw [← I.defers]; cases h : o.dst <;> simp [Act.put]
     ·intro j hj hjs
      rw [hget] at hj
      by_cases hji : j = i
      ·subst hji
       simp only [if_true]
       refine ⟨hv, fun d hd => ?_⟩
       rw [dst_bind ho] at hd
       have hdl : d < a.tmps.size := by rw [I.size]; exact ((plain_at hp hjs).1 d (by rw [dst_bind ho]; exact hd)).1
       simp [Act.put, hd, Act.eval, hdl]
      ·rw [if_neg hji] at hj
       simp only [if_neg hji]
       obtain ⟨h1, h2⟩ := I.vals j hj hjs
       refine ⟨hR _ _ _ _ h1 hx, fun d hd => ?_⟩
       rw [hput d (fun e => ((plain_at hp hjs).1 d hd).2 i hilt (fun e => hji e.symm) (by rw [dst_bind ho]; exact e))]
       exact h2 d hd
     ·intro k hk
      have hki : o.dst ≠ some k := by
       have := hk i (by rw [hget, if_pos rfl]) hilt
       rwa [dst_bind ho] at this
      rw [hput k hki]
      exact I.rest k fun j hj hjs => hk j (by rw [hget]; split <;> first | rfl | exact hj) hjs
     ·intro j hj hjs k hk
      have hkk : listed.getD k true = true ∧ k < ops.size := by
       rw [hget] at hj
       by_cases hji : j = i
       ·subst hji
        exact hpre k hk
       ·rw [if_neg hji] at hj
        exact I.closed j hj hjs k hk
      exact ⟨by rw [hget]; split <;> first | rfl | exact hkk.1, hkk.2⟩
    ·have hsub : ((List.range ops.size).filter fun j => !(listed.setIfInBounds i true).getD j true) = (((List.range ops.size).filter fun j => !listed.getD j true).filter fun j => !decide (j = i)) := by
      rw [List.filter_filter]
      apply List.filter_congr
      intro j _
      rw [hget]
      by_cases hji : j = i
      ·simp [hji]
      ·simp [hji]
     rw [hsub]
     have hmem : i ∈ (List.range ops.size).filter fun j => !listed.getD j true := List.mem_filter.2 ⟨List.mem_range.2 hilt, by simp only [hun, Bool.not_false]⟩
     have := List.length_filter_lt_length_iff_exists (p := fun j => !decide (j = i)) |>.2 ⟨i, hmem, by simp⟩
     omega
   have key2 := key (wpAnyIn Fence.wide n P .any ops Q fuel (listed.setIfInBounds i true)) next
   unfold wpOpIn
   rw [ho]
   simp only
   by_cases hw : Region.wanted o (yielded ops a.tmps) = true
   ·rw [if_pos hw] at key2 ⊢
    exact wpIn_of_wp key2
   ·rw [if_neg hw] at key2 ⊢
    exact ⟨fun _ _ => trivial, key2⟩

/-- the law -/
theorem wpIn_region_last2 {id : Nat} {Q : Exit → Act → World → Prop} {w : World} (m : Nat) (X : World → World → Prop) (hXr : ∀ A, X A A) (hXt : ∀ A B C, X A B → X B C → X A C) (R : Nat → Value → World → Prop) (hR : ∀ i v A B, R i v A → X A B → R i v B)
  (hf : P.follows .mixedOrders = true) (hp : plainB ops a0.tmps.size = true) (hm : ops.size = m + 2) (hlast : last2B ops m = true) (ol : Oper) (hol : ops[m]? = some ol) (hg : ol.guard = none) (o2 : Oper) (ho2 : ops[m + 1]? = some o2) (hg2 : o2.guard = none) (hsteps : RelSteps P ops R X a0 w.drew 0 (ops.toList.take m))
  (hpost : ∀ vs W, X w.drew W → (∀ i, i < m → R i (vs i) W) → ol.wpIn Fence.wide n P (putAll vs 0 (ops.toList.take m) a0) W (fun a W' => o2.wpIn Fence.wide n P a W' (fun a W'' => Q .normal a W'') Q) Q) : (Code.region id ops true).wpIn Fence.wide n P Q a0 w := by
 refine wpIn_region_any hf (wpIn_region_last2_aux m hm hXt hR hp hlast o2 ho2 hg2 hsteps (fun vs W o ho hx hr => ?_) (fun vs W o ho hx hr => ?_) ops.size (Array.replicate ops.size false) a0 w.drew (fun _ => undef) ?_ ?_ ?_ ?_)
 ·rw [hol] at ho
  injection ho with ho
  subst ho
  exact hpost vs W hx hr
 ·rw [hol] at ho
  injection ho with ho
  subst ho
  exact wanted_none hg
 ·have hno : ∀ j, (Array.replicate ops.size false).getD j true = true → j < ops.size → False := by
   intro j h hj
   rw [Array.getD_eq_getD_getElem?, Array.getElem?_replicate, if_pos hj] at h
   cases h
  exact ⟨hXr _, rfl, rfl, by simp, fun j h hj => (hno j h hj).elim, fun k _ => rfl, fun j h hj => (hno j h hj).elim⟩
 ·rw [Array.getD_eq_getD_getElem?, Array.getElem?_replicate, if_pos (by omega)]
  rfl
 ·rw [Array.getD_eq_getD_getElem?, Array.getElem?_replicate, if_pos (by omega)]
  rfl
 ·refine Nat.le_trans (List.length_filter_le _ _) (by simp)
end
end Go.Proofs.Ytbemhcihmlijaaa


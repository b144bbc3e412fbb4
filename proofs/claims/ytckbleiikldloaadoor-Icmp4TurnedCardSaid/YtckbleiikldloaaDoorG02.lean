/- Texts of this claim put together, in build order: each one's own remark stands ahead of it. -/
import Derived.Test.YtckbleiikldloaaDoorG01
import Derived.Lib.SliceRun
import Derived.BigQuiet
import Derived.Deep.QuietTactic
/- A region that draws its order, walked once: what each operation leaves is said of it alone, as far as it hangs on those that it waits for; then it is so whatever the order. No condition. -/
namespace Go.Proofs.YtckbleiikldloaaDoor
open Go.RowKit
set_option linter.unusedVariables false
set_option maxRecDepth 20000

/-- operation i waits for operation j -/
def waits (ops : Array Oper) (i j : Nat) : Bool := match ops[i]? with | some o => o.after.any fun e => Region.binds .any e && e.on == j | none => false
def dstOf (ops : Array Oper) (j : Nat) : Option Tmp := (ops[j]?).bind (·.dst)
/-- no operation writes slot k ahead of operation i -/
def freshFor (ops : Array Oper) (i k : Nat) : Bool := (List.range ops.size).all fun j => dstOf ops j != some k || waits ops j i || j == i
/-- each slot is written once, and lies in the frame; each operation waits for those ahead of it in the text alone -/
def plainB (ops : Array Oper) (n : Nat) : Bool :=
  (List.range ops.size).all fun i => (match dstOf ops i with | some d => decide (d < n) && (List.range ops.size).all fun j => j == i || dstOf ops j != some d | none => true) &&
    (match ops[i]? with | some o => o.after.all fun e => !Region.binds .any e || decide (e.on < i) | none => true)
def putAll (vs : Nat → Value) : Nat → List Oper → Act → Act
  | _, [], a => a
  | i, o :: r, a => putAll vs (i + 1) r (a.put o.dst (vs i))

section
variable (P : Program) (ops : Array Oper) (R : Nat → Value → World → Prop) (X : World → World → Prop) (a0 : Act) (w0 : World)
/-- what one operation leaves -/
def RelStep (i : Nat) (o : Oper) : Prop :=
  ∀ (a : Act) (vs : Nat → Value) (W : World), X w0 W → (∀ j, waits ops i j = true → R j (vs j) W) → (∀ j d, waits ops i j = true → dstOf ops j = some d → a.eval (.tmp d) = vs j) →
    (∀ k, freshFor ops i k = true → a.eval (.tmp k) = a0.eval (.tmp k)) → ∀ K : Act → World → Prop, (∀ v W', R i v W' → X W W' → K (a.put o.dst v) W') →
    if Region.wanted o (yielded ops a.tmps) = true then o.wp P a W K (fun _ _ _ => False) else K (a.put o.dst undef) W
def RelSteps : Nat → List Oper → Prop
  | _, [] => True
  | i, o :: r => RelStep P ops R X a0 w0 i o ∧ RelSteps (i + 1) r
end

section
variable {P : Program} {ops : Array Oper} {R : Nat → Value → World → Prop} {X : World → World → Prop} {a0 : Act} {w0 : World}
theorem relSteps_at (l : List Oper) : ∀ (k : Nat), RelSteps P ops R X a0 w0 k l → ∀ (i : Nat) (o : Oper), l[i]? = some o → RelStep P ops R X a0 w0 (k + i) o := by
  induction l with
  | nil => intro k _ i o h; simp at h
  | cons x l ih =>
    intro k h i o hi
    cases i with
    | zero => simp at hi; subst hi; exact h.1
    | succ i =>
      have := ih (k + 1) h.2 i o (by simpa using hi)
      rwa [show k + 1 + i = k + (i + 1) by omega] at this
theorem putAll_size (vs : Nat → Value) (l : List Oper) : ∀ (k : Nat) (a : Act), (putAll vs k l a).tmps.size = a.tmps.size := by
  induction l with
  | nil => exact fun _ _ => rfl
  | cons o l ih =>
    intro k a
    rw [putAll, ih]
    cases h : o.dst <;> simp [Act.put]
theorem putAll_defers (vs : Nat → Value) (l : List Oper) : ∀ (k : Nat) (a : Act), (putAll vs k l a).defers = a.defers := by
  induction l with
  | nil => exact fun _ _ => rfl
  | cons o l ih =>
    intro k a
    rw [putAll, ih]
    cases h : o.dst <;> simp [Act.put]
theorem putAll_none (vs : Nat → Value) (l : List Oper) (s : Nat) : ∀ (k : Nat) (a : Act), (∀ o ∈ l, o.dst ≠ some s) → (putAll vs k l a).eval (.tmp s) = a.eval (.tmp s) := by
  induction l with
  | nil => exact fun _ _ _ => rfl
  | cons o l ih =>
    intro k a h
    rw [putAll, ih (k + 1) _ (fun x hx => h x (by simp [hx]))]
    exact Act.eval_put fun d hd e => by injection e with e; exact h o (by simp) (by rw [hd, e])
theorem putAll_some (vs : Nat → Value) (l : List Oper) (s : Nat) : ∀ (k : Nat) (a : Act) (i : Nat) (o : Oper), l[i]? = some o → o.dst = some s → s < a.tmps.size → (∀ j x, l[j]? = some x → j ≠ i → x.dst ≠ some s) → (putAll vs k l a).eval (.tmp s) = vs (k + i) := by
  induction l with
  | nil => intro k a i o h; simp at h
  | cons x l ih =>
    intro k a i o hi hd hs hno
    cases i with
    | zero =>
      simp at hi
      subst hi
      rw [putAll, putAll_none vs l s (k + 1) _ (fun y hy => by
        obtain ⟨j, hj⟩ := List.getElem?_of_mem hy
        exact hno (j + 1) y (by simpa using hj) (by omega))]
      simp [Act.put, hd, Act.eval, hs]
    | succ i =>
      rw [putAll]
      have := ih (k + 1) (a.put x.dst (vs k)) i o (by simpa using hi) hd (by cases h : x.dst <;> simpa [Act.put] using hs) (fun j y hj hne => hno (j + 1) y (by simpa using hj) (by omega))
      rwa [show k + 1 + i = k + (i + 1) by omega] at this
theorem act_ext {a b : Act} (hs : a.tmps.size = b.tmps.size) (hd : a.defers = b.defers) (h : ∀ k, k < a.tmps.size → a.eval (.tmp k) = b.eval (.tmp k)) : a = b := by
  obtain ⟨ta, da⟩ := a
  obtain ⟨tb, db⟩ := b
  simp only at hs hd h
  subst hd
  congr 1
  apply Array.ext hs
  intro k h1 h2
  have := h k h1
  simp [Act.eval, h1, h2] at this
  exact this
theorem dst_bind {j : Nat} {o : Oper} (h : ops[j]? = some o) : dstOf ops j = o.dst := by simp [dstOf, h]

theorem upon_calm {o : Oper} {a : Act} {K : Act → World → Prop} {Q : Exit → Act → World → Prop} (r : Result Next) (h : Oper.upon P o a K (fun _ _ _ => False) r) : Oper.upon P o a K Q r := by
  cases r with
  | ok n w' =>
    cases n with
    | enter f args =>
      rw [Oper.upon_enter] at h ⊢
      refine Calls.mono h ?_
      intro e w' he
      cases e with
      | returned v => exact he
      | panicked c => exact he.elim
      | outgrown => obtain ⟨_, _, h⟩ := he; exact h.elim
    | _ => exact h
  | halt x w' => cases x <;> exact (h : False).elim

/-- what holds between two operations -/
structure RelInv (ops : Array Oper) (R : Nat → Value → World → Prop) (X : World → World → Prop) (a0 : Act) (w0 : World) (listed : Array Bool) (a : Act) (W : World) (vs : Nat → Value) : Prop where
  world : X w0 W
  size : a.tmps.size = a0.tmps.size
  defers : a.defers = a0.defers
  len : listed.size = ops.size
  vals : ∀ j, listed.getD j true = true → j < ops.size → R j (vs j) W ∧ ∀ d, dstOf ops j = some d → a.eval (.tmp d) = vs j
  rest : ∀ k, (∀ j, listed.getD j true = true → j < ops.size → dstOf ops j ≠ some k) → a.eval (.tmp k) = a0.eval (.tmp k)
  closed : ∀ j, listed.getD j true = true → j < ops.size → ∀ i, waits ops j i = true → listed.getD i true = true ∧ i < ops.size

theorem waits_of {i j : Nat} {o : Oper} (ho : ops[i]? = some o) (h : waits ops i j = true) : ∃ e ∈ o.after, Region.binds .any e = true ∧ e.on = j := by
  unfold waits at h
  rw [ho] at h
  obtain ⟨e, he, h2⟩ := Array.any_eq_true'.1 h
  simp at h2
  exact ⟨e, he, h2.1, h2.2⟩
theorem plain_at {n i : Nat} (h : plainB ops n = true) (hi : i < ops.size) : (∀ d, dstOf ops i = some d → d < n ∧ ∀ j, j < ops.size → j ≠ i → dstOf ops j ≠ some d) ∧ ∀ o, ops[i]? = some o → ∀ e ∈ o.after, Region.binds .any e = true → e.on < i := by
  unfold plainB at h
  have := List.all_eq_true.1 h i (List.mem_range.2 hi)
  rw [Bool.and_eq_true] at this
  obtain ⟨h1, h2⟩ := this
  refine ⟨fun d hd => ?_, fun o ho e he hb => ?_⟩
  · rw [hd] at h1
    simp only [Bool.and_eq_true, decide_eq_true_eq] at h1
    refine ⟨h1.1, fun j hj hne hdj => ?_⟩
    have := List.all_eq_true.1 h1.2 j (List.mem_range.2 hj)
    simp [hne, hdj] at this
  · rw [ho] at h2
    have := Array.all_eq_true_iff_forall_mem.1 h2 e he
    simpa [hb] using this

theorem listed_all {n : Nat} {listed : Array Bool} (hp : plainB ops n = true) (hl : listed.size = ops.size) (h : Region.ready .any ops listed = []) : ∀ i, i < ops.size → listed.getD i true = true := by
  intro i
  induction i using Nat.strongRecOn with
  | ind i ih =>
    intro hi
    rcases Bool.eq_false_or_eq_true (listed.getD i true) with ht | hf
    · exact ht
    · exfalso
      have hm : i ∈ Region.ready .any ops listed := by
        rw [mem_ready]
        refine ⟨hf, ops[i], Array.getElem?_eq_getElem hi, fun e he hb => ?_⟩
        have hlt := (plain_at hp hi).2 _ (Array.getElem?_eq_getElem hi) e he hb
        have := ih e.on hlt (by omega)
        rw [Array.getD_eq_getD_getElem?] at this ⊢
        rw [Array.getElem?_eq_getElem (by omega)] at this ⊢
        exact this
      rw [h] at hm
      cases hm

theorem wp_region_rel_aux {Q : Exit → Act → World → Prop} (hXt : ∀ A B C, X A B → X B C → X A C) (hR : ∀ i v A B, R i v A → X A B → R i v B) (hp : plainB ops a0.tmps.size = true)
    (hsteps : RelSteps P ops R X a0 w0 0 ops.toList) (hpost : ∀ vs W, X w0 W → (∀ i, i < ops.size → R i (vs i) W) → Q .normal (putAll vs 0 ops.toList a0) W) :
    ∀ (fuel : Nat) (listed : Array Bool) (a : Act) (W : World) (vs : Nat → Value), RelInv ops R X a0 w0 listed a W vs → ((List.range ops.size).filter fun i => !listed.getD i true).length ≤ fuel → wpAny P .any ops Q fuel listed a W := by
  have fin : ∀ (listed : Array Bool) (a : Act) (W : World) (vs : Nat → Value), RelInv ops R X a0 w0 listed a W vs → (∀ i, i < ops.size → listed.getD i true = true) → Q .normal a W := by
    intro listed a W vs I hall
    have ha : a = putAll vs 0 ops.toList a0 := by
      refine act_ext (by rw [putAll_size, I.size]) (by rw [putAll_defers, I.defers]) fun k hk => ?_
      by_cases hw : ∃ j, j < ops.size ∧ dstOf ops j = some k
      · obtain ⟨j, hj, hd⟩ := hw
        rw [(I.vals j (hall j hj) hj).2 k hd]
        have hoj : ops.toList[j]? = some ops[j] := by simp [Array.getElem?_eq_getElem hj]
        have := putAll_some vs ops.toList k 0 a0 j ops[j] hoj (by rw [← dst_bind (Array.getElem?_eq_getElem hj)]; exact hd) (by rw [← I.size]; exact hk) (fun i x hx hne => by
          have hx' : ops[i]? = some x := by simpa using hx
          rw [← dst_bind hx']
          exact ((plain_at hp hj).1 k hd).2 i (Array.getElem?_eq_some_iff.1 hx').1 hne)
        rw [this, Nat.zero_add]
      · rw [I.rest k (fun j _ hj hd => hw ⟨j, hj, hd⟩)]
        refine (putAll_none vs ops.toList k 0 a0 fun o ho hd => ?_).symm
        obtain ⟨j, hj⟩ := List.getElem?_of_mem ho
        have hj' : ops[j]? = some o := by simpa using hj
        exact hw ⟨j, (Array.getElem?_eq_some_iff.1 hj').1, by rw [dst_bind hj']; exact hd⟩
    rw [ha]
    exact hpost vs W I.world fun i hi => (I.vals i (hall i hi) hi).1
  intro fuel
  induction fuel with
  | zero =>
    intro listed a W vs I hlen
    have hall : ∀ i, i < ops.size → listed.getD i true = true := by
      intro i hi
      rcases Bool.eq_false_or_eq_true (listed.getD i true) with ht | hf
      · exact ht
      · have : i ∈ (List.range ops.size).filter fun i => !listed.getD i true := List.mem_filter.2 ⟨List.mem_range.2 hi, by simp only [hf, Bool.not_false]⟩
        have hnil : ((List.range ops.size).filter fun i => !listed.getD i true) = [] := List.eq_nil_of_length_eq_zero (by omega)
        rw [hnil] at this
        cases this
    refine ⟨?_, fin listed a W vs I hall⟩
    apply List.eq_nil_iff_forall_not_mem.2
    intro i hi
    obtain ⟨h1, o, ho, _⟩ := mem_ready.1 hi
    rw [hall i (Array.getElem?_eq_some_iff.1 ho).1] at h1
    cases h1
  | succ fuel ih =>
    intro listed a W vs I hlen
    refine ⟨fun h => fin listed a W vs I (listed_all hp I.len h), fun i hi => ?_⟩
    obtain ⟨hun, o, ho, hall⟩ := mem_ready.1 hi
    have hilt : i < ops.size := (Array.getElem?_eq_some_iff.1 ho).1
    have hst := relSteps_at ops.toList 0 hsteps i o (by simpa using ho)
    rw [Nat.zero_add] at hst
    have hpre : ∀ j, waits ops i j = true → listed.getD j true = true ∧ j < ops.size := by
      intro j hj
      obtain ⟨e, he, hb, rfl⟩ := waits_of ho hj
      have h1 := hall e he hb
      have hlt := (plain_at hp hilt).2 o ho e he hb
      have hjs : e.on < ops.size := by omega
      refine ⟨?_, hjs⟩
      rw [Array.getD_eq_getD_getElem?] at h1 ⊢
      rw [Array.getElem?_eq_getElem (by rw [I.len]; exact hjs)] at h1 ⊢
      exact h1
    have key := hst a vs W I.world (fun j hj => (I.vals j (hpre j hj).1 (hpre j hj).2).1) (fun j d hj hd => (I.vals j (hpre j hj).1 (hpre j hj).2).2 d hd)
      (fun k hk => I.rest k fun j hlj hj hd => by
        have := List.all_eq_true.1 hk j (List.mem_range.2 hj)
        simp only [hd, bne_self_eq_false, Bool.false_or, Bool.or_eq_true, beq_iff_eq] at this
        rcases this with h | h
        · have := (I.closed j hlj hj i h).1
          rw [hun] at this
          cases this
        · subst h
          rw [hun] at hlj
          cases hlj)
    have next : ∀ v W', R i v W' → X W W' → wpAny P .any ops Q fuel (listed.setIfInBounds i true) (a.put o.dst v) W' := by
      intro v W' hv hx
      have hils : i < listed.size := by rw [I.len]; exact hilt
      have hget : ∀ j, (listed.setIfInBounds i true).getD j true = if j = i then true else listed.getD j true := by
        intro j
        by_cases hj : j = i
        · subst hj
          rw [if_pos rfl, Array.getD_eq_getD_getElem?, Array.getElem?_setIfInBounds_self_of_lt hils]
          rfl
        · rw [if_neg hj, Array.getD_eq_getD_getElem?, Array.getD_eq_getD_getElem?, Array.getElem?_setIfInBounds_ne (fun e => hj e.symm)]
      have hput : ∀ k, o.dst ≠ some k → (a.put o.dst v).eval (.tmp k) = a.eval (.tmp k) := fun k hk => Act.eval_put fun d hd e => by injection e with e; exact hk (by rw [hd, e])
      refine ih _ _ _ (fun j => if j = i then v else vs j) ?_ ?_
      · refine ⟨hXt _ _ _ I.world hx, ?_, ?_, by rw [Array.size_setIfInBounds, I.len], ?_, ?_, ?_⟩
        · rw [← I.size]; cases h : o.dst <;> simp [Act.put]
        · rw [← I.defers]; cases h : o.dst <;> simp [Act.put]
        · intro j hj hjs
          rw [hget] at hj
          by_cases hji : j = i
          · subst hji
            simp only [if_true]
            refine ⟨hv, fun d hd => ?_⟩
            rw [dst_bind ho] at hd
            have hdl : d < a.tmps.size := by rw [I.size]; exact ((plain_at hp hjs).1 d (by rw [dst_bind ho]; exact hd)).1
            simp [Act.put, hd, Act.eval, hdl]
          · rw [if_neg hji] at hj
            simp only [if_neg hji]
            obtain ⟨h1, h2⟩ := I.vals j hj hjs
            refine ⟨hR _ _ _ _ h1 hx, fun d hd => ?_⟩
            rw [hput d (fun e => ((plain_at hp hjs).1 d hd).2 i hilt (fun e => hji e.symm) (by rw [dst_bind ho]; exact e))]
            exact h2 d hd
        · intro k hk
          have hki : o.dst ≠ some k := by
            have := hk i (by rw [hget, if_pos rfl]) hilt
            rwa [dst_bind ho] at this
          rw [hput k hki]
          exact I.rest k fun j hj hjs => hk j (by rw [hget]; split <;> first | rfl | exact hj) hjs
        · intro j hj hjs k hk
          have hkk : listed.getD k true = true ∧ k < ops.size := by
            rw [hget] at hj
            by_cases hji : j = i
            · subst hji
              exact hpre k hk
            · rw [if_neg hji] at hj
              exact I.closed j hj hjs k hk
          exact ⟨by rw [hget]; split <;> first | rfl | exact hkk.1, hkk.2⟩
      · have hsub : ((List.range ops.size).filter fun j => !(listed.setIfInBounds i true).getD j true) = (((List.range ops.size).filter fun j => !listed.getD j true).filter fun j => !decide (j = i)) := by
          rw [List.filter_filter]
          apply List.filter_congr
          intro j _
          rw [hget]
          by_cases hji : j = i
          · simp [hji]
          · simp [hji]
        rw [hsub]
        have hmem : i ∈ (List.range ops.size).filter fun j => !listed.getD j true := List.mem_filter.2 ⟨List.mem_range.2 hilt, by simp only [hun, Bool.not_false]⟩
        have := List.length_filter_lt_length_iff_exists (p := fun j => !decide (j = i)) |>.2 ⟨i, hmem, by simp⟩
        omega
    have key2 := key (wpAny P .any ops Q fuel (listed.setIfInBounds i true)) next
    unfold wpOp
    rw [ho]
    simp only
    by_cases hw : Region.wanted o (yielded ops a.tmps) = true
    · rw [if_pos hw] at key2 ⊢
      exact .inl (upon_calm _ key2)
    · rw [if_neg hw] at key2 ⊢
      exact key2

/-- the law -/
theorem wp_region_rel {id : Nat} {Q : Exit → Act → World → Prop} {w : World} (X : World → World → Prop) (hXr : ∀ A, X A A) (hXt : ∀ A B C, X A B → X B C → X A C) (R : Nat → Value → World → Prop) (hR : ∀ i v A B, R i v A → X A B → R i v B)
    (hm : P.follows .mixedOrders = true) (hp : plainB ops a0.tmps.size = true) (hsteps : RelSteps P ops R X a0 w.drew 0 ops.toList)
    (hpost : ∀ vs W, X w.drew W → (∀ i, i < ops.size → R i (vs i) W) → Q .normal (putAll vs 0 ops.toList a0) W) : (Code.region id ops true).wp P Q a0 w := by
  refine wp_region_any hm (wp_region_rel_aux hXt hR hp hsteps hpost ops.size (Array.replicate ops.size false) a0 w.drew (fun _ => undef) ?_ ?_)
  · have hno : ∀ j, (Array.replicate ops.size false).getD j true = true → j < ops.size → False := by
      intro j h hj
      rw [Array.getD_eq_getD_getElem?, Array.getElem?_replicate, if_pos hj] at h
      cases h
    exact ⟨hXr _, rfl, rfl, by simp, fun j h hj => (hno j h hj).elim, fun k _ => rfl, fun j h hj => (hno j h hj).elim⟩
  · refine Nat.le_trans (List.length_filter_le _ _) (by simp)
end

/-- what the operations leave, as a list -/
def relAt (l : List (Value → World → Prop)) (i : Nat) (v : Value) (W : World) : Prop := (l.getD i fun _ _ => True) v W
inductive MonoL (X : World → World → Prop) : List (Value → World → Prop) → Prop
  | nil : MonoL X []
  | cons {r : Value → World → Prop} {l : List (Value → World → Prop)} (h : ∀ v A B, r v A → X A B → r v B) (t : MonoL X l) : MonoL X (r :: l)
theorem MonoL.at_ {X : World → World → Prop} {l : List (Value → World → Prop)} (h : MonoL X l) : ∀ i v A B, relAt l i v A → X A B → relAt l i v B := by
  induction h with
  | nil => intro i v A B _ _; cases i <;> exact True.intro
  | cons h t ih =>
    intro i v A B hr hx
    cases i with
    | zero => exact h v A B hr hx
    | succ i => exact ih i v A B hr hx
theorem mono_val {X : World → World → Prop} (x : Value) : ∀ v A B, (fun (v : Value) (_ : World) => v = x) v A → X A B → (fun (v : Value) (_ : World) => v = x) v B := fun _ _ _ h _ => h
theorem grown_trans {A B C : World} {r : Option Nat} (h : A.grownBy B r) (k : B.grownBy C r) : A.grownBy C r :=
  ⟨k.os.trans h.os, k.tape.trans h.tape, k.output.trans h.output, Nat.le_trans h.size k.size, fun i hi hne => (k.block i (Nat.lt_of_lt_of_le hi h.size) hne).trans (h.block i hi hne)⟩
theorem below_grow {A B : World} (h : Below A.heap.size A B) (r : Option Nat) : A.grownBy B r := ⟨h.os, h.tape, h.output, h.size, fun k hk _ => h.block k hk⟩
theorem grow_below {A B : World} (h : A.grownBy B none) : Below A.heap.size A B := ⟨h.os, h.tape, h.output, h.size, fun k hk => h.block k hk (by simp)⟩
theorem drew_grow (w : World) (r : Option Nat) : w.grownBy w.drew r := below_grow (below_drewN (Below.refl _ _) 1) r
theorem wp_enter {P : Program} {o : Oper} {a : Act} {w : World} {K : Act → World → Prop} {Q : Exit → Act → World → Prop} {f : FuncId} {args : Array Value} (h : (execOp a.eval o).run P w = .ok (.enter f args) w)
    (hc : Calls P f args w fun e w' => ∃ v, e = .returned v ∧ K (a.put o.dst v) w') : o.wp P a w K Q := by
  unfold Oper.wp
  rw [h, Oper.upon_enter]
  refine Calls.mono hc ?_
  rintro e w' ⟨v, rfl, hk⟩
  exact hk
theorem wp_skip {P : Program} {o : Oper} {a : Act} {w w' : World} {K : Act → World → Prop} {Q : Exit → Act → World → Prop} (h : (execOp a.eval o).run P w = .ok .skip w') (hk : K (a.put o.dst undef) w') : o.wp P a w K Q := by
  unfold Oper.wp
  rw [h]
  exact hk

/-- new blocks, and block g, that is as long as it was, and stays what it is once it holds cs -/
structure Ext1 (g : Nat) (t : TypeId) (cs : List Value) (A B : World) : Prop where
  grown : A.grownBy B (some g)
  stays : Blk A g t cs → Blk B g t cs
  there : (∃ zs, zs.length = cs.length ∧ Blk A g t zs) → ∃ zs, zs.length = cs.length ∧ Blk B g t zs
theorem Ext1.refl (g : Nat) (t : TypeId) (cs : List Value) (A : World) : Ext1 g t cs A A := ⟨grown_refl A _, id, id⟩
theorem Ext1.trans {g : Nat} {t : TypeId} {cs : List Value} {A B C : World} (h : Ext1 g t cs A B) (k : Ext1 g t cs B C) : Ext1 g t cs A C := ⟨grown_trans h.grown k.grown, fun x => k.stays (h.stays x), fun x => k.there (h.there x)⟩
theorem Ext1.below {g : Nat} {t : TypeId} {cs : List Value} {A B : World} (h : Below A.heap.size A B) : Ext1 g t cs A B := ⟨below_grow h _, fun x => x.on h, fun ⟨zs, h1, h2⟩ => ⟨zs, h1, h2.on h⟩⟩
theorem Ext1.store {g : Nat} {t : TypeId} {cs : List Value} {A B : World} (h : A.grownBy B (some g)) (hb : Blk B g t cs) : Ext1 g t cs A B := ⟨h, fun _ => hb, fun _ => ⟨cs, rfl, hb⟩⟩

theorem wanted_none {ops : Array Oper} {o : Oper} {t : Array Value} (h : o.guard = none) : Region.wanted o (yielded ops t) = true := by unfold Region.wanted; rw [h]
theorem wanted_some {ops : Array Oper} {o : Oper} {a : Act} {g : Nat} {want b : Bool} {d : Tmp} (h : o.guard = some (g, want)) (hd : dstOf ops g = some d) (hv : a.eval (.tmp d) = .bool b) : Region.wanted o (yielded ops a.tmps) = (b == want) := by
  unfold Region.wanted
  rw [h]
  simp only
  have hy : yielded ops a.tmps g = some b := by
    unfold yielded
    have hd' : (ops[g]?).bind (·.dst) = some d := hd
    rw [hd']
    simp only [Option.bind_some]
    have hv' : a.tmps[d]?.getD undef = .bool b := by simpa [Act.eval] using hv
    cases ht : a.tmps[d]? with
    | none => rw [ht] at hv'; cases hv'
    | some x => rw [ht] at hv'; simp at hv'; subst hv'; rfl
  rw [hy]
  simp

/-- a slice of bytes, told by what it holds -/
def BsR (l : List UInt8) (v : Value) (W : World) : Prop := ∃ A n c, v = .slice A n c ∧ (Bs.mk A n c l).ok W
theorem mono_bs (l : List UInt8) : ∀ v A B, BsR l v A → World.grownBy A B none → BsR l v B := fun _ _ _ ⟨X, n, c, h, ho⟩ hg => ⟨X, n, c, h, ho.below (grow_below hg)⟩
theorem mono_bs1 (l : List UInt8) {g : Nat} {t : TypeId} {cs : List Value} : ∀ v A B, BsR l v A → (Below A.heap.size A B) → BsR l v B := fun _ _ _ ⟨X, n, c, h, ho⟩ hg => ⟨X, n, c, h, ho.below hg⟩
/-- a row of slices of bytes -/
def RowsR (ls : List (List UInt8)) (v : Value) (W : World) : Prop := ∃ (rows : List Bs) (R : Option Addr) (k c : Nat), v = .slice R k c ∧ rows.map (·.l) = ls ∧ Row W W.heap.size 1 R k (rows.map Bs.v) ∧ ∀ r ∈ rows, r.ok W
theorem mono_rows (ls : List (List UInt8)) : ∀ v A B, RowsR ls v A → World.grownBy A B none → RowsR ls v B := fun _ _ _ ⟨rows, R, k, c, h, hl, hr, ho⟩ hg =>
  ⟨rows, R, k, c, h, hl, (hr.below (grow_below hg)).more (grow_below hg).size, fun r hx => (ho r hx).below (grow_below hg)⟩
theorem exec_str {P : Program} {w : World} {o : Oper} {a : Act} (T S e : TypeId) (x : Operand) (ho : o.op = .convert T S x) (hT : P.underlying T = some (.slice e)) (he : P.underlying e = some (.int .u8)) (hS : P.underlying S = some .string)
    (A : Option Addr) (n c : Nat) (l : List UInt8) (hx : a.eval x = .slice A n c) (hr : (Bs.mk A n c l).ok w) : (execOp a.eval o).run P w = .ok (.value (str l)) w := by
  have hrun := run_bytes_str (P := P) w T S e hT he hS _ A n c l hr.row
  unfold execOp
  simp only [ho, Sem.run_bind, hx, hrun, Result.andThen_ok]
  rfl
theorem flat_map (rows : List Bs) : flat rows = (rows.map (·.l)).flatten := by simp [flat, List.flatMap]
end Go.Proofs.YtckbleiikldloaaDoor

/- An append whose row is known to be turned only where it has room; a drawn region that holds one. No condition. -/
namespace Go.Proofs.YtckbleiikldloaaDoor
open Go.RowKit
set_option linter.unusedVariables false
set_option maxRecDepth 20000
section
variable {P : Program} {w : World}
theorem run_append_Own2 (base : Nat) (t ty e : TypeId) (z : Value) (sz bytes : Nat) (ht : P.underlying t = some (.slice e)) (hinfo : (P.info? e).map (fun i => (i.zero, i.size, i.bytes)) = some (some z, sz, bytes))
    (hzs : z.cells.size = sz) (hsz : 0 < sz)
    (A : Option Addr) (n c : Nat) (xs : List Value) (hown : Own w base e sz A n c xs)
    (B : Nat) (X : Option Addr) (m cx : Nat) (news : List Value) (hr : Row w B sz X m news) (h1 : ∀ u ∈ news, u.oneCell' = true)
    (h63 : n + m ≤ maxLen) (hbytes : (n + m) * bytes ≤ 140737488355328) (hbase : base ≤ w.heap.size) :
    ∃ A' c' w', (Builtin.append_ #[t, t] ty #[.slice A n c, .slice X m cx]).run P w = .ok (.slice A' (n + m) c') w' ∧ Own w' base e sz A' (n + m) c' (xs ++ news) ∧ w.grownBy w' (if n + m ≤ c then blk A c else none) ∧
      (n + m ≤ c → A' = A ∧ c' = c) ∧ (¬ n + m ≤ c → ∃ g, A' = some ⟨g, 0, none⟩ ∧ w.heap.size ≤ g) := by
  obtain ⟨i, hi, hz, hsize, hby⟩ := info_parts hinfo
  subst hsize
  subst hby
  rcases Nat.eq_zero_or_pos m with h0 | h0
  · subst h0
    have hn : news = [] := List.eq_nil_of_length_eq_zero (by simpa using hr.1)
    subst hn
    refine ⟨A, c, w, run_append_same w t ty e i ht hi A X n c cx hown.le, by simpa using hown, World.grownBy.refl w _, fun _ => ⟨rfl, rfl⟩, fun h => absurd hown.le (by simpa using h)⟩
  obtain ⟨b, o, rfl, hbB, hcell⟩ := hr.2 h0
  have hnews : ∀ j u, news[j]? = some u → w.cell? ((⟨b, o, none⟩ : Addr).add j) = some u := by
    intro j u hu
    have := hcell j u hu
    unfold Addr.add
    split
    · rename_i hj; subst hj; simpa using this
    · exact this
  have hsmall : n + m ≤ 9223372036854775807 := by simp only [maxLen] at h63; omega
  have hlen : (xs ++ news).length = (n + m) * i.size := by rw [List.length_append, hown.len, hr.1, Nat.add_mul]
  have grown : ∀ (old : Nat), Own (w.drew.alloc (.cells (xs.toArray ++ news.toArray ++ Builtin.zeroCells z.cells (grownCap w (n + m) old e - (n + m))) e)) base e i.size
        (some ⟨w.heap.size, 0, none⟩) (n + m) (grownCap w (n + m) old e) (xs ++ news) := by
    intro old
    have hge := grownCap_ge w (n + m) old e
    refine ⟨hlen, hge, grownCap_le_maxLen w (n + m) old e h63, .inr ⟨w.heap.size, _, rfl, hbase, heap_alloc_new w.drew _, ?_, ?_⟩⟩
    · simp only [Array.size_append, List.size_toArray, size_zeroCells, hzs, hown.len, hr.1, ← Nat.add_mul]
      congr 1
      omega
    · simp only [Array.toList_append, List.append_assoc]
      rw [← List.append_assoc, ← hlen]
      exact List.take_left
  have hnn : news.length = m * i.size := hr.1
  by_cases hroom : n + m ≤ c
  · rcases hown.own with ⟨hn0, hc0⟩ | ⟨g, cur, rfl, hbg, hg, hcs, htake⟩
    · omega
    · have hfit : n * i.size + news.length ≤ cur.size := by rw [hnn, hcs, ← Nat.add_mul]; exact Nat.mul_le_mul_right _ hroom
      have hrun := run_append_room (P := P) w t ty e i ht hi g n c cur hg ⟨b, o, none⟩ m cx news hnn hnews h1 hroom hfit
      refine ⟨_, _, _, hrun, ⟨hlen, hroom, hown.cap, .inr ⟨g, _, rfl, hbg, setRow_heap w g cur _ e _ hg, ?_, ?_⟩⟩, by rw [if_pos hroom]; exact ⟨rfl, rfl, rfl, by simp, fun k _ hk => setRow_other w g k _ (fun e => hk (by rw [e]; unfold blk; rw [if_neg (by omega)]; rfl))⟩, fun _ => ⟨rfl, rfl⟩, fun h => absurd hroom h⟩
      · simp only [List.size_toArray, List.length_append, List.length_take, List.length_drop, Array.length_toList]
        omega
      · rw [htake, ← hlen]
        exact List.take_left
  · rcases A with _ | ad
    · have hn0 : n = 0 := by
        rcases hown.own with ⟨hn0, hc0⟩ | ⟨g, cur, hA, _⟩
        · exact hn0
        · cases hA
      have hc0 : c = 0 := by
        rcases hown.own with ⟨hn0, hc0⟩ | ⟨g, cur, hA, _⟩
        · exact hc0
        · cases hA
      subst hn0
      subst hc0
      have hx : xs = [] := List.eq_nil_of_length_eq_zero (by simpa using hown.len)
      subst hx
      have hrun := run_append_nil (P := P) w t ty e i z ht hi hz ⟨b, o, none⟩ m cx news hnn hnews h0 (by omega) (by have hb := hbytes; simp only [Nat.zero_add] at hb; omega)
      have hgr := grown 0
      simp only [Nat.zero_add, List.nil_append, Array.empty_append] at hgr ⊢
      exact ⟨_, _, _, hrun, hgr, by rw [if_neg (by omega)]; exact grownBy_new w _ _ _, fun h => absurd h (by omega), fun _ => ⟨_, rfl, Nat.le_refl _⟩⟩
    · have holds : ∀ j u, xs[j]? = some u → w.cell? (ad.add j) = some u := by
        intro j u hu
        have hj : j < xs.length := by
          rcases Nat.lt_or_ge j xs.length with h | h
          · exact h
          · rw [List.getElem?_eq_none h] at hu; cases hu
        have hnp : 0 < n := by
          rcases Nat.eq_zero_or_pos n with hz0 | hp
          · rw [hown.len, hz0] at hj; omega
          · exact hp
        obtain ⟨b', o', hA, _, hc'⟩ := hown.row.2 hnp
        injection hA with hA
        subst hA
        have := hc' j u hu
        unfold Addr.add
        split
        · rename_i hj0; subst hj0; simpa using this
        · exact this
      have hrun := run_append_grow (P := P) w t ty e i z ht hi hz ad n c xs hown.len holds ⟨b, o, none⟩ m cx news hnn hnews (by omega) (by omega) (growslice_fits (by omega) hbytes)
      exact ⟨_, _, _, hrun, grown c, by rw [if_neg hroom]; exact grownBy_new w _ _ _, fun h => absurd h hroom, fun _ => ⟨_, rfl, Nat.le_refl _⟩⟩
end
/-- what an append leaves -/
def OwnV (base k : Nat) (xs : List Value) (v : Value) (W : World) : Prop := ∃ A c, v = .slice A k c ∧ Own W base 5 1 A k c xs
theorem OwnV.grown {base k : Nat} {xs : List Value} {v : Value} {A B : World} (h : OwnV base k xs v A) (hg : A.grownBy B none) : OwnV base k xs v B := by
  obtain ⟨X, c, hv, ho⟩ := h
  exact ⟨X, c, hv, ho.kept hg (fun g _ e => by cases e)⟩
structure AppS where
  base : Nat
  n : Nat
  c : Nat
  A : Option Addr
/-- a region that appends once to a row: its steps -/
structure ExtA (p : AppS) (xs news : List Value) (A B : World) : Prop where
  grown : A.grownBy B (blk p.A p.c)
  stays : ∀ v, OwnV p.base (p.n + news.length) (xs ++ news) v A → OwnV p.base (p.n + news.length) (xs ++ news) v B
  pre : Own A p.base 5 1 p.A p.n p.c xs → Own B p.base 5 1 p.A p.n p.c xs
theorem ExtA.refl (p : AppS) (xs news : List Value) (A : World) : ExtA p xs news A A := ⟨grown_refl A _, fun _ h => h, id⟩
theorem ExtA.trans {p : AppS} {xs news : List Value} {A B C : World} (h : ExtA p xs news A B) (k : ExtA p xs news B C) : ExtA p xs news A C := ⟨grown_trans h.grown k.grown, fun v x => k.stays v (h.stays v x), fun x => k.pre (h.pre x)⟩
theorem grown_wide {A B : World} (row : Option Nat) (h : A.grownBy B none) : A.grownBy B row := below_grow (grow_below h) row
theorem ExtA.plain {p : AppS} {xs news : List Value} {A B : World} (h : A.grownBy B none) : ExtA p xs news A B := ⟨grown_wide _ h, fun _ x => x.grown h, fun x => x.kept h (fun g _ e => by cases e)⟩
theorem blk_some {W : World} {base n c g : Nat} {t : TypeId} {A : Option Addr} {xs : List Value} (h : Own W base t 1 A n c xs) (hb : blk A c = some g) : A = some ⟨g, 0, none⟩ ∧ ∃ cur : Array Value, W.heap[g]? = some (.cells cur t (0, 0)) ∧ cur.size = c := by
  unfold blk at hb
  split at hb
  · cases hb
  · rename_i hc
    rcases h.own with ⟨_, h0⟩ | ⟨g', cur, rfl, _, hh, hs, _⟩
    · omega
    · simp at hb
      subst hb
      exact ⟨rfl, cur, hh, by omega⟩
theorem own_short {W : World} {base n m c : Nat} {t : TypeId} {A : Option Addr} {xs news : List Value} (h : Own W base t 1 A (n + m) c (xs ++ news)) (hx : xs.length = n) : Own W base t 1 A n c xs := by
  refine ⟨by omega, by have := h.le; omega, h.cap, ?_⟩
  rcases h.own with ⟨h0, h1⟩ | ⟨g, cur, hA, hb, hh, hs, ht⟩
  · exact .inl ⟨by omega, h1⟩
  · refine .inr ⟨g, cur, hA, hb, hh, hs, ?_⟩
    have h2 := congrArg (List.take n) ht
    rw [List.take_take, List.take_left' hx, show min n ((n + m) * 1) = n * 1 by omega] at h2
    exact h2
theorem ExtA.app {w w' : World} {p : AppS} {c' : Nat} {A' : Option Addr} {xs news : List Value} (ho : Own w p.base 5 1 p.A p.n p.c xs) (ho' : Own w' p.base 5 1 A' (p.n + news.length) c' (xs ++ news))
    (hg : w.grownBy w' (if p.n + news.length ≤ p.c then blk p.A p.c else none)) (hin : p.n + news.length ≤ p.c → A' = p.A ∧ c' = p.c) : ExtA p xs news w w' := by
  by_cases hr : p.n + news.length ≤ p.c
  · rw [if_pos hr] at hg
    obtain ⟨e1, e2⟩ := hin hr
    rw [e1, e2] at ho'
    refine ⟨hg, fun v hv => ?_, fun _ => own_short ho' (by have := ho.len; omega)⟩
    obtain ⟨X, d, rfl, hx⟩ := hv
    by_cases he : ∃ g, blk X d = some g ∧ blk p.A p.c = some g
    · obtain ⟨g, h1, h2⟩ := he
      obtain ⟨rfl, cur, hc1, hs1⟩ := blk_some hx h1
      obtain ⟨e3, cur2, hc2, hs2⟩ := blk_some ho h2
      rw [hc1] at hc2
      injection hc2 with hc2
      injection hc2 with hc2
      subst hc2
      rw [e3] at ho'
      exact ⟨_, _, by rw [show d = p.c by omega], ho'⟩
    · exact ⟨X, d, rfl, hx.kept hg (fun g h1 h2 => he ⟨g, h1, h2⟩)⟩
  · rw [if_neg hr] at hg
    exact ExtA.plain hg
end Go.Proofs.YtckbleiikldloaaDoor

/- What the program's bytes-and-numbers functions (octet.Cut, octet.Get, octet.Put, slices.Clone) compute. No condition but sizes. -/
namespace Go.Proofs.YtckbleiikldloaaDoor
open Go.RowKit
set_option linter.unusedVariables false
set_option maxRecDepth 20000

theorem infoByte : (Tryd.prog.info? 5).map (fun i => (i.zero, i.size, i.bytes)) = some (some (.int .u8 0), 1, 1) := by kernel_rfl

set_option maxHeartbeats 400000 in
theorem clone_bytes (A : Option Addr) (n c : Nat) (l : List UInt8) (w : World) (h : Row w w.heap.size 1 A n (bv l)) (hn : n ≤ 1099511627776) :
    Calls Tryd.prog 65 #[.slice A n c] w fun e w' => ∃ A' c', e = .returned (.slice A' n c') ∧ Own w' w.heap.size 5 1 A' n c' (bv l) ∧ Below w.heap.size w w' := by
  rcases A with _ | a
  · have h0 : n = 0 := by
      rcases Nat.eq_zero_or_pos n with h0 | h0
      · exact h0
      · obtain ⟨b, o, hA, _⟩ := h.2 h0; cases hA
    subst h0
    have hl : bv l = [] := List.eq_nil_of_length_eq_zero (by simpa using h.1)
    rw [hl]
    clear hl h
    have he := fun W => Lib.run_eql_slice_nil (P := Tryd.prog) W 22 5 none 0 c 0 0 Tryd.underlying22
    go_enter Tryd.func65, Tryd.ntmps65
    go_wp2
    go_ret
    exact ⟨none, 0, rfl, Own.nil _ _ _ _ _, Below.refl _ _⟩
  · have he := fun W => Lib.run_eql_slice_nil (P := Tryd.prog) W 22 5 (some a) n c 0 0 Tryd.underlying22
    go_enter Tryd.func65, Tryd.ntmps65
    go_wp2_with (at_builtin; refine wpList_append_Own _ rfl _ _ 22 rfl w.heap.size 5 _ 1 1 Tryd.underlying22 infoByte rfl (by decide) _ 0 0 [] rfl (Own.nil _ _ _ _ _) w.heap.size (some a) n c (bv l) rfl (h.below ((Below.refl _ _).alloc (Nat.le_refl _) _)) (bv_one l) (by simp only [maxLen]; omega) (by omega) (by simp) ?_; intro A' c' w1 hown hg _)
    go_ret
    simp only [Nat.zero_add, List.nil_append] at hown
    exact ⟨A', c', by simp, hown, ((Below.refl _ _).alloc (Nat.le_refl _) _).grown hg (by simp) (by simp [blk])⟩

/-- the bytes are there -/
def There (n : Nat) (i s : Int) : Prop := 0 ≤ i ∧ 0 ≤ s ∧ i ≤ n ∧ s ≤ n - i
instance (n : Nat) (i s : Int) : Decidable (There n i s) := by unfold There; infer_instance

set_option maxHeartbeats 400000 in
theorem cut_no (A : Option Addr) (n c : Nat) (i s : Int) (w : World) (hn : n ≤ 1099511627776) (hno : ¬ There n i s) :
    Calls Tryd.prog 52 #[.slice A n c, .int .i64 i, .int .i64 s] w fun e w' => e = .returned (.tuple #[.slice none 0 0, .bool false]) ∧ w = w' := by
  by_cases h1 : i < 0
  · clear hno
    go_enter Tryd.func52, Tryd.ntmps52
    go_wp2_with fail
    go_ret2
    exact ⟨rfl, rfl⟩
  by_cases h2 : s < 0
  · clear hno
    go_enter Tryd.func52, Tryd.ntmps52
    go_wp2_with fail
    go_ret2
    exact ⟨rfl, rfl⟩
  by_cases h3 : (n : Int) < i
  · clear hno
    go_enter Tryd.func52, Tryd.ntmps52
    go_wp2_with fail
    go_ret2
    exact ⟨rfl, rfl⟩
  have h4 : (n : Int) - i < s := by unfold There at hno; omega
  clear hno
  go_enter Tryd.func52, Tryd.ntmps52
  go_wp2_with fail
  go_ret2
  exact ⟨rfl, rfl⟩

set_option maxHeartbeats 400000 in
theorem cut_yes (A : Option Addr) (n c : Nat) (l : List UInt8) (i s : Int) (w : World) (h : Row w w.heap.size 1 A n (bv l)) (hc : n ≤ c) (hcm : c ≤ maxLen) (hn : n ≤ 1099511627776) (hi : 0 ≤ i) (hs : 0 ≤ s) (hle : i + s ≤ n) :
    Calls Tryd.prog 52 #[.slice A n c, .int .i64 i, .int .i64 s] w fun e w' => ∃ A' c', e = .returned (.tuple #[.slice A' s.toNat c', .bool true]) ∧ Own w' w.heap.size 5 1 A' s.toNat c' (bv ((l.drop i.toNat).take s.toNat)) ∧ Below w.heap.size w w' := by
  obtain ⟨i, rfl⟩ := Int.eq_ofNat_of_zero_le hi
  obtain ⟨s, rfl⟩ := Int.eq_ofNat_of_zero_le hs
  simp only [Int.toNat_natCast]
  unfold maxLen at hcm
  have hle' : i + s ≤ n := by omega
  have h3 : i ≤ n := by omega
  have h4 : (s : Int) ≤ (n : Int) - (i : Int) := by omega
  clear hi hs
  by_cases hs0 : s = 0
  · subst hs0
    go_enter Tryd.func52, Tryd.ntmps52
    go_wp2_with fail
    refine (clone_bytes _ 0 _ [] _ (Row.nil _ _ _ _) (by omega)).mono ?_
    rintro e w' ⟨A', c', rfl, hown, hb⟩
    go_wp2_with fail
    go_ret2
    exact ⟨A', c', rfl, by simpa using hown, hb⟩
  · have hr := h.sub1 (i := i) (k := s) hle'
    rw [← bv_drop, ← bv_take] at hr
    have HR := Lib.hid hr
    clear hr h
    go_enter Tryd.func52, Tryd.ntmps52
    go_wp2_with fail
    refine (clone_bytes _ s _ _ _ HR.out (by omega)).mono ?_
    rintro e w' ⟨A', c', rfl, hown, hb⟩
    go_wp2_with fail
    go_ret2
    exact ⟨A', c', rfl, hown, hb⟩

/-- bytes as a number, the highest one first -/
def be (l : List UInt8) : Nat := l.foldl (fun n u => n * 256 + u.toNat) 0

set_option maxHeartbeats 400000 in
theorem get_no (A : Option Addr) (n c : Nat) (l : List UInt8) (i s : Int) (w : World) (h : Row w w.heap.size 1 A n (bv l)) (hc : n ≤ c) (hcm : c ≤ maxLen) (hn : n ≤ 1099511627776) (hno : ¬ (There n i s ∧ 1 ≤ s ∧ s ≤ 8)) :
    Calls Tryd.prog 28 #[.slice A n c, .int .i64 i, .int .i64 s] w fun e w' => e = .returned (.tuple #[.int .u64 0, .bool false]) ∧ Below w.heap.size w w' := by
  by_cases ht : There n i s
  · have H := Lib.hid ht
    obtain ⟨t1, t2, t3, t4⟩ := ht
    by_cases h1 : s < 1
    · clear hno
      go_enter Tryd.func28, Tryd.ntmps28
      go_wp2_with fail
      refine (cut_yes _ n c l _ _ _ h hc hcm hn t1 t2 (by omega)).mono ?_
      rintro e w' ⟨A', c', rfl, hown, hb⟩
      go_wp2_with fail
      go_ret2
      exact ⟨rfl, hb⟩
    · have h8 : 8 < s := Int.not_le.1 fun h8 => hno ⟨H.out, by omega, h8⟩
      clear hno
      go_enter Tryd.func28, Tryd.ntmps28
      go_wp2_with fail
      refine (cut_yes _ n c l _ _ _ h hc hcm hn t1 t2 (by omega)).mono ?_
      rintro e w' ⟨A', c', rfl, hown, hb⟩
      go_wp2_with fail
      go_ret2
      exact ⟨rfl, hb⟩
  · clear hno
    have H := Lib.hid ht
    clear ht
    go_enter Tryd.func28, Tryd.ntmps28
    go_wp2_with fail
    refine (cut_no _ n c _ _ _ hn H.out).mono ?_
    rintro e w' ⟨rfl, rfl⟩
    go_wp2_with fail
    go_ret2
    exact ⟨rfl, Below.refl _ _⟩

theorem be_snoc (l : List UInt8) (u : UInt8) : be (l ++ [u]) = be l * 256 + u.toNat := by simp [be]
theorem be_lt (l : List UInt8) : be l < 256 ^ l.length := by
  have h : ∀ k (l : List UInt8), l.length = k → be l < 256 ^ k := by
    intro k
    induction k with
    | zero => intro l hl; rw [List.eq_nil_of_length_eq_zero hl]; simp [be]
    | succ k ih =>
      intro l hl
      rcases List.eq_nil_or_concat l with rfl | ⟨r, u, rfl⟩
      · simp at hl
      · simp only [List.concat_eq_append, List.length_append, List.length_singleton] at hl ⊢
        have hr := ih r (by omega)
        have := u.toNat_lt
        rw [be_snoc, Nat.pow_succ]
        omega
  exact h _ l rfl
theorem or_join64 (a c : Int) (h0 : 0 ≤ a) (h1 : a < 72057594037927936) (h2 : 0 ≤ c) (h3 : c ≤ 255) : bits .or .u64 (a * 256) c = a * 256 + c := by
  obtain ⟨a, rfl⟩ := Int.eq_ofNat_of_zero_le h0
  obtain ⟨c, rfl⟩ := Int.eq_ofNat_of_zero_le h2
  have he : ((a : Int) * 256) = ((a * 256 : Nat) : Int) := by omega
  rw [he, u64_or_nat _ _ (by omega) (by omega), nat_join 8 _ _ (by omega) (by omega)]
  omega

set_option maxHeartbeats 400000 in
theorem get_yes (A : Option Addr) (n c : Nat) (l : List UInt8) (i s : Int) (w : World) (h : Row w w.heap.size 1 A n (bv l)) (hc : n ≤ c) (hcm : c ≤ maxLen) (hn : n ≤ 1099511627776) (hi : 0 ≤ i) (h1 : 1 ≤ s) (h8 : s ≤ 8) (hle : i + s ≤ n) :
    Calls Tryd.prog 28 #[.slice A n c, .int .i64 i, .int .i64 s] w fun e w' => e = .returned (.tuple #[.int .u64 (be ((l.drop i.toNat).take s.toNat) : Nat), .bool true]) ∧ Below w.heap.size w w' := by
  obtain ⟨s, rfl⟩ := Int.eq_ofNat_of_zero_le (show 0 ≤ s by omega)
  have hL : ((l.drop i.toNat).take s).length = s := by
    have := h.1
    rw [bv_length] at this
    simp
    omega
  go_enter Tryd.func28, Tryd.ntmps28
  go_wp2_with fail
  refine (cut_yes _ n c l _ _ _ h hc hcm hn (by omega) (by omega) (by omega)).mono ?_
  rintro e w' ⟨A', c', rfl, hown, hb⟩
  simp only [Int.toNat_natCast] at hown hL
  generalize hLe : (l.drop i.toNat).take s = L at hown hL
  have HL := Lib.hid hLe
  clear hLe
  have hrow := hown.row
  have HO := Lib.hid hown
  clear hown h
  go_wp2_with fail
  go_loop [10, 32] (fun m j => ∃ k : Nat, k ≤ s ∧ j = .int .i64 k ∧ m = .int .u64 (be (L.take k) : Nat)) (fun _ j => s - (intOf j).toNat)
  case atStart => exact ⟨0, Nat.zero_le _, rfl, by simp [be]⟩
  case round =>
    obtain ⟨k, hk, rfl, rfl⟩ := hrel
    by_cases hlt : k < s
    · obtain ⟨b, o, rfl, hbB, hcell⟩ := hrow.2 (by omega)
      obtain ⟨u, hu⟩ := get_ex L (k := k) (by omega)
      have hcu := hcell k _ (bv_get L k u hu)
      have hub := byte_le u
      have hlt2 : be (L.take k) < 256 ^ 7 := by
        refine Nat.lt_of_lt_of_le (be_lt _) (Nat.pow_le_pow_right (by omega) ?_)
        rw [List.length_take]
        omega
      have HS := Lib.hid (take_snoc L k u hu)
      clear hu hcell
      go_wp2
      go_round
      case rel =>
        refine ⟨k + 1, by omega, by go_num, ?_⟩
        rw [HS.out, be_snoc, or_join64 _ _ (by omega) (by omega) hub.1 hub.2]
        go_num
      case measure => simp [intOf]; omega
    · go_wp2
      go_ret2
      have ht : L.take k = L := List.take_of_length_le (by omega)
      exact ⟨by rw [← HL.out] at ht ⊢; simp [ht], hb⟩

/-- a number as so many bytes, the highest one first -/
def toBe : Nat → Nat → List UInt8
  | 0, _ => []
  | s + 1, m => toBe s (m / 256) ++ [UInt8.ofNat (m % 256)]
theorem toBe_length (s m : Nat) : (toBe s m).length = s := by
  induction s generalizing m with
  | zero => rfl
  | succ s ih => simp [toBe, ih]
theorem toBe_get (s m k : Nat) (h : k < s) : (toBe s m)[k]? = some (UInt8.ofNat (m / 256 ^ (s - 1 - k) % 256)) := by
  induction s generalizing m with
  | zero => omega
  | succ s ih =>
    rw [toBe]
    rcases Nat.lt_or_ge k s with hk | hk
    · rw [List.getElem?_append_left (by rw [toBe_length]; exact hk), ih _ hk, Nat.div_div_eq_div_mul, ← Nat.pow_succ']
      rw [show (s - 1 - k).succ = s + 1 - 1 - k by omega]
    · have : k = s := by omega
      subst this
      rw [List.getElem?_append_right (by rw [toBe_length]; omega), toBe_length]
      simp

theorem cast_shr (m k : Nat) : (m : Int) / 2 ^ k = ((m / 2 ^ k : Nat) : Int) := by rw [Int.natCast_ediv, Int.natCast_pow]; rfl
theorem set_mid {α : Type} (X : List α) (y : α) (r : List α) (v : α) (j : Nat) (h : X.length = j) : (X ++ y :: r).set j v = X ++ v :: r := by
  subst h
  simp
theorem put_step (l : List UInt8) (i s k m : Nat) (hi : i + k < l.length) (hk : k < s) :
    (bv (l.take i ++ (toBe s m).take k ++ l.drop (i + k))).set (i + k) (.int .u8 ((m : Int) / 2 ^ (8 * (s - 1 - k)) % 256)) = bv (l.take i ++ (toBe s m).take (k + 1) ++ l.drop (i + (k + 1))) := by
  have hX : (bv (l.take i ++ (toBe s m).take k)).length = i + k := by rw [bv_length]; simp [toBe_length]; omega
  unfold bv at hX
  rw [take_snoc _ k _ (toBe_get s m k hk), List.drop_eq_getElem_cons hi, bv_append]
  simp only [bv, List.map_cons]
  rw [set_mid _ _ _ _ _ hX]
  simp only [List.map_append, List.map_cons, List.append_assoc, List.cons_append, List.nil_append]
  have e : ((m : Int) / 2 ^ (8 * (s - 1 - k)) % 256) = ((UInt8.ofNat (m / 256 ^ (s - 1 - k) % 256)).toNat : Int) := by
    rw [UInt8.toNat_ofNat', Nat.mod_eq_of_lt (Nat.mod_lt _ (by omega)), show (256 : Nat) ^ (s - 1 - k) = 2 ^ (8 * (s - 1 - k)) from (Nat.pow_mul 2 8 _).symm, Int.natCast_emod, ← cast_shr]
    rfl
  rw [e, Nat.add_assoc]

set_option maxHeartbeats 400000 in
theorem put_no (A : Option Addr) (n c : Nat) (l : List UInt8) (i s m : Int) (w : World) (h : Row w w.heap.size 1 A n (bv l)) (hc : n ≤ c) (hcm : c ≤ maxLen) (hn : n ≤ 1099511627776) (hno : ¬ (There n i s ∧ 1 ≤ s ∧ s ≤ 8)) :
    Calls Tryd.prog 46 #[.slice A n c, .int .i64 i, .int .i64 s, .int .u64 m] w fun e w' => e = .returned (.tuple #[.slice none 0 0, .bool false]) ∧ Below w.heap.size w w' := by
  have H := Lib.hid hno
  clear hno
  go_enter Tryd.func46, Tryd.ntmps46
  go_wp2_with fail
  refine (get_no _ n c l _ _ _ h hc hcm hn H.out).mono ?_
  rintro e w' ⟨rfl, hb⟩
  go_wp2_with fail
  go_ret2
  exact ⟨rfl, hb⟩

set_option maxHeartbeats 400000 in
theorem put_yes (A : Option Addr) (n c : Nat) (l : List UInt8) (i s m : Int) (w : World) (h : Row w w.heap.size 1 A n (bv l)) (hc : n ≤ c) (hcm : c ≤ maxLen) (hn : n ≤ 1099511627776) (hi : 0 ≤ i) (h1 : 1 ≤ s) (h8 : s ≤ 8) (hle : i + s ≤ n) (hm : 0 ≤ m) (hm2 : m < 256 ^ s.toNat) :
    Calls Tryd.prog 46 #[.slice A n c, .int .i64 i, .int .i64 s, .int .u64 m] w fun e w' => ∃ A' c', e = .returned (.tuple #[.slice A' n c', .bool true]) ∧ Own w' w.heap.size 5 1 A' n c' (bv (l.take i.toNat ++ toBe s.toNat m.toNat ++ l.drop (i.toNat + s.toNat))) ∧ Below w.heap.size w w' := by
  obtain ⟨s, rfl⟩ := Int.eq_ofNat_of_zero_le (show 0 ≤ s by omega)
  obtain ⟨i, rfl⟩ := Int.eq_ofNat_of_zero_le hi
  obtain ⟨m, rfl⟩ := Int.eq_ofNat_of_zero_le hm
  simp only [Int.toNat_natCast] at hm2 ⊢
  have hmn : m < 2 ^ (8 * s) := by
    have h2 : m < 256 ^ s := by rw [show (256 : Int) ^ s = ((256 ^ s : Nat) : Int) from (Int.natCast_pow 256 s).symm] at hm2; exact Int.ofNat_lt.1 hm2
    rw [Nat.pow_mul]
    exact h2
  have Ht : ((m : Int) / 2 ^ (8 * s) != 0) = false := by
    have h0 : (m : Int) / 2 ^ (8 * s) = ((m / 2 ^ (8 * s) : Nat) : Int) := cast_shr m _
    rw [h0, Nat.div_eq_of_lt hmn]
    rfl
  clear hm2 hmn
  have hl : l.length = n := by have := h.1; rw [bv_length] at this; omega
  by_cases hs8 : (s : Int) < 8
  all_goals
    go_enter Tryd.func46, Tryd.ntmps46
    go_wp2_with fail
    refine (get_yes _ n c l _ _ _ h hc hcm hn (by omega) (by omega) (by omega) (by omega)).mono ?_
    rintro e w' ⟨rfl, hb⟩
    go_wp2_with fail
    refine (clone_bytes _ n _ l _ ((h.below hb).more hb.size) hn).mono ?_
    rintro e w1 ⟨A', c', rfl, hown, hb1⟩
    have hown := hown.mono hb.size
    have hbb := hb.trans (hb1.mono hb.size)
    obtain ⟨g, rfl, hg1, hg2, _, _⟩ := hown.open_ (by omega)
    clear h hb hb1
    go_wp2_with fail
    go_loopw [37] (fun j wr => ∃ k : Nat, k ≤ s ∧ j = .int .i64 k ∧ Own wr w.heap.size 5 1 (some ⟨g, 0, none⟩) n c' (bv (l.take i ++ (toBe s m).take k ++ l.drop (i + k))) ∧ Below w.heap.size w wr) (fun j _ => s - (intOf j).toNat)
    case atStart => exact ⟨0, Nat.zero_le _, rfl, by simpa using hown, hbb⟩
    case round =>
      obtain ⟨k, hk, rfl, hown, hbb⟩ := hrel
      by_cases hlt : k < s
      · obtain ⟨g', hg', _, hg4, hcell, hfro⟩ := hown.open_ (by omega)
        injection hg' with hg'
        injection hg' with hg'
        subst hg'
        obtain ⟨u, hu⟩ := get_ex (l.take i ++ (toBe s m).take k ++ l.drop (i + k)) (k := i + k) (by simp [toBe_length]; omega)
        have hcu := hcell (i + k) _ (bv_get _ _ u hu)
        have hfu := hfro (i + k)
        have HO := Lib.hid hown
        clear hu hcell hfro hown
        have hxl : (l.take i ++ (toBe s m).take k ++ l.drop (i + k)).length = n := by simp [toBe_length]; omega
        go_wp2
        go_roundw
        case rel =>
          refine ⟨k + 1, by omega, by go_num, ?_, hbb.setCell hg1 _⟩
          have := HO.out.set (j := i + k) (by omega) (.int .u8 ((m : Int) / 2 ^ (8 * (s - 1 - k)) % 256))
          rwa [put_step l i s k m (by omega) hlt] at this
        case measure => simp [intOf]; omega
      · have : k = s := by omega
        subst this
        have HO := Lib.hid hown
        clear hown
        go_wp2
        go_ret2
        refine ⟨_, _, rfl, ?_, hbb⟩
        have := HO.out
        rwa [List.take_of_length_le (l := toBe k m) (by rw [toBe_length]; omega)] at this
end Go.Proofs.YtckbleiikldloaaDoor

/- What the reference's functions on bytes (footplateref01) compute. No condition but sizes. -/
namespace Go.Proofs.YtckbleiikldloaaDoor
open Go.RowKit
set_option linter.unusedVariables false
set_option maxRecDepth 20000

theorem byte_mod (q : Nat) : ((UInt8.ofNat (q % 256)).toNat : Int) = (q : Int) % 256 := by
  rw [UInt8.toNat_ofNat', Nat.mod_eq_of_lt (Nat.mod_lt _ (by omega))]
  omega
theorem row_one (wr : World) (q : Nat) : Row (wr.alloc (.cells #[.int .u8 ((q : Int) % 256)] 5)) (wr.heap.size + 1) 1 (some ⟨wr.heap.size, 0, none⟩) 1 (bv [UInt8.ofNat (q % 256)]) := by
  have := Row.new (n := 1) (sz := 1) (e := 5) wr #[.int .u8 ((q : Int) % 256)] rfl
  simpa [bv, byte_mod] using this

theorem ba_append (a b : Array UInt8) : (ByteArray.mk a ++ ByteArray.mk b) = ByteArray.mk (a ++ b) := by
  apply ByteArray.ext
  simp
theorem str_cat (a b : List UInt8) : Value.string ((ByteArray.mk a.toArray) ++ (ByteArray.mk b.toArray)) = str (a ++ b) := by
  rw [ba_append]
  simp
theorem toBe_cons (s m : Nat) : toBe (s + 1) m = UInt8.ofNat (m / 256 ^ s % 256) :: toBe s m := by
  induction s generalizing m with
  | zero => simp [toBe]
  | succ s ih =>
    rw [toBe, ih (m / 256), Nat.div_div_eq_div_mul, ← Nat.pow_succ']
    simp [toBe]

set_option maxHeartbeats 400000 in
theorem bytes_any (m s : Int) (w : World) (hm : 0 ≤ m) (hm2 : m ≤ 4611686018427387904) (hs : 0 ≤ s) (h8 : s ≤ 8) :
    Calls Tryd.prog 23 #[.int .u64 m, .int .i64 s] w fun e w' => e = .returned (str (toBe s.toNat m.toNat)) ∧ Below w.heap.size w w' := by
  obtain ⟨s, rfl⟩ := Int.eq_ofNat_of_zero_le hs
  obtain ⟨m, rfl⟩ := Int.eq_ofNat_of_zero_le hm
  simp only [Int.toNat_natCast]
  go_enter Tryd.func23, Tryd.ntmps23
  go_wp2_with fail
  go_loopw [0, 5, 6] (fun a t j wr => ∃ k : Nat, k ≤ s ∧ j = .int .i64 k ∧ a = .int .u64 (m / 256 ^ k : Nat) ∧ t = str (toBe k m) ∧ Below w.heap.size w wr) (fun _ _ j _ => s - (intOf j).toNat)
  case atStart => exact ⟨0, Nat.zero_le _, rfl, by simp, rfl, Below.refl _ _⟩
  case round =>
    obtain ⟨k, hk, rfl, rfl, rfl, hb⟩ := hrel
    by_cases hlt : k < s
    · have hd : 0 ≤ m / 256 ^ k := Nat.zero_le _
      have hd2 : m / 256 ^ k ≤ m := Nat.div_le_self _ _
      have htl : (toBe k m).length ≤ 8 := by rw [toBe_length]; omega
      generalize hq : m / 256 ^ k = q at hd hd2 ⊢
      have HQ := Lib.hid hq
      clear hq
      go_wp2_with (refine wpList_str rfl _ 22 9 5 rfl Tryd.underlying22 Tryd.underlying5 Tryd.underlying9 _ _ _ _ [UInt8.ofNat (q % 256)] rfl (row_one wr q) ?_)
      go_roundw
      case rel =>
        refine ⟨k + 1, by omega, by go_num, ?_, ?_, hb.alloc hb.size _⟩
        · rw [Nat.pow_succ, ← Nat.div_div_eq_div_mul, HQ.out]
          go_num
        · rw [toBe_cons, HQ.out]
          exact str_cat [_] _
      case measure => simp [intOf]; omega
    · have : k = s := by omega
      subst this
      go_wp2
      go_ret
      exact ⟨rfl, hb⟩

/-- the bytes are there: the reference's own test -/
theorem there_any (l : List UInt8) (i s : Int) (w : World) (hl : l.length ≤ 1099511627776) :
    Calls Tryd.prog 61 #[str l, .int .i64 i, .int .i64 s] w fun e w' => e = .returned (.bool (decide (There l.length i s))) ∧ w = w' := by
  by_cases h1 : 0 ≤ i <;> by_cases h2 : 0 ≤ s <;> by_cases h3 : i ≤ (l.length : Int) <;> by_cases h4 : s ≤ (l.length : Int) - i
  all_goals
    go_enter Tryd.func61, Tryd.ntmps61
    go_wp2_with fail
    go_ret
    refine ⟨ret_bool ?_, rfl⟩
    symm
    first | (apply decide_eq_true; unfold There; omega) | (apply decide_eq_false; unfold There; omega)

theorem ba_get (l : List UInt8) (j : Nat) (u : UInt8) (h : l[j]? = some u) : ∀ h', (ByteArray.mk l.toArray)[j]'h' = u := by
  intro h'
  obtain ⟨hj, rfl⟩ := List.getElem?_eq_some_iff.1 h
  rfl

theorem rget_no (l : List UInt8) (i s : Int) (w : World) (hl : l.length ≤ 1099511627776) (hno : ¬ (There l.length i s ∧ 1 ≤ s ∧ s ≤ 8)) :
    Calls Tryd.prog 34 #[str l, .int .i64 i, .int .i64 s] w fun e w' => e = .returned (.tuple #[.int .u64 0, .bool false]) ∧ w = w' := by
  by_cases ht : There l.length i s
  · have ht' : decide (There l.length i s) = true := decide_eq_true ht
    by_cases h1 : s < 1
    · clear hno ht
      go_enter Tryd.func34, Tryd.ntmps34
      go_wp2_with fail
      refine (there_any l _ _ _ hl).mono ?_
      rintro e w' ⟨rfl, rfl⟩
      go_wp2_with fail
      go_ret2
      exact ⟨rfl, rfl⟩
    · have h8 : 8 < s := Int.not_le.1 fun h8 => hno ⟨ht, by omega, h8⟩
      clear hno ht
      go_enter Tryd.func34, Tryd.ntmps34
      go_wp2_with fail
      refine (there_any l _ _ _ hl).mono ?_
      rintro e w' ⟨rfl, rfl⟩
      go_wp2_with fail
      go_ret2
      exact ⟨rfl, rfl⟩
  · have ht' : decide (There l.length i s) = false := decide_eq_false ht
    clear hno ht
    go_enter Tryd.func34, Tryd.ntmps34
    go_wp2_with fail
    refine (there_any l _ _ _ hl).mono ?_
    rintro e w' ⟨rfl, rfl⟩
    go_wp2_with fail
    go_ret2
    exact ⟨rfl, rfl⟩

set_option maxHeartbeats 400000 in
theorem rget_yes (l : List UInt8) (i s : Int) (w : World) (hl : l.length ≤ 1099511627776) (hi : 0 ≤ i) (h1 : 1 ≤ s) (h8 : s ≤ 8) (hle : i + s ≤ l.length) :
    Calls Tryd.prog 34 #[str l, .int .i64 i, .int .i64 s] w fun e w' => e = .returned (.tuple #[.int .u64 (be ((l.drop i.toNat).take s.toNat) : Nat), .bool true]) ∧ w = w' := by
  obtain ⟨s, rfl⟩ := Int.eq_ofNat_of_zero_le (show 0 ≤ s by omega)
  obtain ⟨i, rfl⟩ := Int.eq_ofNat_of_zero_le hi
  have ht' : decide (There l.length (i : Int) (s : Int)) = true := decide_eq_true ⟨by omega, by omega, by omega, by omega⟩
  have hL : ((l.drop i).take s).length = s := by simp; omega
  simp only [Int.toNat_natCast]
  go_enter Tryd.func34, Tryd.ntmps34
  go_wp2_with fail
  refine (there_any l _ _ _ hl).mono ?_
  rintro e w' ⟨rfl, rfl⟩
  go_wp2_with fail
  go_loop [9, 10] (fun m j => ∃ k : Nat, k ≤ s ∧ j = .int .i64 k ∧ m = .int .u64 (be (((l.drop i).take s).take k) : Nat)) (fun _ j => s - (intOf j).toNat)
  case atStart => exact ⟨0, Nat.zero_le _, rfl, by simp [be]⟩
  case round =>
    obtain ⟨k, hk, rfl, rfl⟩ := hrel
    by_cases hlt : k < s
    · obtain ⟨u, hu⟩ := get_ex ((l.drop i).take s) (k := k) (by omega)
      have hub := byte_le u
      have hlt2 : be (((l.drop i).take s).take k) < 256 ^ 7 := by
        refine Nat.lt_of_lt_of_le (be_lt _) (Nat.pow_le_pow_right (by omega) ?_)
        rw [List.length_take]
        omega
      have HS := Lib.hid (take_snoc _ k u hu)
      have HU := Lib.hid hu
      clear hu
      generalize hq : be (((l.drop i).take s).take k) = q at hlt2 ⊢
      have HQ := Lib.hid hq
      clear hq hL
      have hik : i + k < l.length := by omega
      go_wp2
      go_round
      case rel =>
        refine ⟨k + 1, by omega, by go_num, ?_⟩
        have hg := ba_get l (i + k) u (by
          have := HU.out
          rw [List.getElem?_take, if_pos hlt, List.getElem?_drop] at this
          exact this)
        simp only [hg, IntKind.wrap_u64]
        rw [HS.out, be_snoc, HQ.out]
        simp only [Value.int.injEq, true_and]
        omega
      case measure => simp [intOf]; omega
    · have : k = s := by omega
      subst this
      have ht : ((l.drop i).take k).take k = (l.drop i).take k := List.take_of_length_le (by omega)
      have HT := Lib.hid ht
      clear ht
      go_wp2
      go_ret2
      exact ⟨by simp [HT.out], rfl⟩

/-- a digit of 16; below 0: none -/
def digitF (c : Nat) : Int := if 48 ≤ c ∧ c ≤ 57 then c - 48 else if 97 ≤ c ∧ c ≤ 102 then c - 87 else if 65 ≤ c ∧ c ≤ 70 then c - 55 else -1

/-- the digits of L tell the bytes of R -/
def Tells (L R : List UInt8) : Prop := L.length = 2 * R.length ∧ ∀ k, k < R.length → 0 ≤ digitF (L.getD (2 * k) 0).toNat ∧ 0 ≤ digitF (L.getD (2 * k + 1) 0).toNat ∧ 16 * digitF (L.getD (2 * k) 0).toNat + digitF (L.getD (2 * k + 1) 0).toNat = ((R.getD k 0).toNat : Int)
instance (L R : List UInt8) : Decidable (Tells L R) := by unfold Tells; infer_instance
theorem digitF_le (c : Nat) : digitF c ≤ 15 := by unfold digitF; split <;> (try split) <;> (try split) <;> omega

end Go.Proofs.YtckbleiikldloaaDoor


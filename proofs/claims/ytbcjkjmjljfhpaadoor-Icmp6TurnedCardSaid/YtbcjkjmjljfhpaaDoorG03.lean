/- Texts of this claim put together, in build order: each one's own remark stands ahead of it. -/
import Derived.Test.YtbcjkjmjljfhpaaDoorG02
import Derived.Stop.BytesEq
/- A region that draws its order, walked once: what each operation leaves is said of it alone, as far as it hangs on those that it waits for; then it is so whatever the order. No condition. -/
namespace Go.Proofs.YtbcjkjmjljfhpaaDoor
open Go.RowKit
set_option linter.unusedVariables false
set_option maxRecDepth 20000

/-- operation i waits for operation j -/
def waits (ops : Array Oper) (i j : Nat) : Bool := match ops[i]? with | some o => o.after.any fun e => Region.binds .any e && e.on == j | none => false
def dstOf (ops : Array Oper) (j : Nat) : Option Tmp := (ops[j]?).bind (·.dst)
/-- no operation writes slot k ahead of operation i -/
def freshFor (ops : Array Oper) (i k : Nat) : Bool := (List.range ops.size).all fun j => dstOf ops j != some k || waits ops j i || j == i
/-- each slot is written once, and lies in the frame; each operation waits for those ahead of it in the text alone -/
def plainB (ops : Array Oper) (n : Nat) : Bool :=
  (List.range ops.size).all fun i => (match dstOf ops i with | some d => decide (d < n) && (List.range ops.size).all fun j => j == i || dstOf ops j != some d | none => true) &&
    (match ops[i]? with | some o => o.after.all fun e => !Region.binds .any e || decide (e.on < i) | none => true)
def putAll (vs : Nat → Value) : Nat → List Oper → Act → Act
  | _, [], a => a
  | i, o :: r, a => putAll vs (i + 1) r (a.put o.dst (vs i))

section
variable (P : Program) (ops : Array Oper) (R : Nat → Value → World → Prop) (X : World → World → Prop) (a0 : Act) (w0 : World)
/-- what one operation leaves -/
def RelStep (i : Nat) (o : Oper) : Prop :=
  ∀ (a : Act) (vs : Nat → Value) (W : World), X w0 W → (∀ j, waits ops i j = true → R j (vs j) W) → (∀ j d, waits ops i j = true → dstOf ops j = some d → a.eval (.tmp d) = vs j) →
    (∀ k, freshFor ops i k = true → a.eval (.tmp k) = a0.eval (.tmp k)) → ∀ K : Act → World → Prop, (∀ v W', R i v W' → X W W' → K (a.put o.dst v) W') →
    if Region.wanted o (yielded ops a.tmps) = true then o.wp P a W K (fun _ _ _ => False) else K (a.put o.dst undef) W
def RelSteps : Nat → List Oper → Prop
  | _, [] => True
  | i, o :: r => RelStep P ops R X a0 w0 i o ∧ RelSteps (i + 1) r
end

section
variable {P : Program} {ops : Array Oper} {R : Nat → Value → World → Prop} {X : World → World → Prop} {a0 : Act} {w0 : World}
theorem relSteps_at (l : List Oper) : ∀ (k : Nat), RelSteps P ops R X a0 w0 k l → ∀ (i : Nat) (o : Oper), l[i]? = some o → RelStep P ops R X a0 w0 (k + i) o := by
  induction l with
  | nil => intro k _ i o h; simp at h
  | cons x l ih =>
    intro k h i o hi
    cases i with
    | zero => simp at hi; subst hi; exact h.1
    | succ i =>
      have := ih (k + 1) h.2 i o (by simpa using hi)
      rwa [show k + 1 + i = k + (i + 1) by omega] at this
theorem putAll_size (vs : Nat → Value) (l : List Oper) : ∀ (k : Nat) (a : Act), (putAll vs k l a).tmps.size = a.tmps.size := by
  induction l with
  | nil => exact fun _ _ => rfl
  | cons o l ih =>
    intro k a
    rw [putAll, ih]
    cases h : o.dst <;> simp [Act.put]
theorem putAll_defers (vs : Nat → Value) (l : List Oper) : ∀ (k : Nat) (a : Act), (putAll vs k l a).defers = a.defers := by
  induction l with
  | nil => exact fun _ _ => rfl
  | cons o l ih =>
    intro k a
    rw [putAll, ih]
    cases h : o.dst <;> simp [Act.put]
theorem putAll_none (vs : Nat → Value) (l : List Oper) (s : Nat) : ∀ (k : Nat) (a : Act), (∀ o ∈ l, o.dst ≠ some s) → (putAll vs k l a).eval (.tmp s) = a.eval (.tmp s) := by
  induction l with
  | nil => exact fun _ _ _ => rfl
  | cons o l ih =>
    intro k a h
    rw [putAll, ih (k + 1) _ (fun x hx => h x (by simp [hx]))]
    exact Act.eval_put fun d hd e => by injection e with e; exact h o (by simp) (by rw [hd, e])
theorem putAll_some (vs : Nat → Value) (l : List Oper) (s : Nat) : ∀ (k : Nat) (a : Act) (i : Nat) (o : Oper), l[i]? = some o → o.dst = some s → s < a.tmps.size → (∀ j x, l[j]? = some x → j ≠ i → x.dst ≠ some s) → (putAll vs k l a).eval (.tmp s) = vs (k + i) := by
  induction l with
  | nil => intro k a i o h; simp at h
  | cons x l ih =>
    intro k a i o hi hd hs hno
    cases i with
    | zero =>
      simp at hi
      subst hi
      rw [putAll, putAll_none vs l s (k + 1) _ (fun y hy => by
        obtain ⟨j, hj⟩ := List.getElem?_of_mem hy
        exact hno (j + 1) y (by simpa using hj) (by omega))]
      simp [Act.put, hd, Act.eval, hs]
    | succ i =>
      rw [putAll]
      have := ih (k + 1) (a.put x.dst (vs k)) i o (by simpa using hi) hd (by cases h : x.dst <;> simpa [Act.put] using hs) (fun j y hj hne => hno (j + 1) y (by simpa using hj) (by omega))
      rwa [show k + 1 + i = k + (i + 1) by omega] at this
theorem act_ext {a b : Act} (hs : a.tmps.size = b.tmps.size) (hd : a.defers = b.defers) (h : ∀ k, k < a.tmps.size → a.eval (.tmp k) = b.eval (.tmp k)) : a = b := by
  obtain ⟨ta, da⟩ := a
  obtain ⟨tb, db⟩ := b
  simp only at hs hd h
  subst hd
  congr 1
  apply Array.ext hs
  intro k h1 h2
  have := h k h1
  simp [Act.eval, h1, h2] at this
  exact this
theorem dst_bind {j : Nat} {o : Oper} (h : ops[j]? = some o) : dstOf ops j = o.dst := by simp [dstOf, h]

theorem upon_calm {o : Oper} {a : Act} {K : Act → World → Prop} {Q : Exit → Act → World → Prop} (r : Result Next) (h : Oper.upon P o a K (fun _ _ _ => False) r) : Oper.upon P o a K Q r := by
  cases r with
  | ok n w' =>
    cases n with
    | enter f args =>
      rw [Oper.upon_enter] at h ⊢
      refine Calls.mono h ?_
      intro e w' he
      cases e with
      | returned v => exact he
      | panicked c => exact he.elim
      | outgrown => obtain ⟨_, _, h⟩ := he; exact h.elim
    | _ => exact h
  | halt x w' => cases x <;> exact (h : False).elim

/-- what holds between two operations -/
structure RelInv (ops : Array Oper) (R : Nat → Value → World → Prop) (X : World → World → Prop) (a0 : Act) (w0 : World) (listed : Array Bool) (a : Act) (W : World) (vs : Nat → Value) : Prop where
  world : X w0 W
  size : a.tmps.size = a0.tmps.size
  defers : a.defers = a0.defers
  len : listed.size = ops.size
  vals : ∀ j, listed.getD j true = true → j < ops.size → R j (vs j) W ∧ ∀ d, dstOf ops j = some d → a.eval (.tmp d) = vs j
  rest : ∀ k, (∀ j, listed.getD j true = true → j < ops.size → dstOf ops j ≠ some k) → a.eval (.tmp k) = a0.eval (.tmp k)
  closed : ∀ j, listed.getD j true = true → j < ops.size → ∀ i, waits ops j i = true → listed.getD i true = true ∧ i < ops.size

theorem waits_of {i j : Nat} {o : Oper} (ho : ops[i]? = some o) (h : waits ops i j = true) : ∃ e ∈ o.after, Region.binds .any e = true ∧ e.on = j := by
  unfold waits at h
  rw [ho] at h
  obtain ⟨e, he, h2⟩ := Array.any_eq_true'.1 h
  simp at h2
  exact ⟨e, he, h2.1, h2.2⟩
theorem plain_at {n i : Nat} (h : plainB ops n = true) (hi : i < ops.size) : (∀ d, dstOf ops i = some d → d < n ∧ ∀ j, j < ops.size → j ≠ i → dstOf ops j ≠ some d) ∧ ∀ o, ops[i]? = some o → ∀ e ∈ o.after, Region.binds .any e = true → e.on < i := by
  unfold plainB at h
  have := List.all_eq_true.1 h i (List.mem_range.2 hi)
  rw [Bool.and_eq_true] at this
  obtain ⟨h1, h2⟩ := this
  refine ⟨fun d hd => ?_, fun o ho e he hb => ?_⟩
  · rw [hd] at h1
    simp only [Bool.and_eq_true, decide_eq_true_eq] at h1
    refine ⟨h1.1, fun j hj hne hdj => ?_⟩
    have := List.all_eq_true.1 h1.2 j (List.mem_range.2 hj)
    simp [hne, hdj] at this
  · rw [ho] at h2
    have := Array.all_eq_true_iff_forall_mem.1 h2 e he
    simpa [hb] using this

theorem listed_all {n : Nat} {listed : Array Bool} (hp : plainB ops n = true) (hl : listed.size = ops.size) (h : Region.ready .any ops listed = []) : ∀ i, i < ops.size → listed.getD i true = true := by
  intro i
  induction i using Nat.strongRecOn with
  | ind i ih =>
    intro hi
    rcases Bool.eq_false_or_eq_true (listed.getD i true) with ht | hf
    · exact ht
    · exfalso
      have hm : i ∈ Region.ready .any ops listed := by
        rw [mem_ready]
        refine ⟨hf, ops[i], Array.getElem?_eq_getElem hi, fun e he hb => ?_⟩
        have hlt := (plain_at hp hi).2 _ (Array.getElem?_eq_getElem hi) e he hb
        have := ih e.on hlt (by omega)
        rw [Array.getD_eq_getD_getElem?] at this ⊢
        rw [Array.getElem?_eq_getElem (by omega)] at this ⊢
        exact this
      rw [h] at hm
      cases hm

theorem wp_region_rel_aux {Q : Exit → Act → World → Prop} (hXt : ∀ A B C, X A B → X B C → X A C) (hR : ∀ i v A B, R i v A → X A B → R i v B) (hp : plainB ops a0.tmps.size = true)
    (hsteps : RelSteps P ops R X a0 w0 0 ops.toList) (hpost : ∀ vs W, X w0 W → (∀ i, i < ops.size → R i (vs i) W) → Q .normal (putAll vs 0 ops.toList a0) W) :
    ∀ (fuel : Nat) (listed : Array Bool) (a : Act) (W : World) (vs : Nat → Value), RelInv ops R X a0 w0 listed a W vs → ((List.range ops.size).filter fun i => !listed.getD i true).length ≤ fuel → wpAny P .any ops Q fuel listed a W := by
  have fin : ∀ (listed : Array Bool) (a : Act) (W : World) (vs : Nat → Value), RelInv ops R X a0 w0 listed a W vs → (∀ i, i < ops.size → listed.getD i true = true) → Q .normal a W := by
    intro listed a W vs I hall
    have ha : a = putAll vs 0 ops.toList a0 := by
      refine act_ext (by rw [putAll_size, I.size]) (by rw [putAll_defers, I.defers]) fun k hk => ?_
      by_cases hw : ∃ j, j < ops.size ∧ dstOf ops j = some k
      · obtain ⟨j, hj, hd⟩ := hw
        rw [(I.vals j (hall j hj) hj).2 k hd]
        have hoj : ops.toList[j]? = some ops[j] := by simp [Array.getElem?_eq_getElem hj]
        have := putAll_some vs ops.toList k 0 a0 j ops[j] hoj (by rw [← dst_bind (Array.getElem?_eq_getElem hj)]; exact hd) (by rw [← I.size]; exact hk) (fun i x hx hne => by
          have hx' : ops[i]? = some x := by simpa using hx
          rw [← dst_bind hx']
          exact ((plain_at hp hj).1 k hd).2 i (Array.getElem?_eq_some_iff.1 hx').1 hne)
        rw [this, Nat.zero_add]
      · rw [I.rest k (fun j _ hj hd => hw ⟨j, hj, hd⟩)]
        refine (putAll_none vs ops.toList k 0 a0 fun o ho hd => ?_).symm
        obtain ⟨j, hj⟩ := List.getElem?_of_mem ho
        have hj' : ops[j]? = some o := by simpa using hj
        exact hw ⟨j, (Array.getElem?_eq_some_iff.1 hj').1, by rw [dst_bind hj']; exact hd⟩
    rw [ha]
    exact hpost vs W I.world fun i hi => (I.vals i (hall i hi) hi).1
  intro fuel
  induction fuel with
  | zero =>
    intro listed a W vs I hlen
    have hall : ∀ i, i < ops.size → listed.getD i true = true := by
      intro i hi
      rcases Bool.eq_false_or_eq_true (listed.getD i true) with ht | hf
      · exact ht
      · have : i ∈ (List.range ops.size).filter fun i => !listed.getD i true := List.mem_filter.2 ⟨List.mem_range.2 hi, by simp only [hf, Bool.not_false]⟩
        have hnil : ((List.range ops.size).filter fun i => !listed.getD i true) = [] := List.eq_nil_of_length_eq_zero (by omega)
        rw [hnil] at this
        cases this
    refine ⟨?_, fin listed a W vs I hall⟩
    apply List.eq_nil_iff_forall_not_mem.2
    intro i hi
    obtain ⟨h1, o, ho, _⟩ := mem_ready.1 hi
    rw [hall i (Array.getElem?_eq_some_iff.1 ho).1] at h1
    cases h1
  | succ fuel ih =>
    intro listed a W vs I hlen
    refine ⟨fun h => fin listed a W vs I (listed_all hp I.len h), fun i hi => ?_⟩
    obtain ⟨hun, o, ho, hall⟩ := mem_ready.1 hi
    have hilt : i < ops.size := (Array.getElem?_eq_some_iff.1 ho).1
    have hst := relSteps_at ops.toList 0 hsteps i o (by simpa using ho)
    rw [Nat.zero_add] at hst
    have hpre : ∀ j, waits ops i j = true → listed.getD j true = true ∧ j < ops.size := by
      intro j hj
      obtain ⟨e, he, hb, rfl⟩ := waits_of ho hj
      have h1 := hall e he hb
      have hlt := (plain_at hp hilt).2 o ho e he hb
      have hjs : e.on < ops.size := by omega
      refine ⟨?_, hjs⟩
      rw [Array.getD_eq_getD_getElem?] at h1 ⊢
      rw [Array.getElem?_eq_getElem (by rw [I.len]; exact hjs)] at h1 ⊢
      exact h1
    have key := hst a vs W I.world (fun j hj => (I.vals j (hpre j hj).1 (hpre j hj).2).1) (fun j d hj hd => (I.vals j (hpre j hj).1 (hpre j hj).2).2 d hd)
      (fun k hk => I.rest k fun j hlj hj hd => by
        have := List.all_eq_true.1 hk j (List.mem_range.2 hj)
        simp only [hd, bne_self_eq_false, Bool.false_or, Bool.or_eq_true, beq_iff_eq] at this
        rcases this with h | h
        · have := (I.closed j hlj hj i h).1
          rw [hun] at this
          cases this
        · subst h
          rw [hun] at hlj
          cases hlj)
    have next : ∀ v W', R i v W' → X W W' → wpAny P .any ops Q fuel (listed.setIfInBounds i true) (a.put o.dst v) W' := by
      intro v W' hv hx
      have hils : i < listed.size := by rw [I.len]; exact hilt
      have hget : ∀ j, (listed.setIfInBounds i true).getD j true = if j = i then true else listed.getD j true := by
        intro j
        by_cases hj : j = i
        · subst hj
          rw [if_pos rfl, Array.getD_eq_getD_getElem?, Array.getElem?_setIfInBounds_self_of_lt hils]
          rfl
        · rw [if_neg hj, Array.getD_eq_getD_getElem?, Array.getD_eq_getD_getElem?, Array.getElem?_setIfInBounds_ne (fun e => hj e.symm)]
      have hput : ∀ k, o.dst ≠ some k → (a.put o.dst v).eval (.tmp k) = a.eval (.tmp k) := fun k hk => Act.eval_put fun d hd e => by injection e with e; exact hk (by rw [hd, e])
      refine ih _ _ _ (fun j => if j = i then v else vs j) ?_ ?_
      · refine ⟨hXt _ _ _ I.world hx, ?_, ?_, by rw [Array.size_setIfInBounds, I.len], ?_, ?_, ?_⟩
        · rw [← I.size]; cases h : o.dst <;> simp [Act.put]
        · rw [← I.defers]; cases h : o.dst <;> simp [Act.put]
        · intro j hj hjs
          rw [hget] at hj
          by_cases hji : j = i
          · subst hji
            simp only [if_true]
            refine ⟨hv, fun d hd => ?_⟩
            rw [dst_bind ho] at hd
            have hdl : d < a.tmps.size := by rw [I.size]; exact ((plain_at hp hjs).1 d (by rw [dst_bind ho]; exact hd)).1
            simp [Act.put, hd, Act.eval, hdl]
          · rw [if_neg hji] at hj
            simp only [if_neg hji]
            obtain ⟨h1, h2⟩ := I.vals j hj hjs
            refine ⟨hR _ _ _ _ h1 hx, fun d hd => ?_⟩
            rw [hput d (fun e => ((plain_at hp hjs).1 d hd).2 i hilt (fun e => hji e.symm) (by rw [dst_bind ho]; exact e))]
            exact h2 d hd
        · intro k hk
          have hki : o.dst ≠ some k := by
            have := hk i (by rw [hget, if_pos rfl]) hilt
            rwa [dst_bind ho] at this
          rw [hput k hki]
          exact I.rest k fun j hj hjs => hk j (by rw [hget]; split <;> first | rfl | exact hj) hjs
        · intro j hj hjs k hk
          have hkk : listed.getD k true = true ∧ k < ops.size := by
            rw [hget] at hj
            by_cases hji : j = i
            · subst hji
              exact hpre k hk
            · rw [if_neg hji] at hj
              exact I.closed j hj hjs k hk
          exact ⟨by rw [hget]; split <;> first | rfl | exact hkk.1, hkk.2⟩
      · have hsub : ((List.range ops.size).filter fun j => !(listed.setIfInBounds i true).getD j true) = (((List.range ops.size).filter fun j => !listed.getD j true).filter fun j => !decide (j = i)) := by
          rw [List.filter_filter]
          apply List.filter_congr
          intro j _
          rw [hget]
          by_cases hji : j = i
          · simp [hji]
          · simp [hji]
        rw [hsub]
        have hmem : i ∈ (List.range ops.size).filter fun j => !listed.getD j true := List.mem_filter.2 ⟨List.mem_range.2 hilt, by simp only [hun, Bool.not_false]⟩
        have := List.length_filter_lt_length_iff_exists (p := fun j => !decide (j = i)) |>.2 ⟨i, hmem, by simp⟩
        omega
    have key2 := key (wpAny P .any ops Q fuel (listed.setIfInBounds i true)) next
    unfold wpOp
    rw [ho]
    simp only
    by_cases hw : Region.wanted o (yielded ops a.tmps) = true
    · rw [if_pos hw] at key2 ⊢
      exact .inl (upon_calm _ key2)
    · rw [if_neg hw] at key2 ⊢
      exact key2

/-- the law -/
theorem wp_region_rel {id : Nat} {Q : Exit → Act → World → Prop} {w : World} (X : World → World → Prop) (hXr : ∀ A, X A A) (hXt : ∀ A B C, X A B → X B C → X A C) (R : Nat → Value → World → Prop) (hR : ∀ i v A B, R i v A → X A B → R i v B)
    (hm : P.follows .mixedOrders = true) (hp : plainB ops a0.tmps.size = true) (hsteps : RelSteps P ops R X a0 w.drew 0 ops.toList)
    (hpost : ∀ vs W, X w.drew W → (∀ i, i < ops.size → R i (vs i) W) → Q .normal (putAll vs 0 ops.toList a0) W) : (Code.region id ops true).wp P Q a0 w := by
  refine wp_region_any hm (wp_region_rel_aux hXt hR hp hsteps hpost ops.size (Array.replicate ops.size false) a0 w.drew (fun _ => undef) ?_ ?_)
  · have hno : ∀ j, (Array.replicate ops.size false).getD j true = true → j < ops.size → False := by
      intro j h hj
      rw [Array.getD_eq_getD_getElem?, Array.getElem?_replicate, if_pos hj] at h
      cases h
    exact ⟨hXr _, rfl, rfl, by simp, fun j h hj => (hno j h hj).elim, fun k _ => rfl, fun j h hj => (hno j h hj).elim⟩
  · refine Nat.le_trans (List.length_filter_le _ _) (by simp)
end

/-- what the operations leave, as a list -/
def relAt (l : List (Value → World → Prop)) (i : Nat) (v : Value) (W : World) : Prop := (l.getD i fun _ _ => True) v W
inductive MonoL (X : World → World → Prop) : List (Value → World → Prop) → Prop
  | nil : MonoL X []
  | cons {r : Value → World → Prop} {l : List (Value → World → Prop)} (h : ∀ v A B, r v A → X A B → r v B) (t : MonoL X l) : MonoL X (r :: l)
theorem MonoL.at_ {X : World → World → Prop} {l : List (Value → World → Prop)} (h : MonoL X l) : ∀ i v A B, relAt l i v A → X A B → relAt l i v B := by
  induction h with
  | nil => intro i v A B _ _; cases i <;> exact True.intro
  | cons h t ih =>
    intro i v A B hr hx
    cases i with
    | zero => exact h v A B hr hx
    | succ i => exact ih i v A B hr hx
theorem mono_val {X : World → World → Prop} (x : Value) : ∀ v A B, (fun (v : Value) (_ : World) => v = x) v A → X A B → (fun (v : Value) (_ : World) => v = x) v B := fun _ _ _ h _ => h
theorem grown_trans {A B C : World} {r : Option Nat} (h : A.grownBy B r) (k : B.grownBy C r) : A.grownBy C r :=
  ⟨k.os.trans h.os, k.tape.trans h.tape, k.output.trans h.output, Nat.le_trans h.size k.size, fun i hi hne => (k.block i (Nat.lt_of_lt_of_le hi h.size) hne).trans (h.block i hi hne)⟩
theorem below_grow {A B : World} (h : Below A.heap.size A B) (r : Option Nat) : A.grownBy B r := ⟨h.os, h.tape, h.output, h.size, fun k hk _ => h.block k hk⟩
theorem grow_below {A B : World} (h : A.grownBy B none) : Below A.heap.size A B := ⟨h.os, h.tape, h.output, h.size, fun k hk => h.block k hk (by simp)⟩
theorem drew_grow (w : World) (r : Option Nat) : w.grownBy w.drew r := below_grow (below_drewN (Below.refl _ _) 1) r
theorem wp_enter {P : Program} {o : Oper} {a : Act} {w : World} {K : Act → World → Prop} {Q : Exit → Act → World → Prop} {f : FuncId} {args : Array Value} (h : (execOp a.eval o).run P w = .ok (.enter f args) w)
    (hc : Calls P f args w fun e w' => ∃ v, e = .returned v ∧ K (a.put o.dst v) w') : o.wp P a w K Q := by
  unfold Oper.wp
  rw [h, Oper.upon_enter]
  refine Calls.mono hc ?_
  rintro e w' ⟨v, rfl, hk⟩
  exact hk
theorem wp_skip {P : Program} {o : Oper} {a : Act} {w w' : World} {K : Act → World → Prop} {Q : Exit → Act → World → Prop} (h : (execOp a.eval o).run P w = .ok .skip w') (hk : K (a.put o.dst undef) w') : o.wp P a w K Q := by
  unfold Oper.wp
  rw [h]
  exact hk

/-- new blocks, and block g, that is as long as it was, and stays what it is once it holds cs -/
structure Ext1 (g : Nat) (t : TypeId) (cs : List Value) (A B : World) : Prop where
  grown : A.grownBy B (some g)
  stays : Blk A g t cs → Blk B g t cs
  there : (∃ zs, zs.length = cs.length ∧ Blk A g t zs) → ∃ zs, zs.length = cs.length ∧ Blk B g t zs
theorem Ext1.refl (g : Nat) (t : TypeId) (cs : List Value) (A : World) : Ext1 g t cs A A := ⟨grown_refl A _, id, id⟩
theorem Ext1.trans {g : Nat} {t : TypeId} {cs : List Value} {A B C : World} (h : Ext1 g t cs A B) (k : Ext1 g t cs B C) : Ext1 g t cs A C := ⟨grown_trans h.grown k.grown, fun x => k.stays (h.stays x), fun x => k.there (h.there x)⟩
theorem Ext1.below {g : Nat} {t : TypeId} {cs : List Value} {A B : World} (h : Below A.heap.size A B) : Ext1 g t cs A B := ⟨below_grow h _, fun x => x.on h, fun ⟨zs, h1, h2⟩ => ⟨zs, h1, h2.on h⟩⟩
theorem Ext1.store {g : Nat} {t : TypeId} {cs : List Value} {A B : World} (h : A.grownBy B (some g)) (hb : Blk B g t cs) : Ext1 g t cs A B := ⟨h, fun _ => hb, fun _ => ⟨cs, rfl, hb⟩⟩

theorem wanted_none {ops : Array Oper} {o : Oper} {t : Array Value} (h : o.guard = none) : Region.wanted o (yielded ops t) = true := by unfold Region.wanted; rw [h]
theorem wanted_some {ops : Array Oper} {o : Oper} {a : Act} {g : Nat} {want b : Bool} {d : Tmp} (h : o.guard = some (g, want)) (hd : dstOf ops g = some d) (hv : a.eval (.tmp d) = .bool b) : Region.wanted o (yielded ops a.tmps) = (b == want) := by
  unfold Region.wanted
  rw [h]
  simp only
  have hy : yielded ops a.tmps g = some b := by
    unfold yielded
    have hd' : (ops[g]?).bind (·.dst) = some d := hd
    rw [hd']
    simp only [Option.bind_some]
    have hv' : a.tmps[d]?.getD undef = .bool b := by simpa [Act.eval] using hv
    cases ht : a.tmps[d]? with
    | none => rw [ht] at hv'; cases hv'
    | some x => rw [ht] at hv'; simp at hv'; subst hv'; rfl
  rw [hy]
  simp

/-- a slice of bytes, told by what it holds -/
def BsR (l : List UInt8) (v : Value) (W : World) : Prop := ∃ A n c, v = .slice A n c ∧ (Bs.mk A n c l).ok W
theorem mono_bs (l : List UInt8) : ∀ v A B, BsR l v A → World.grownBy A B none → BsR l v B := fun _ _ _ ⟨X, n, c, h, ho⟩ hg => ⟨X, n, c, h, ho.below (grow_below hg)⟩
theorem mono_bs1 (l : List UInt8) {g : Nat} {t : TypeId} {cs : List Value} : ∀ v A B, BsR l v A → (Below A.heap.size A B) → BsR l v B := fun _ _ _ ⟨X, n, c, h, ho⟩ hg => ⟨X, n, c, h, ho.below hg⟩
/-- a row of slices of bytes -/
def RowsR (ls : List (List UInt8)) (v : Value) (W : World) : Prop := ∃ (rows : List Bs) (R : Option Addr) (k c : Nat), v = .slice R k c ∧ rows.map (·.l) = ls ∧ Row W W.heap.size 1 R k (rows.map Bs.v) ∧ ∀ r ∈ rows, r.ok W
theorem mono_rows (ls : List (List UInt8)) : ∀ v A B, RowsR ls v A → World.grownBy A B none → RowsR ls v B := fun _ _ _ ⟨rows, R, k, c, h, hl, hr, ho⟩ hg =>
  ⟨rows, R, k, c, h, hl, (hr.below (grow_below hg)).more (grow_below hg).size, fun r hx => (ho r hx).below (grow_below hg)⟩
theorem exec_str {P : Program} {w : World} {o : Oper} {a : Act} (T S e : TypeId) (x : Operand) (ho : o.op = .convert T S x) (hT : P.underlying T = some (.slice e)) (he : P.underlying e = some (.int .u8)) (hS : P.underlying S = some .string)
    (A : Option Addr) (n c : Nat) (l : List UInt8) (hx : a.eval x = .slice A n c) (hr : (Bs.mk A n c l).ok w) : (execOp a.eval o).run P w = .ok (.value (str l)) w := by
  have hrun := run_bytes_str (P := P) w T S e hT he hS _ A n c l hr.row
  unfold execOp
  simp only [ho, Sem.run_bind, hx, hrun, Result.andThen_ok]
  rfl
theorem flat_map (rows : List Bs) : flat rows = (rows.map (·.l)).flatten := by simp [flat, List.flatMap]
end Go.Proofs.YtbcjkjmjljfhpaaDoor

/- Small lemmas that the texts on packets share: structs compared, numbers at a place, pieces of strings. No condition. -/
namespace Go.Proofs.YtbcjkjmjljfhpaaDoor
open Go.RowKit
set_option linter.unusedVariables false
set_option maxRecDepth 20000
set_option linter.unusedSimpArgs false

section
variable {P : Program} {w : World}
theorem eqF_cons {f : Field} {fs : List Field} {xs ys : Array Value} {d : Nat} {x y : Value} (hn : f.name ≠ "_") (hx : (part f.type xs f.offset).run P w = .ok x w) (hy : (part f.type ys f.offset).run P w = .ok y w)
    (he : (Op.equalIn d f.type x y).run P w = .ok true w) (h : (Op.eqFields d xs ys fs).run P w = .ok true w) : (Op.eqFields d xs ys (f :: fs)).run P w = .ok true w := by
  rw [Op.eqFields, if_pos hn]
  simp only [Sem.run_bind, hx, hy, he, Result.andThen_ok, Bool.not_true, Bool.false_eq_true, if_false, h]
theorem eqF_nil {xs ys : Array Value} {d : Nat} : (Op.eqFields d xs ys []).run P w = .ok true w := rfl
theorem part_one {t : TypeId} {cs : List Value} {off : Nat} {v : Value} (ha : (isAgg t).run P w = .ok false w) (h : cs[off]? = some v) : (part t cs.toArray off).run P w = .ok v w := by
  unfold part
  simp only [Sem.run_bind, ha, Result.andThen_ok, Bool.false_eq_true, if_false, List.getElem?_toArray, h, Sem.run_pure]
theorem part_arr {t : TypeId} {cs : List Value} {off n : Nat} (ha : (isAgg t).run P w = .ok true w) (hs : (sizeOf t).run P w = .ok n w) : (part t cs.toArray off).run P w = .ok (.agg ((cs.drop off).take n).toArray) w := by
  unfold part
  simp only [Sem.run_bind, ha, Result.andThen_ok, if_true, hs, Sem.run_pure]
  congr 2
  apply Array.ext'
  simp [List.extract_eq_take_drop]
theorem eq_int {t : TypeId} {k : IntKind} {d : Nat} (h : P.underlying t = some (.int k)) (q : IntKind) (a : Int) : (Op.equalIn (d + 1) t (.int q a) (.int q a)).run P w = .ok true w := by
  rw [run_equalIn_int w d t q k a a h]
  simp
theorem eq_bool {t : TypeId} {d : Nat} (h : P.underlying t = some .bool) (a : Bool) : (Op.equalIn (d + 1) t (.bool a) (.bool a)).run P w = .ok true w := by
  rw [run_equalIn_bool' w d t a a h]
  simp
theorem eq_str {t : TypeId} {d : Nat} (h : P.underlying t = some .string) (a : ByteArray) : (Op.equalIn (d + 1) t (.string a) (.string a)).run P w = .ok true w := by
  rw [run_equalIn_string w d t a a h]
  simp
theorem eq_bytes {t e : TypeId} {n d : Nat} (ht : P.underlying t = some (.array n e)) (he : P.underlying e = some (.int .u8)) (hsz : ∀ w, (sizeOf e).run P w = .ok 1 w) (l : List UInt8) (hl : l.length = n) :
    (Op.equalIn (d + 2) t (.agg (bv l).toArray) (.agg (bv l).toArray)).run P w = .ok true w := by
  have := run_equalIn_bytes w d t e n ht he hsz l l hl hl
  simp only [BEq.rfl] at this
  exact this
end

theorem below_drew (w : World) : Below w.heap.size w w.drew := below_drewN (Below.refl _ _) 1
theorem be_bd (l : List UInt8) (n : Nat) (h : l.length ≤ n) : be l < 256 ^ n := Nat.lt_of_lt_of_le (be_lt l) (Nat.pow_le_pow_right (by omega) h)

/-- the number of so many bytes at a place -/
def numF (l : List UInt8) (i s : Nat) : Nat := be ((l.drop i).take s)
theorem numF_bd (l : List UInt8) (i s : Nat) : numF l i s < 256 ^ s := be_bd _ _ (by rw [List.length_take]; omega)

theorem bgrown {B : Nat} {w0 w w' : World} {g : Nat} (h : Below B w0 w) (hg : w.grownBy w' (some g)) (hB : B ≤ w.heap.size) (hb : B ≤ g) : Below B w0 w' := h.grown hg hB (fun k hk => by injection hk with hk; omega)
theorem str_drop (l : List UInt8) (i : Nat) : Value.string ((ByteArray.mk l.toArray).extract i l.length) = str (l.drop i) := by
  unfold str
  congr 1
  apply ByteArray.ext
  simp
  rw [List.take_of_length_le (by rw [List.length_drop]; omega)]

theorem str_ex (l : List UInt8) (i j : Nat) : (ByteArray.mk l.toArray).extract i j = ByteArray.mk ((l.take j).drop i).toArray := by
  apply ByteArray.ext
  simp [List.drop_take]

theorem set_bv (l : List UInt8) (k : Nat) (t : Int) (h0 : 0 ≤ t) (h1 : t ≤ 255) (hk : k < l.length) : (bv l).set k (.int .u8 t) = bv (l.take k ++ UInt8.ofNat t.toNat :: l.drop (k + 1)) := by
  have e : l = l.take k ++ l[k] :: l.drop (k + 1) := by rw [← List.drop_eq_getElem_cons hk, List.take_append_drop]
  conv => lhs; rw [e]
  simp only [bv, List.map_append, List.map_cons]
  rw [set_mid _ _ _ _ _ (by simp; omega), u8_of t h0 h1]

def ub (x : Int) : UInt8 := UInt8.ofNat x.toNat

theorem row_litN {e : TypeId} (w : World) (cs : Array Value) (l : List UInt8) (n g : Nat) (h : cs.toList = bv l) (hn : l.length = n) (hg : w.heap.size = g) : Row (w.alloc (.cells cs e)) (w.alloc (.cells cs e)).heap.size 1 (some ⟨g, 0, none⟩) n (bv l) := by
  subst hg
  rw [World.size_alloc]
  exact row_lit w cs l n h hn
theorem row_ne {w : World} {B n g : Nat} {t : TypeId} {cs xs : List Value} {A : Option Addr} (h : Row w B 1 A n xs) (hb : Blk w g t cs) (hn : cs.length < n) : ∀ b o, A = some ⟨b, o, none⟩ → b ≠ g := by
  intro b o hA e
  obtain ⟨b', o', hA', _, hc⟩ := h.2 (by omega)
  rw [hA] at hA'
  cases hA'
  subst e
  have hl : xs.length = n := by have := h.1; omega
  have := hc (n - 1) _ (List.getElem?_eq_getElem (by omega))
  rw [hb.cell, List.getElem?_eq_none (by omega)] at this
  cases this
theorem be_toBe (s m : Nat) : be (toBe s m) = m % 256 ^ s := by
  induction s generalizing m with
  | zero => simp [toBe, be, Nat.mod_one]
  | succ s ih =>
    rw [toBe, be_snoc, ih, UInt8.toNat_ofNat', Nat.mod_eq_of_lt (show m % 256 < 2 ^ 8 by omega), Nat.pow_succ, Nat.mul_comm (256 ^ s) 256, Nat.mod_mul]
    omega
theorem numF_mid (X Y Z : List UInt8) (i s : Nat) (hX : X.length = i) (hY : Y.length = s) : numF (X ++ Y ++ Z) i s = be Y := by
  unfold numF
  rw [List.append_assoc, List.drop_left' hX, List.take_left' hY]
theorem ub_nat (x : Int) (h0 : 0 ≤ x) (h1 : x ≤ 255) : (((ub x).toNat : Nat) : Int) = x := u8_of x h0 h1

/-- a slice of bytes of its own block, not older than base -/
def OwnR (base : Nat) (l : List UInt8) (v : Value) (W : World) : Prop := ∃ A n c, v = .slice A n c ∧ Own W base 5 1 A n c (bv l)
theorem mono_own (base : Nat) (l : List UInt8) : ∀ v A B, OwnR base l v A → World.grownBy A B none → OwnR base l v B := fun _ _ _ ⟨X, n, c, h, ho⟩ hg => ⟨X, n, c, h, ho.below (grow_below hg)⟩

end Go.Proofs.YtbcjkjmjljfhpaaDoor

/- Headers of IPv6 as cells: made, compared, and the reference's and the program's reading of bytes as one. No condition. -/
namespace Go.Proofs.YtbcjkjmjljfhpaaDoor
open Go.RowKit
set_option linter.unusedVariables false
set_option maxRecDepth 20000

/-- a header -/
structure H6 where
  cls : Int
  flow : Int
  len : Int
  next : Int
  ttl : Int
  src : List UInt8
  dst : List UInt8
def H6.cells (h : H6) : List Value := .int .u8 h.cls :: .int .i64 h.flow :: .int .i64 h.len :: .int .u8 h.next :: .int .u8 h.ttl :: (bv h.src ++ bv h.dst)
def z16 : List UInt8 := [0, 0, 0, 0, 0, 0, 0, 0, 0, 0, 0, 0, 0, 0, 0, 0]
def H6.zero : H6 := ⟨0, 0, 0, 0, 0, z16, z16⟩
structure H6.ok (h : H6) : Prop where
  src : h.src.length = 16
  dst : h.dst.length = 16
theorem H6.zero_ok : H6.zero.ok := ⟨rfl, rfl⟩
theorem H6.cells_length (h : H6) (ho : h.ok) : h.cells.length = 37 := by simp [H6.cells, bv_length, ho.src, ho.dst]
theorem H6.cells_same (h k : H6) (ho : h.ok) (ko : k.ok) : h.cells.length = k.cells.length := by rw [h.cells_length ho, k.cells_length ko]
theorem H6.one (h : H6) : ∀ v ∈ h.cells, v.oneCell' = true := by
  intro v hv
  simp only [H6.cells, List.mem_cons, List.mem_append] at hv
  rcases hv with rfl | rfl | rfl | rfl | rfl | hv | hv
  · rfl
  · rfl
  · rfl
  · rfl
  · rfl
  · exact bv_one _ v hv
  · exact bv_one _ v hv
theorem H6.drop_src (h : H6) (ho : h.ok) : (h.cells.drop 5).take 16 = bv h.src := by
  simp only [H6.cells, List.drop_succ_cons, List.drop_zero]
  exact List.take_left' (by rw [bv_length, ho.src])
theorem H6.drop_dst (h : H6) (ho : h.ok) : (h.cells.drop 21).take 16 = bv h.dst := by
  simp only [H6.cells, List.drop_succ_cons]
  rw [List.drop_left' (by rw [bv_length, ho.src])]
  exact List.take_of_length_le (by rw [bv_length, ho.dst]; omega)
theorem H6.put_src (h : H6) (ho : h.ok) (l : List UInt8) (hl : l.length = 16) : h.cells.take 5 ++ bv l ++ h.cells.drop (5 + (bv l).length) = { h with src := l }.cells := by
  rw [bv_length, hl]
  simp only [H6.cells, List.take_succ_cons, List.take_zero, List.drop_succ_cons, List.cons_append, List.nil_append]
  rw [List.drop_left' (by rw [bv_length, ho.src])]
theorem H6.put_dst (h : H6) (ho : h.ok) (l : List UInt8) (hl : l.length = 16) : h.cells.take 21 ++ bv l ++ h.cells.drop (21 + (bv l).length) = { h with dst := l }.cells := by
  rw [List.drop_of_length_le (by rw [h.cells_length ho, bv_length, hl]; omega)]
  simp only [H6.cells, List.take_succ_cons, List.cons_append, List.append_nil]
  rw [List.take_left' (by rw [bv_length, ho.src])]

theorem zero6 (w : World) : (zeroValue 58).run Tryd.prog w = .ok (.agg H6.zero.cells.toArray) w := by kernel_rfl
theorem size6 (h : H6) (ho : h.ok) : (Tryd.prog.info? 58).map (·.size) = some h.cells.length := by rw [h.cells_length ho]; kernel_rfl
theorem size24 (l : List UInt8) (hl : l.length = 16) : (Tryd.prog.info? 26).map (·.size) = some (bv l).length := by rw [bv_length, hl]; kernel_rfl

theorem run_build6 (a b c d e : Int) (w : World) : (Instr.build 58 #[(0, .int .u8 a), (1, .int .i64 b), (2, .int .i64 c), (3, .int .u8 d), (4, .int .u8 e)]).run Tryd.prog w = .ok (.agg (H6.cells ⟨a, b, c, d, e, z16, z16⟩).toArray) w := by kernel_rfl
theorem run_build6z (w : World) : (Instr.build 58 #[]).run Tryd.prog w = .ok (.agg H6.zero.cells.toArray) w := by kernel_rfl
theorem run_build6x (a b c d e : Int) (s0 s1 s2 s3 s4 s5 s6 s7 s8 s9 s10 s11 s12 s13 s14 s15 : UInt8) (t0 t1 t2 t3 t4 t5 t6 t7 t8 t9 t10 t11 t12 t13 t14 t15 : UInt8) (w : World) :
    (Instr.build 58 #[(0, .int .u8 a), (1, .int .i64 b), (2, .int .i64 c), (3, .int .u8 d), (4, .int .u8 e), (5, .agg (bv [s0, s1, s2, s3, s4, s5, s6, s7, s8, s9, s10, s11, s12, s13, s14, s15]).toArray), (6, .agg (bv [t0, t1, t2, t3, t4, t5, t6, t7, t8, t9, t10, t11, t12, t13, t14, t15]).toArray)]).run Tryd.prog w = .ok (.agg (H6.cells ⟨a, b, c, d, e, [s0, s1, s2, s3, s4, s5, s6, s7, s8, s9, s10, s11, s12, s13, s14, s15], [t0, t1, t2, t3, t4, t5, t6, t7, t8, t9, t10, t11, t12, t13, t14, t15]⟩).toArray) w := by kernel_rfl
theorem list16 (l : List UInt8) (h : l.length = 16) : ∃ s0 s1 s2 s3 s4 s5 s6 s7 s8 s9 s10 s11 s12 s13 s14 s15, l = [s0, s1, s2, s3, s4, s5, s6, s7, s8, s9, s10, s11, s12, s13, s14, s15] := by
  match l, h with
  | [s0, s1, s2, s3, s4, s5, s6, s7, s8, s9, s10, s11, s12, s13, s14, s15], _ => exact ⟨s0, s1, s2, s3, s4, s5, s6, s7, s8, s9, s10, s11, s12, s13, s14, s15, rfl⟩
theorem run_build6f (a b c d e : Int) (s t : List UInt8) (hs : s.length = 16) (ht : t.length = 16) (w : World) :
    (Instr.build 58 #[(0, .int .u8 a), (1, .int .i64 b), (2, .int .i64 c), (3, .int .u8 d), (4, .int .u8 e), (5, .agg (bv s).toArray), (6, .agg (bv t).toArray)]).run Tryd.prog w = .ok (.agg (H6.cells ⟨a, b, c, d, e, s, t⟩).toArray) w := by
  obtain ⟨s0, s1, s2, s3, s4, s5, s6, s7, s8, s9, s10, s11, s12, s13, s14, s15, rfl⟩ := list16 s hs
  obtain ⟨t0, t1, t2, t3, t4, t5, t6, t7, t8, t9, t10, t11, t12, t13, t14, t15, rfl⟩ := list16 t ht
  exact run_build6x ..

set_option maxRecDepth 100000 in
theorem same6 (h : H6) (ho : h.ok) (w : World) : (Op.equalIn 10000 58 (.agg h.cells.toArray) (.agg h.cells.toArray)).run Tryd.prog w = .ok true w := by
  rw [run_equalIn_struct w 9999 58 _ _ Tryd.underlying58 (show Tryd.prog.stoodInHeld 58 = false by kernel_rfl)]
  have hd := h.drop_src ho
  have hd2 := h.drop_dst ho
  refine eqF_cons (by decide) (part_one (by kernel_rfl) rfl) (part_one (by kernel_rfl) rfl) (eq_int Tryd.underlying5 _ _) ?_
  refine eqF_cons (by decide) (part_one (by kernel_rfl) rfl) (part_one (by kernel_rfl) rfl) (eq_int Tryd.underlying3 _ _) ?_
  refine eqF_cons (by decide) (part_one (by kernel_rfl) rfl) (part_one (by kernel_rfl) rfl) (eq_int Tryd.underlying3 _ _) ?_
  refine eqF_cons (by decide) (part_one (by kernel_rfl) rfl) (part_one (by kernel_rfl) rfl) (eq_int Tryd.underlying5 _ _) ?_
  refine eqF_cons (by decide) (part_one (by kernel_rfl) rfl) (part_one (by kernel_rfl) rfl) (eq_int Tryd.underlying5 _ _) ?_
  refine eqF_cons (by decide) (part_arr (n := 16) (by kernel_rfl) (by kernel_rfl)) (part_arr (n := 16) (by kernel_rfl) (by kernel_rfl)) (by rw [hd]; exact eq_bytes Tryd.underlying26 Tryd.underlying5 (fun _ => by kernel_rfl) _ ho.src) ?_
  refine eqF_cons (by decide) (part_arr (n := 16) (by kernel_rfl) (by kernel_rfl)) (part_arr (n := 16) (by kernel_rfl) (by kernel_rfl)) (by rw [hd2]; exact eq_bytes Tryd.underlying26 Tryd.underlying5 (fun _ => by kernel_rfl) _ ho.dst) ?_
  exact eqF_nil
theorem run_eql6 (h : H6) (ho : h.ok) (w : World) : (binOp .eql 58 (.agg h.cells.toArray) (.agg h.cells.toArray)).run Tryd.prog w = .ok (.bool true) w := by
  rw [run_eql_struct, same6 h ho]
  rfl
theorem run_neq6 (h : H6) (ho : h.ok) (w : World) : (binOp .neq 58 (.agg h.cells.toArray) (.agg h.cells.toArray)).run Tryd.prog w = .ok (.bool false) w := by
  rw [run_neq_struct, same6 h ho]
  rfl
end Go.Proofs.YtbcjkjmjljfhpaaDoor


/- Texts of this claim put together, in build order: each one's own remark stands ahead of it. -/
import Derived.Test.YtdmgomknamdcfaaG01
/- A region that draws its order, walked once: what each operation leaves is said of it alone, as far as it hangs on those that it waits for; then it is so whatever the order. No condition. -/
namespace Go.Proofs.Ytdmgomknamdcfaa
open Go.RowKit
set_option linter.unusedVariables false
set_option maxRecDepth 20000

/-- operation i waits for operation j -/
def waits (ops : Array Oper) (i j : Nat) : Bool := match ops[i]? with | some o => o.after.any fun e => Region.binds .any e && e.on == j | none => false
def dstOf (ops : Array Oper) (j : Nat) : Option Tmp := (ops[j]?).bind (·.dst)
/-- no operation writes slot k ahead of operation i -/
def freshFor (ops : Array Oper) (i k : Nat) : Bool := (List.range ops.size).all fun j => dstOf ops j != some k || waits ops j i || j == i
/-- each slot is written once, and lies in the frame; each operation waits for those ahead of it in the text alone -/
def plainB (ops : Array Oper) (n : Nat) : Bool :=
 (List.range ops.size).all fun i => (match dstOf ops i with | some d => decide (d < n) && (List.range ops.size).all fun j => j == i || dstOf ops j != some d | none => true) &&
  (match ops[i]? with | some o => o.after.all fun e => !Region.binds .any e || decide (e.on < i) | none => true)
def putAll (vs : Nat → Value) : Nat → List Oper → Act → Act
 | _, [], a => a
 | i, o :: r, a => putAll vs (i + 1) r (a.put o.dst (vs i))

section
variable (P : Program) (ops : Array Oper) (R : Nat → Value → World → Prop) (X : World → World → Prop) (a0 : Act) (w0 : World)
/-- what one operation leaves -/
def RelStep (i : Nat) (o : Oper) : Prop :=
 ∀ (a : Act) (vs : Nat → Value) (W : World), X w0 W → (∀ j, waits ops i j = true → R j (vs j) W) → (∀ j d, waits ops i j = true → dstOf ops j = some d → a.eval (.tmp d) = vs j) →
  (∀ k, freshFor ops i k = true → a.eval (.tmp k) = a0.eval (.tmp k)) → ∀ K : Act → World → Prop, (∀ v W', R i v W' → X W W' → K (a.put o.dst v) W') →
  if Region.wanted o (yielded ops a.tmps) = true then o.wp P a W K (fun _ _ _ => False) else K (a.put o.dst undef) W
def RelSteps : Nat → List Oper → Prop
 | _, [] => True
 | i, o :: r => RelStep P ops R X a0 w0 i o ∧ RelSteps (i + 1) r
end

section
variable {P : Program} {ops : Array Oper} {R : Nat → Value → World → Prop} {X : World → World → Prop} {a0 : Act} {w0 : World}
theorem relSteps_at (l : List Oper) : ∀ (k : Nat), RelSteps P ops R X a0 w0 k l → ∀ (i : Nat) (o : Oper), l[i]? = some o → RelStep P ops R X a0 w0 (k + i) o := by
 induction l with
 | nil => intro k _ i o h; simp at h
 | cons x l ih =>
  intro k h i o hi
  cases i with
  | zero => simp at hi; subst hi; exact h.1
  | succ i =>
   have := ih (k + 1) h.2 i o (by simpa using hi)
   rwa [show k + 1 + i = k + (i + 1) by omega] at this
theorem putAll_size (vs : Nat → Value) (l : List Oper) : ∀ (k : Nat) (a : Act), (putAll vs k l a).tmps.size = a.tmps.size := by
 induction l with
 | nil => exact fun _ _ => rfl
 | cons o l ih =>
  intro k a
  rw [putAll, ih]
  cases h : o.dst <;> simp [Act.put]
theorem putAll_defers (vs : Nat → Value) (l : List Oper) : ∀ (k : Nat) (a : Act), (putAll vs k l a).defers = a.defers := by
 induction l with
 | nil => exact fun _ _ => rfl
 | cons o l ih =>
  intro k a
  rw [putAll, ih]
  cases h : o.dst <;> simp [Act.put]
theorem putAll_none (vs : Nat → Value) (l : List Oper) (s : Nat) : ∀ (k : Nat) (a : Act), (∀ o ∈ l, o.dst ≠ some s) → (putAll vs k l a).eval (.tmp s) = a.eval (.tmp s) := by
 induction l with
 | nil => exact fun _ _ _ => rfl
 | cons o l ih =>
  intro k a h
  rw [putAll, ih (k + 1) _ (fun x hx => h x (by simp [hx]))]
  exact Act.eval_put fun d hd e => by injection e with e; exact h o (by simp) (by rw [hd, e])
theorem putAll_some (vs : Nat → Value) (l : List Oper) (s : Nat) : ∀ (k : Nat) (a : Act) (i : Nat) (o : Oper), l[i]? = some o → o.dst = some s → s < a.tmps.size → (∀ j x, l[j]? = some x → j ≠ i → x.dst ≠ some s) → (putAll vs k l a).eval (.tmp s) = vs (k + i) := by
 induction l with
 | nil => intro k a i o h; simp at h
 | cons x l ih =>
  intro k a i o hi hd hs hno
  cases i with
  | zero =>
   simp at hi
   subst hi
   rw [putAll, putAll_none vs l s (k + 1) _ (fun y hy => by
    obtain ⟨j, hj⟩ := List.getElem?_of_mem hy
    exact hno (j + 1) y (by simpa using hj) (by omega))]
   simp [Act.put, hd, Act.eval, hs]
  | succ i =>
   rw [putAll]
   have := ih (k + 1) (a.put x.dst (vs k)) i o (by simpa using hi) hd (by cases h : x.dst <;> simpa [Act.put] using hs) (fun j y hj hne => hno (j + 1) y (by simpa using hj) (by omega))
   rwa [show k + 1 + i = k + (i + 1) by omega] at this
theorem act_ext {a b : Act} (hs : a.tmps.size = b.tmps.size) (hd : a.defers = b.defers) (h : ∀ k, k < a.tmps.size → a.eval (.tmp k) = b.eval (.tmp k)) : a = b := by
 obtain ⟨ta, da⟩ := a
 obtain ⟨tb, db⟩ := b
 simp only at hs hd h
 subst hd
 congr 1
 apply Array.ext hs
 intro k h1 h2
 have := h k h1
 simp [Act.eval, h1, h2] at this
 exact this
theorem dst_bind {j : Nat} {o : Oper} (h : ops[j]? = some o) : dstOf ops j = o.dst := by simp [dstOf, h]

theorem upon_calm {o : Oper} {a : Act} {K : Act → World → Prop} {Q : Exit → Act → World → Prop} (r : Result Next) (h : Oper.upon P o a K (fun _ _ _ => False) r) : Oper.upon P o a K Q r := by
 cases r with
 | ok n w' =>
  cases n with
  | enter f args =>
   rw [Oper.upon_enter] at h ⊢
   refine Calls.mono h ?_
   intro e w' he
   cases e with
   | returned v => exact he
   | panicked c => exact he.elim
   | outgrown => obtain ⟨_, _, h⟩ := he; exact h.elim
  | _ => exact h
 | halt x w' => cases x <;> exact (h : False).elim

/-- what holds between two operations -/
structure RelInv (ops : Array Oper) (R : Nat → Value → World → Prop) (X : World → World → Prop) (a0 : Act) (w0 : World) (listed : Array Bool) (a : Act) (W : World) (vs : Nat → Value) : Prop where
 world : X w0 W
 size : a.tmps.size = a0.tmps.size
 defers : a.defers = a0.defers
 len : listed.size = ops.size
 vals : ∀ j, listed.getD j true = true → j < ops.size → R j (vs j) W ∧ ∀ d, dstOf ops j = some d → a.eval (.tmp d) = vs j
 rest : ∀ k, (∀ j, listed.getD j true = true → j < ops.size → dstOf ops j ≠ some k) → a.eval (.tmp k) = a0.eval (.tmp k)
 closed : ∀ j, listed.getD j true = true → j < ops.size → ∀ i, waits ops j i = true → listed.getD i true = true ∧ i < ops.size

theorem waits_of {i j : Nat} {o : Oper} (ho : ops[i]? = some o) (h : waits ops i j = true) : ∃ e ∈ o.after, Region.binds .any e = true ∧ e.on = j := by
 unfold waits at h
 rw [ho] at h
 obtain ⟨e, he, h2⟩ := Array.any_eq_true'.1 h
 simp at h2
 exact ⟨e, he, h2.1, h2.2⟩
theorem plain_at {n i : Nat} (h : plainB ops n = true) (hi : i < ops.size) : (∀ d, dstOf ops i = some d → d < n ∧ ∀ j, j < ops.size → j ≠ i → dstOf ops j ≠ some d) ∧ ∀ o, ops[i]? = some o → ∀ e ∈ o.after, Region.binds .any e = true → e.on < i := by
 unfold plainB at h
 have := List.all_eq_true.1 h i (List.mem_range.2 hi)
 rw [Bool.and_eq_true] at this
 obtain ⟨h1, h2⟩ := this
 refine ⟨fun d hd => ?_, fun o ho e he hb => ?_⟩
 ·rw [hd] at h1
  simp only [Bool.and_eq_true, decide_eq_true_eq] at h1
  refine ⟨h1.1, fun j hj hne hdj => ?_⟩
  have := List.all_eq_true.1 h1.2 j (List.mem_range.2 hj)
  simp [hne, hdj] at this
 ·rw [ho] at h2
  have := Array.all_eq_true_iff_forall_mem.1 h2 e he
  simpa [hb] using this

theorem listed_all {n : Nat} {listed : Array Bool} (hp : plainB ops n = true) (hl : listed.size = ops.size) (h : Region.ready .any ops listed = []) : ∀ i, i < ops.size → listed.getD i true = true := by
 intro i
 induction i using Nat.strongRecOn with
 | ind i ih =>
  intro hi
  rcases Bool.eq_false_or_eq_true (listed.getD i true) with ht | hf
  ·exact ht
  ·exfalso
   have hm : i ∈ Region.ready .any ops listed := by
    rw [mem_ready]
    refine ⟨hf, ops[i], Array.getElem?_eq_getElem hi, fun e he hb => ?_⟩
    have hlt := (plain_at hp hi).2 _ (Array.getElem?_eq_getElem hi) e he hb
    have := ih e.on hlt (by omega)
    rw [Array.getD_eq_getD_getElem?] at this ⊢
    rw [Array.getElem?_eq_getElem (by omega)] at this ⊢
    exact this
   rw [h] at hm
   cases hm

theorem wp_region_rel_aux {Q : Exit → Act → World → Prop} (hXt : ∀ A B C, X A B → X B C → X A C) (hR : ∀ i v A B, R i v A → X A B → R i v B) (hp : plainB ops a0.tmps.size = true)
  (hsteps : RelSteps P ops R X a0 w0 0 ops.toList) (hpost : ∀ vs W, X w0 W → (∀ i, i < ops.size → R i (vs i) W) → Q .normal (putAll vs 0 ops.toList a0) W) :
  ∀ (fuel : Nat) (listed : Array Bool) (a : Act) (W : World) (vs : Nat → Value), RelInv ops R X a0 w0 listed a W vs → ((List.range ops.size).filter fun i => !listed.getD i true).length ≤ fuel → wpAny P .any ops Q fuel listed a W := by
 have fin : ∀ (listed : Array Bool) (a : Act) (W : World) (vs : Nat → Value), RelInv ops R X a0 w0 listed a W vs → (∀ i, i < ops.size → listed.getD i true = true) → Q .normal a W := by
  intro listed a W vs I hall
  have ha : a = putAll vs 0 ops.toList a0 := by
   refine act_ext (by rw [putAll_size, I.size]) (by rw [putAll_defers, I.defers]) fun k hk => ?_
   by_cases hw : ∃ j, j < ops.size ∧ dstOf ops j = some k
   ·obtain ⟨j, hj, hd⟩ := hw
    rw [(I.vals j (hall j hj) hj).2 k hd]
    have hoj : ops.toList[j]? = some ops[j] := by simp [Array.getElem?_eq_getElem hj]
    have := putAll_some vs ops.toList k 0 a0 j ops[j] hoj (by rw [← dst_bind (Array.getElem?_eq_getElem hj)]; exact hd) (by rw [← I.size]; exact hk) (fun i x hx hne => by
     have hx' : ops[i]? = some x := by simpa using hx
     rw [← dst_bind hx']
     exact ((plain_at hp hj).1 k hd).2 i (Array.getElem?_eq_some_iff.1 hx').1 hne)
    rw [this, Nat.zero_add]
   ·rw [I.rest k (fun j _ hj hd => hw ⟨j, hj, hd⟩)]
    refine (putAll_none vs ops.toList k 0 a0 fun o ho hd => ?_).symm
    obtain ⟨j, hj⟩ := List.getElem?_of_mem ho
    have hj' : ops[j]? = some o := by simpa using hj
    exact hw ⟨j, (Array.getElem?_eq_some_iff.1 hj').1, by rw [dst_bind hj']; exact hd⟩
  rw [ha]
  exact hpost vs W I.world fun i hi => (I.vals i (hall i hi) hi).1
 intro fuel
 induction fuel with
 | zero =>
  intro listed a W vs I hlen
  have hall : ∀ i, i < ops.size → listed.getD i true = true := by
   intro i hi
   rcases Bool.eq_false_or_eq_true (listed.getD i true) with ht | hf
   ·exact ht
   ·have : i ∈ (List.range ops.size).filter fun i => !listed.getD i true := List.mem_filter.2 ⟨List.mem_range.2 hi, by simp only [hf, Bool.not_false]⟩
    have hnil : ((List.range ops.size).filter fun i => !listed.getD i true) = [] := List.eq_nil_of_length_eq_zero (by omega)
    rw [hnil] at this
    cases this
  refine ⟨?_, fin listed a W vs I hall⟩
  apply List.eq_nil_iff_forall_not_mem.2
  intro i hi
  obtain ⟨h1, o, ho, _⟩ := mem_ready.1 hi
  rw [hall i (Array.getElem?_eq_some_iff.1 ho).1] at h1
  cases h1
 | succ fuel ih =>
  intro listed a W vs I hlen
  refine ⟨fun h => fin listed a W vs I (listed_all hp I.len h), fun i hi => ?_⟩
  obtain ⟨hun, o, ho, hall⟩ := mem_ready.1 hi
  have hilt : i < ops.size := (Array.getElem?_eq_some_iff.1 ho).1
  have hst := relSteps_at ops.toList 0 hsteps i o (by simpa using ho)
  rw [Nat.zero_add] at hst
  have hpre : ∀ j, waits ops i j = true → listed.getD j true = true ∧ j < ops.size := by
   intro j hj
   obtain ⟨e, he, hb, rfl⟩ := waits_of ho hj
   have h1 := hall e he hb
   have hlt := (plain_at hp hilt).2 o ho e he hb
   have hjs : e.on < ops.size := by omega
   refine ⟨?_, hjs⟩
   rw [Array.getD_eq_getD_getElem?] at h1 ⊢
   rw [Array.getElem?_eq_getElem (by rw [I.len]; exact hjs)] at h1 ⊢
   exact h1
  have key := hst a vs W I.world (fun j hj => (I.vals j (hpre j hj).1 (hpre j hj).2).1) (fun j d hj hd => (I.vals j (hpre j hj).1 (hpre j hj).2).2 d hd)
   (fun k hk => I.rest k fun j hlj hj hd => by
    have := List.all_eq_true.1 hk j (List.mem_range.2 hj)
    simp only [hd, bne_self_eq_false, Bool.false_or, Bool.or_eq_true, beq_iff_eq] at this
    rcases this with h | h
    ·have := (I.closed j hlj hj i h).1
     rw [hun] at this
     cases this
    ·subst h
     rw [hun] at hlj
     cases hlj)
  have next : ∀ v W', R i v W' → X W W' → wpAny P .any ops Q fuel (listed.setIfInBounds i true) (a.put o.dst v) W' := by
   intro v W' hv hx
   have hils : i < listed.size := by rw [I.len]; exact hilt
   have hget : ∀ j, (listed.setIfInBounds i true).getD j true = if j = i then true else listed.getD j true := by
    intro j
    by_cases hj : j = i
    ·subst hj
     rw [if_pos rfl, Array.getD_eq_getD_getElem?, Array.getElem?_setIfInBounds_self_of_lt hils]
     rfl
    ·rw [if_neg hj, Array.getD_eq_getD_getElem?, Array.getD_eq_getD_getElem?, Array.getElem?_setIfInBounds_ne (fun e => hj e.symm)]
   have hput : ∀ k, o.dst ≠ some k → (a.put o.dst v).eval (.tmp k) = a.eval (.tmp k) := fun k hk => Act.eval_put fun d hd e => by injection e with e; exact hk (by rw [hd, e])
   refine ih _ _ _ (fun j => if j = i then v else vs j) ?_ ?_
   ·refine ⟨hXt _ _ _ I.world hx, ?_, ?_, by rw [Array.size_setIfInBounds, I.len], ?_, ?_, ?_⟩
    ·rw [← I.size]; cases h : o.dst <;> simp [Act.put]
    ·rw [← I.defers]; cases h : o.dst <;> simp [Act.put]
    ·intro j hj hjs
     rw [hget] at hj
     by_cases hji : j = i
     ·subst hji
      simp only [if_true]
      refine ⟨hv, fun d hd => ?_⟩
      rw [dst_bind ho] at hd
      have hdl : d < a.tmps.size := by rw [I.size]; exact ((plain_at hp hjs).1 d (by rw [dst_bind ho]; exact hd)).1
      simp [Act.put, hd, Act.eval, hdl]
     ·rw [if_neg hji] at hj
      simp only [if_neg hji]
      obtain ⟨h1, h2⟩ := I.vals j hj hjs
      refine ⟨hR _ _ _ _ h1 hx, fun d hd => ?_⟩
      rw [hput d (fun e => ((plain_at hp hjs).1 d hd).2 i hilt (fun e => hji e.symm) (by rw [dst_bind ho]; exact e))]
      exact h2 d hd
    ·intro k hk
     have hki : o.dst ≠ some k := by
      have := hk i (by rw [hget, if_pos rfl]) hilt
      rwa [dst_bind ho] at this
     rw [hput k hki]
     exact I.rest k fun j hj hjs => hk j (by rw [hget]; split <;> first | rfl | exact hj) hjs
    ·intro j hj hjs k hk
     have hkk : listed.getD k true = true ∧ k < ops.size := by
      rw [hget] at hj
      by_cases hji : j = i
      ·subst hji
       exact hpre k hk
      ·rw [if_neg hji] at hj
       exact I.closed j hj hjs k hk
     exact ⟨by rw [hget]; split <;> first | rfl | exact hkk.1, hkk.2⟩
   ·have hsub : ((List.range ops.size).filter fun j => !(listed.setIfInBounds i true).getD j true) = (((List.range ops.size).filter fun j => !listed.getD j true).filter fun j => !decide (j = i)) := by
     rw [List.filter_filter]
     apply List.filter_congr
     intro j _
     rw [hget]
     by_cases hji : j = i
     ·simp [hji]
     ·simp [hji]
    rw [hsub]
    have hmem : i ∈ (List.range ops.size).filter fun j => !listed.getD j true := List.mem_filter.2 ⟨List.mem_range.2 hilt, by simp only [hun, Bool.not_false]⟩
    have := List.length_filter_lt_length_iff_exists (p := fun j => !decide (j = i)) |>.2 ⟨i, hmem, by simp⟩
    omega
  have key2 := key (wpAny P .any ops Q fuel (listed.setIfInBounds i true)) next
  unfold wpOp
  rw [ho]
  simp only
  by_cases hw : Region.wanted o (yielded ops a.tmps) = true
  ·rw [if_pos hw] at key2 ⊢
   exact .inl (upon_calm _ key2)
  ·rw [if_neg hw] at key2 ⊢
   exact key2

/-- the law -/
theorem wp_region_rel {id : Nat} {Q : Exit → Act → World → Prop} {w : World} (X : World → World → Prop) (hXr : ∀ A, X A A) (hXt : ∀ A B C, X A B → X B C → X A C) (R : Nat → Value → World → Prop) (hR : ∀ i v A B, R i v A → X A B → R i v B)
  (hm : P.follows .mixedOrders = true) (hp : plainB ops a0.tmps.size = true) (hsteps : RelSteps P ops R X a0 w.drew 0 ops.toList)
  (hpost : ∀ vs W, X w.drew W → (∀ i, i < ops.size → R i (vs i) W) → Q .normal (putAll vs 0 ops.toList a0) W) : (Code.region id ops true).wp P Q a0 w := by
 refine wp_region_any hm (wp_region_rel_aux hXt hR hp hsteps hpost ops.size (Array.replicate ops.size false) a0 w.drew (fun _ => undef) ?_ ?_)
 ·have hno : ∀ j, (Array.replicate ops.size false).getD j true = true → j < ops.size → False := by
   intro j h hj
   rw [Array.getD_eq_getD_getElem?, Array.getElem?_replicate, if_pos hj] at h
   cases h
  exact ⟨hXr _, rfl, rfl, by simp, fun j h hj => (hno j h hj).elim, fun k _ => rfl, fun j h hj => (hno j h hj).elim⟩
 ·refine Nat.le_trans (List.length_filter_le _ _) (by simp)
end

/-- what the operations leave, as a list -/
def relAt (l : List (Value → World → Prop)) (i : Nat) (v : Value) (W : World) : Prop := (l.getD i fun _ _ => True) v W
inductive MonoL (X : World → World → Prop) : List (Value → World → Prop) → Prop
 | nil : MonoL X []
 | cons {r : Value → World → Prop} {l : List (Value → World → Prop)} (h : ∀ v A B, r v A → X A B → r v B) (t : MonoL X l) : MonoL X (r :: l)
theorem MonoL.at_ {X : World → World → Prop} {l : List (Value → World → Prop)} (h : MonoL X l) : ∀ i v A B, relAt l i v A → X A B → relAt l i v B := by
 induction h with
 | nil => intro i v A B _ _; cases i <;> exact True.intro
 | cons h t ih =>
  intro i v A B hr hx
  cases i with
  | zero => exact h v A B hr hx
  | succ i => exact ih i v A B hr hx
theorem mono_val {X : World → World → Prop} (x : Value) : ∀ v A B, (fun (v : Value) (_ : World) => v = x) v A → X A B → (fun (v : Value) (_ : World) => v = x) v B := fun _ _ _ h _ => h
theorem grown_trans {A B C : World} {r : Option Nat} (h : A.grownBy B r) (k : B.grownBy C r) : A.grownBy C r :=
 ⟨k.os.trans h.os, k.tape.trans h.tape, k.output.trans h.output, Nat.le_trans h.size k.size, fun i hi hne => (k.block i (Nat.lt_of_lt_of_le hi h.size) hne).trans (h.block i hi hne)⟩
theorem below_grow {A B : World} (h : Below A.heap.size A B) (r : Option Nat) : A.grownBy B r := ⟨h.os, h.tape, h.output, h.size, fun k hk _ => h.block k hk⟩
theorem grow_below {A B : World} (h : A.grownBy B none) : Below A.heap.size A B := ⟨h.os, h.tape, h.output, h.size, fun k hk => h.block k hk (by simp)⟩
theorem wp_enter {P : Program} {o : Oper} {a : Act} {w : World} {K : Act → World → Prop} {Q : Exit → Act → World → Prop} {f : FuncId} {args : Array Value} (h : (execOp a.eval o).run P w = .ok (.enter f args) w)
  (hc : Calls P f args w fun e w' => ∃ v, e = .returned v ∧ K (a.put o.dst v) w') : o.wp P a w K Q := by
 unfold Oper.wp
 rw [h, Oper.upon_enter]
 refine Calls.mono hc ?_
 rintro e w' ⟨v, rfl, hk⟩
 exact hk
theorem wp_skip {P : Program} {o : Oper} {a : Act} {w w' : World} {K : Act → World → Prop} {Q : Exit → Act → World → Prop} (h : (execOp a.eval o).run P w = .ok .skip w') (hk : K (a.put o.dst undef) w') : o.wp P a w K Q := by
 unfold Oper.wp
 rw [h]
 exact hk

/-- new blocks, and block g, that is as long as it was, and stays what it is once it holds cs -/
structure Ext1 (g : Nat) (t : TypeId) (cs : List Value) (A B : World) : Prop where
 grown : A.grownBy B (some g)
 stays : Blk A g t cs → Blk B g t cs
 there : (∃ zs, zs.length = cs.length ∧ Blk A g t zs) → ∃ zs, zs.length = cs.length ∧ Blk B g t zs
theorem Ext1.refl (g : Nat) (t : TypeId) (cs : List Value) (A : World) : Ext1 g t cs A A := ⟨grown_refl A _, id, id⟩
theorem Ext1.trans {g : Nat} {t : TypeId} {cs : List Value} {A B C : World} (h : Ext1 g t cs A B) (k : Ext1 g t cs B C) : Ext1 g t cs A C := ⟨grown_trans h.grown k.grown, fun x => k.stays (h.stays x), fun x => k.there (h.there x)⟩
theorem Ext1.below {g : Nat} {t : TypeId} {cs : List Value} {A B : World} (h : Below A.heap.size A B) : Ext1 g t cs A B := ⟨below_grow h _, fun x => x.on h, fun ⟨zs, h1, h2⟩ => ⟨zs, h1, h2.on h⟩⟩
theorem Ext1.store {g : Nat} {t : TypeId} {cs : List Value} {A B : World} (h : A.grownBy B (some g)) (hb : Blk B g t cs) : Ext1 g t cs A B := ⟨h, fun _ => hb, fun _ => ⟨cs, rfl, hb⟩⟩

theorem wanted_none {ops : Array Oper} {o : Oper} {t : Array Value} (h : o.guard = none) : Region.wanted o (yielded ops t) = true := by unfold Region.wanted; rw [h]
theorem wanted_some {ops : Array Oper} {o : Oper} {a : Act} {g : Nat} {want b : Bool} {d : Tmp} (h : o.guard = some (g, want)) (hd : dstOf ops g = some d) (hv : a.eval (.tmp d) = .bool b) : Region.wanted o (yielded ops a.tmps) = (b == want) := by
 unfold Region.wanted
 rw [h]
 simp only
 have hy : yielded ops a.tmps g = some b := by
  unfold yielded
  have hd' : (ops[g]?).bind (·.dst) = some d := hd
  rw [hd']
  simp only [Option.bind_some]
  have hv' : a.tmps[d]?.getD undef = .bool b := by simpa [Act.eval] using hv
  cases ht : a.tmps[d]? with
  | none => rw [ht] at hv'; cases hv'
  | some x => rw [ht] at hv'; simp at hv'; subst hv'; rfl
 rw [hy]
 simp

end Go.Proofs.Ytdmgomknamdcfaa

/- Short names for what the steps of drawn regions say again and again. No condition. -/
namespace Go.Proofs.Ytdmgomknamdcfaa
open Go.RowKit
set_option linter.unusedVariables false
set_option maxRecDepth 20000

theorem Hh {p : Prop} (h : p) : RowKit.Hid p := Lib.hid h
/-- the relation of operations that leave known values -/
def eqs : List Value → List (Value → World → Prop)
 | [] => []
 | x :: l => (fun v _ => v = x) :: eqs l
theorem eqs_mono {X : World → World → Prop} : ∀ l, MonoL X (eqs l)
 | [] => .nil
 | x :: l => .cons (mono_val _) (eqs_mono l)
/-- the frame behind operations that leave known values -/
def putL : List Value → List Oper → Act → Act
 | v :: l, o :: r, a => putL l r (a.put o.dst v)
 | _, _, a => a
theorem putL_aux {vs : Nat → Value} : ∀ (L : List Value) (l : List Oper) (k : Nat) (a : Act), l.length ≤ L.length → (∀ j, j < l.length → vs (k + j) = L.getD j undef) → putAll vs k l a = putL L l a
 | _, [], _, _, _, _ => by cases ‹List Value› <;> rfl
 | [], _ :: _, _, _, h, _ => by simp at h
 | v :: L, o :: l, k, a, h, hv => by
  have h0 := hv 0 (by simp)
  simp at h0
  rw [putAll, putL, h0]
  refine putL_aux L l (k + 1) _ (by simpa using h) fun j hj => ?_
  have := hv (j + 1) (by simpa using hj)
  rw [show k + 1 + j = k + (j + 1) by omega, this]
  simp
theorem eqs_at {W : World} : ∀ (L : List Value) (j : Nat) (v : Value), j < L.length → relAt (eqs L) j v W → v = L.getD j undef
 | [], _, _, h, _ => by simp at h
 | x :: L, 0, v, _, h => h
 | x :: L, j + 1, v, h, k => by
  have := eqs_at L j v (by simpa using h) k
  simpa using this
theorem put_eqs {L : List Value} {vs : Nat → Value} {W : World} {ops : Array Oper} {a : Act} (hR : ∀ j, j < ops.size → relAt (eqs L) j (vs j) W) (h : Nat.ble ops.size L.length = true) : putAll vs 0 ops.toList a = putL L ops.toList a :=
 putL_aux L ops.toList 0 a (Nat.le_of_ble_eq_true h) fun j hj => by
  rw [Nat.zero_add]
  exact eqs_at L j _ (Nat.lt_of_lt_of_le hj (Nat.le_of_ble_eq_true h)) (hR j hj)
theorem put_eqsT {L : List Value} {vs : Nat → Value} {W : World} {l : List Oper} {m : Nat} {a : Act} (hR : ∀ j, j < m → relAt (eqs L) j (vs j) W) (h : Nat.ble m L.length = true) : putAll vs 0 (l.take m) a = putL L (l.take m) a :=
 putL_aux L (l.take m) 0 a (Nat.le_trans (by rw [List.length_take]; omega) (Nat.le_of_ble_eq_true h)) fun j hj => by
  have hj : j < m := by rw [List.length_take] at hj; omega
  rw [Nat.zero_add]
  exact eqs_at L j _ (Nat.lt_of_lt_of_le hj (Nat.le_of_ble_eq_true h)) (hR j hj)
section
variable {P : Program} {ops : Array Oper} {R : Nat → Value → World → Prop} {Rv : Value → World → Prop} {a : Act} {vs : Nat → Value} {W : World} {K : Act → World → Prop} {Q : Exit → Act → World → Prop} {o : Oper} {i d g : Nat} {v : Value} {row : Option Nat} {want b : Bool} {A B : Prop} {ds : Option Tmp}
theorem eH (he : ∀ j d, waits ops i j = true → dstOf ops j = some d → a.eval (.tmp d) = vs j) (hR : ∀ j, waits ops i j = true → R j (vs j) W) (j : Nat) (h1 : waits ops i j = true) (h2 : dstOf ops j = some d) : R j (a.eval (.tmp d)) W := by rw [he j d h1 h2]; exact hR j h1
theorem gK (hK : ∀ v W', Rv v W' → W.grownBy W' row → K (a.put ds v) W') (h : Rv v W) : K (a.put ds v) W := hK v W h (grown_refl W _)
theorem wV (hK : ∀ v W', Rv v W' → W.grownBy W' row → K (a.put o.dst v) W') (h : Rv v W) (k : (execOp a.eval o).run P W = .ok (.value v) W) : o.wp P a W K Q := wp_value k (hK v W h (grown_refl W _))
theorem gT (e : a.eval (.tmp d) = .bool b) (hg : o.guard = some (g, want)) (hd : dstOf ops g = some d) (hb : (b == want) = true) (h : A) : if Region.wanted o (yielded ops a.tmps) = true then A else B := by rw [if_pos ((wanted_some hg hd e).trans hb)]; exact h
theorem gN (e : a.eval (.tmp d) = .bool b) (hg : o.guard = some (g, want)) (hd : dstOf ops g = some d) (hb : (b == want) = false) (h : B) : if Region.wanted o (yielded ops a.tmps) = true then A else B := by
 rw [if_neg (by rw [(wanted_some hg hd e).trans hb]; exact Bool.false_ne_true)]; exact h
theorem wn {t : Array Value} (h : o.guard = none) (k : A) : if Region.wanted o (yielded ops t) = true then A else B := by rw [if_pos (wanted_none h)]; exact k
end
end Go.Proofs.Ytdmgomknamdcfaa


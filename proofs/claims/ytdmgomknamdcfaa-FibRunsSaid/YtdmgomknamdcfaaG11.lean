/- Texts of this claim put together, in build order: each one's own remark stands ahead of it. -/
import Derived.Test.YtdmgomknamdcfaaG05
import Derived.Test.YtdmgomknamdcfaaG10
/- A region that draws its order, in which one operation (a call, an append, a store) changes what was there: those that it waits for come ahead of it, the others hang on nothing that it changes, and the last operation waits for all. No condition. -/
namespace Go.Proofs.Ytdmgomknamdcfaa
open Go.RowKit
set_option linter.unusedVariables false
set_option maxRecDepth 20000

/-- operation h waits for operation i, step by step -/
def ancB (ops : Array Oper) (h i : Nat) : Bool := (closure ops ops.size [h]).contains i
def constAt (cs : List Bool) (i : Nat) : Bool := cs.getD i false
/-- what h does not wait for hangs on constant values alone -/
def midB (ops : Array Oper) (h m : Nat) (cs : List Bool) : Bool :=
 (List.range m).all fun i => i == h || ancB ops h i || constAt cs i

section
variable (P : Program) (ops : Array Oper) (R : Nat → Value → World → Prop) (X : World → World → Prop) (Post : Value → World → Prop) (S : World → Prop) (h : Nat) (cs : List Bool) (a0 : Act) (w0 : World)
/-- what one that h does not wait for does: it leaves the world as it is -/
def CalmStep (i : Nat) (o : Oper) : Prop :=
 ∀ (a : Act) (vs : Nat → Value) (W : World), S W → (∀ j, waits ops i j = true → constAt cs j = true → R j (vs j) W) → (∀ j d, waits ops i j = true → dstOf ops j = some d → a.eval (.tmp d) = vs j) →
  (∀ k, freshFor ops i k = true → a.eval (.tmp k) = a0.eval (.tmp k)) → ∀ K : Act → World → Prop, (∀ v, R i v W → K (a.put o.dst v) W) →
  if Region.wanted o (yielded ops a.tmps) = true then o.wp P a W K (fun _ _ _ => False) else K (a.put o.dst undef) W
/-- what the operation that changes the world does -/
def HeavyStep (i : Nat) (o : Oper) : Prop :=
 ∀ (a : Act) (vs : Nat → Value) (W : World), X w0 W → (∀ j, waits ops i j = true → R j (vs j) W) → (∀ j d, waits ops i j = true → dstOf ops j = some d → a.eval (.tmp d) = vs j) →
  (∀ k, freshFor ops i k = true → a.eval (.tmp k) = a0.eval (.tmp k)) → ∀ K : Act → World → Prop, (∀ v W', Post v W' → K (a.put o.dst v) W') →
  if Region.wanted o (yielded ops a.tmps) = true then o.wp P a W K (fun _ _ _ => False) else K (a.put o.dst undef) W
def StepM (i : Nat) (o : Oper) : Prop :=
 if (i == h) = true then HeavyStep P ops R X Post a0 w0 i o
 else if ancB ops h i = true then RelStep P ops R X a0 w0 i o
 else CalmStep P ops R S cs a0 i o
def StepsM : Nat → List Oper → Prop
 | _, [] => True
 | i, o :: r => StepM P ops R X Post S h cs a0 w0 i o ∧ StepsM (i + 1) r
/-- the same for all but the last of a list -/
def StepsMB : Nat → List Oper → Prop
 | _, [] => True
 | _, [_] => True
 | i, o :: p :: r => StepM P ops R X Post S h cs a0 w0 i o ∧ StepsMB (i + 1) (p :: r)
end

section
variable {P : Program} {ops : Array Oper} {R : Nat → Value → World → Prop} {X : World → World → Prop} {Post : Value → World → Prop} {S : World → Prop} {h : Nat} {cs : List Bool} {a0 : Act} {w0 : World}
theorem stepsM_of : ∀ (l : List Oper) (k : Nat), StepsMB P ops R X Post S h cs a0 w0 k l → StepsM P ops R X Post S h cs a0 w0 k (l.take (l.length - 1))
 | [], _, _ => trivial
 | [_], _, _ => trivial
 | o :: p :: r, k, hs => ⟨hs.1, by
  have := stepsM_of (p :: r) (k + 1) hs.2
  simpa using this⟩
theorem stepM_heavy {i : Nat} {o : Oper} (h1 : (i == h) = true) (k : HeavyStep P ops R X Post a0 w0 i o) : StepM P ops R X Post S h cs a0 w0 i o := by unfold StepM; rw [if_pos h1]; exact k
theorem stepM_anc {i : Nat} {o : Oper} (h1 : (i == h) = false) (h2 : ancB ops h i = true) (k : RelStep P ops R X a0 w0 i o) : StepM P ops R X Post S h cs a0 w0 i o := by
 unfold StepM
 rw [if_neg (by rw [h1]; exact Bool.false_ne_true), if_pos h2]
 exact k
theorem stepM_calm {i : Nat} {o : Oper} (h1 : (i == h) = false) (h2 : ancB ops h i = false) (k : CalmStep P ops R S cs a0 i o) : StepM P ops R X Post S h cs a0 w0 i o := by
 unfold StepM
 rw [if_neg (by rw [h1]; exact Bool.false_ne_true), if_neg (by rw [h2]; exact Bool.false_ne_true)]
 exact k
theorem stepsM_at (l : List Oper) : ∀ (k : Nat), StepsM P ops R X Post S h cs a0 w0 k l → ∀ (i : Nat) (o : Oper), l[i]? = some o → StepM P ops R X Post S h cs a0 w0 (k + i) o := by
 induction l with
 | nil => intro k _ i o h; simp at h
 | cons x l ih =>
  intro k h i o hi
  cases i with
  | zero => simp at hi; subst hi; exact h.1
  | succ i =>
   have := ih (k + 1) h.2 i o (by simpa using hi)
   rwa [show k + 1 + i = k + (i + 1) by omega] at this
theorem closure_in {listed : Array Bool} (hc : ∀ i, listed.getD i true = true → i < ops.size → ∀ j, waits ops i j = true → listed.getD j true = true ∧ j < ops.size) :
  ∀ (k : Nat) (l : List Nat), (∀ i ∈ l, i < ops.size ∧ listed.getD i true = true) → ∀ i ∈ closure ops k l, i < ops.size ∧ listed.getD i true = true := by
 intro k
 induction k with
 | zero => exact fun l h => h
 | succ k ih =>
  intro l h
  refine ih _ fun i hi => ?_
  rcases List.mem_append.1 hi with hi | hi
  ·exact h i hi
  obtain ⟨h1, h2⟩ := List.mem_filter.1 hi
  simp only [Bool.and_eq_true] at h2
  obtain ⟨x, hx, hw⟩ := List.any_eq_true.1 h2.2
  have := hc x (h x hx).2 (h x hx).1 i hw
  exact ⟨this.2, this.1⟩

/-- what holds between two operations -/
structure RelInvM (ops : Array Oper) (R : Nat → Value → World → Prop) (X : World → World → Prop) (Post : Value → World → Prop) (h : Nat) (cs : List Bool) (a0 : Act) (w0 : World) (listed : Array Bool) (a : Act) (W : World) (vs : Nat → Value) : Prop where
 pre : listed.getD h true = false → X w0 W ∧ ∀ j, listed.getD j true = true → j < ops.size → R j (vs j) W
 post : listed.getD h true = true → Post (vs h) W ∧ ∀ j, listed.getD j true = true → j < ops.size → constAt cs j = true → R j (vs j) W
 size : a.tmps.size = a0.tmps.size
 defers : a.defers = a0.defers
 len : listed.size = ops.size
 vals : ∀ j, listed.getD j true = true → j < ops.size → ∀ d, dstOf ops j = some d → a.eval (.tmp d) = vs j
 rest : ∀ k, (∀ j, listed.getD j true = true → j < ops.size → dstOf ops j ≠ some k) → a.eval (.tmp k) = a0.eval (.tmp k)
 closed : ∀ j, listed.getD j true = true → j < ops.size → ∀ i, waits ops j i = true → listed.getD i true = true ∧ i < ops.size

theorem wp_region_mid_aux {Q : Exit → Act → World → Prop} (m : Nat) (hm : ops.size = m + 1) (hhm : h < m) (hXt : ∀ A B C, X A B → X B C → X A C) (hR : ∀ i v A B, R i v A → X A B → R i v B) (hC : ∀ i, constAt cs i = true → ∀ v A B, R i v A → R i v B)
  (hPR : ∀ v W, Post v W → R h v W) (hXS : ∀ W, X w0 W → S W) (hPS : ∀ v W, Post v W → S W) (hmid : midB ops h m cs = true)
  (hp : plainB ops a0.tmps.size = true) (hlast : lastB ops = true)
  (hsteps : StepsM P ops R X Post S h cs a0 w0 0 (ops.toList.take m)) (hpost : ∀ vs W o, ops[m]? = some o → Post (vs h) W → (∀ i, i < m → constAt cs i = true → R i (vs i) W) → o.wp P (putAll vs 0 (ops.toList.take m) a0) W (fun a W' => Q .normal a W') (fun _ _ _ => False))
  (hwant : ∀ vs W o, ops[m]? = some o → Post (vs h) W → (∀ i, i < m → constAt cs i = true → R i (vs i) W) → Region.wanted o (yielded ops (putAll vs 0 (ops.toList.take m) a0).tmps) = true) :
  ∀ (fuel : Nat) (listed : Array Bool) (a : Act) (W : World) (vs : Nat → Value), RelInvM ops R X Post h cs a0 w0 listed a W vs → listed.getD m true = false → ((List.range ops.size).filter fun i => !listed.getD i true).length ≤ fuel → wpAny P .any ops Q fuel listed a W := by
 intro fuel
 induction fuel with
 | zero =>
  intro listed a W vs I hun hlen
  have : m ∈ (List.range ops.size).filter fun i => !listed.getD i true := List.mem_filter.2 ⟨List.mem_range.2 (by omega), by simp only [hun, Bool.not_false]⟩
  have hnil : ((List.range ops.size).filter fun i => !listed.getD i true) = [] := List.eq_nil_of_length_eq_zero (by omega)
  rw [hnil] at this
  cases this
 | succ fuel ih =>
  intro listed a W vs I hunm hlen
  refine ⟨fun h => ?_, fun i hi => ?_⟩
  ·have := listed_all hp I.len h m (by omega)
   rw [hunm] at this
   cases this
  obtain ⟨hun, o, ho, hall⟩ := mem_ready.1 hi
  have hilt : i < ops.size := (Array.getElem?_eq_some_iff.1 ho).1
  have hpre : ∀ j, waits ops i j = true → listed.getD j true = true ∧ j < ops.size := by
   intro j hj
   obtain ⟨e, he, hb, rfl⟩ := waits_of ho hj
   have h1 := hall e he hb
   have hlt := (plain_at hp hilt).2 o ho e he hb
   have hjs : e.on < ops.size := by omega
   refine ⟨?_, hjs⟩
   rw [Array.getD_eq_getD_getElem?] at h1 ⊢
   rw [Array.getElem?_eq_getElem (by rw [I.len]; exact hjs)] at h1 ⊢
   exact h1
  by_cases him : i = m
  ·subst him
   have hothers : ∀ j, j < i → listed.getD j true = true := by
    intro j hj
    have hc := List.all_eq_true.1 hlast j (List.mem_range.2 (by omega))
    have hmem : j ∈ closure ops ops.size [ops.size - 1] := by simpa using hc
    have := closure_listed (listed := listed) (ops := ops) (fun x hx hxs y hy => by
     rcases hx with hx | hx
     ·have : x = i := by omega
      subst this
      exact hpre y hy
     ·exact I.closed x hx hxs y hy) ops.size [ops.size - 1] (fun x hx => by
     simp at hx
     subst hx
     exact ⟨by omega, .inl rfl⟩) j hmem
    rcases this.2 with h | h
    ·omega
    exact h
   have ha : a = putAll vs 0 (ops.toList.take i) a0 := by
    refine act_ext (by rw [putAll_size, I.size]) (by rw [putAll_defers, I.defers]) fun k hk => ?_
    by_cases hw : ∃ j, j < i ∧ dstOf ops j = some k
    ·obtain ⟨j, hj, hd⟩ := hw
     have hjs : j < ops.size := by omega
     rw [I.vals j (hothers j hj) hjs k hd]
     have hoj : (ops.toList.take i)[j]? = some ops[j] := by rw [List.getElem?_take, if_pos hj]; simp [Array.getElem?_eq_getElem hjs]
     have := putAll_some vs (ops.toList.take i) k 0 a0 j ops[j] hoj (by rw [← dst_bind (Array.getElem?_eq_getElem hjs)]; exact hd) (by rw [← I.size]; exact hk) (fun x y hx hne => by
      rw [List.getElem?_take] at hx
      split at hx
      ·have hx' : ops[x]? = some y := by simpa using hx
       rw [← dst_bind hx']
       exact ((plain_at hp hjs).1 k hd).2 x (Array.getElem?_eq_some_iff.1 hx').1 hne
      cases hx)
     rw [this, Nat.zero_add]
    rw [I.rest k (fun j hl hj hd => by
     rcases Nat.lt_or_ge j i with h | h
     ·exact hw ⟨j, h, hd⟩
     have : j = i := by omega
     subst this
     rw [hun] at hl
     cases hl)]
    refine (putAll_none vs (ops.toList.take i) k 0 a0 fun x hx hd => ?_).symm
    obtain ⟨j, hj⟩ := List.getElem?_of_mem hx
    rw [List.getElem?_take] at hj
    split at hj
    ·rename_i hji
     have hj' : ops[j]? = some x := by simpa using hj
     exact hw ⟨j, hji, by rw [dst_bind hj']; exact hd⟩
    cases hj
   obtain ⟨hPo, hRo⟩ := I.post (hothers h hhm)
   have hRR : ∀ j, j < i → constAt cs j = true → R j (vs j) W := fun j hj hc => hRo j (hothers j hj) (by omega) hc
   have key := hpost vs W o ho hPo hRR
   have hwn := hwant vs W o ho hPo hRR
   rw [← ha] at key hwn
   have next : ∀ a' W', Q .normal a' W' → wpAny P .any ops Q fuel (listed.setIfInBounds i true) a' W' := by
    intro a' W' hq
    refine wpAny_all hp (by rw [Array.size_setIfInBounds, I.len]) (fun j hj => ?_) hq fuel
    by_cases hji : j = i
    ·subst hji
     rw [Array.getD_eq_getD_getElem?, Array.getElem?_setIfInBounds_self_of_lt (by rw [I.len]; exact hj)]
     rfl
    rw [Array.getD_eq_getD_getElem?, Array.getElem?_setIfInBounds_ne (fun e => hji e.symm), ← Array.getD_eq_getD_getElem?]
    exact hothers j (by omega)
   have key2 := Oper.wp_mono next key
   unfold wpOp
   rw [ho]
   simp only
   rw [if_pos hwn]
   exact .inl (upon_calm _ key2)
  have hilm : i < m := by omega
  have hst := stepsM_at (ops.toList.take m) 0 hsteps i o (by rw [List.getElem?_take, if_pos hilm]; simpa using ho)
  rw [Nat.zero_add] at hst
  have hfresh : ∀ k, freshFor ops i k = true → a.eval (.tmp k) = a0.eval (.tmp k) := fun k hk => I.rest k fun j hlj hj hd => by
    have := List.all_eq_true.1 hk j (List.mem_range.2 hj)
    simp only [hd, bne_self_eq_false, Bool.false_or, Bool.or_eq_true, beq_iff_eq] at this
    rcases this with h | h
    ·have := (I.closed j hlj hj i h).1
     rw [hun] at this
     cases this
    subst h
    rw [hun] at hlj
    cases hlj
  have hils : i < listed.size := by rw [I.len]; exact hilt
  have hget : ∀ j, (listed.setIfInBounds i true).getD j true = if j = i then true else listed.getD j true := by
   intro j
   by_cases hj : j = i
   ·subst hj
    rw [if_pos rfl, Array.getD_eq_getD_getElem?, Array.getElem?_setIfInBounds_self_of_lt hils]
    rfl
   rw [if_neg hj, Array.getD_eq_getD_getElem?, Array.getD_eq_getD_getElem?, Array.getElem?_setIfInBounds_ne (fun e => hj e.symm)]
  -- the invariant behind operation i, whatever it did
  have next : ∀ v W', ((listed.setIfInBounds i true).getD h true = false → X w0 W' ∧ R i v W' ∧ ∀ j, listed.getD j true = true → j < ops.size → R j (vs j) W') →
    ((listed.setIfInBounds i true).getD h true = true → Post (if h = i then v else vs h) W' ∧ (constAt cs i = true → R i v W') ∧ ∀ j, listed.getD j true = true → j < ops.size → constAt cs j = true → R j (vs j) W') →
    wpAny P .any ops Q fuel (listed.setIfInBounds i true) (a.put o.dst v) W' := by
   intro v W' h1 h2
   have hput : ∀ k, o.dst ≠ some k → (a.put o.dst v).eval (.tmp k) = a.eval (.tmp k) := fun k hk => Act.eval_put fun d hd e => by injection e with e; exact hk (by rw [hd, e])
   refine ih _ _ _ (fun j => if j = i then v else vs j) ?_ (by rw [hget, if_neg (by omega)]; exact hunm) ?_
   ·refine ⟨fun hh => ?_, fun hh => ?_, ?_, ?_, by rw [Array.size_setIfInBounds, I.len], ?_, ?_, ?_⟩
    ·obtain ⟨k1, k2, k3⟩ := h1 hh
     refine ⟨k1, fun j hj hjs => ?_⟩
     rw [hget] at hj
     by_cases hji : j = i
     ·subst hji; simp only [if_true]; exact k2
     rw [if_neg hji] at hj; simp only [if_neg hji]; exact k3 j hj hjs
    ·obtain ⟨k1, k2, k3⟩ := h2 hh
     refine ⟨k1, fun j hj hjs hc => ?_⟩
     rw [hget] at hj
     by_cases hji : j = i
     ·subst hji; simp only [if_true]; exact k2 hc
     rw [if_neg hji] at hj; simp only [if_neg hji]; exact k3 j hj hjs hc
    ·rw [← I.size]; cases h : o.dst <;> simp [Act.put]
    ·rw [← I.defers]; cases h : o.dst <;> simp [Act.put]
    ·intro j hj hjs d hd
     rw [hget] at hj
     by_cases hji : j = i
     ·subst hji
      simp only [if_true]
      rw [dst_bind ho] at hd
      have hdl : d < a.tmps.size := by rw [I.size]; exact ((plain_at hp hjs).1 d (by rw [dst_bind ho]; exact hd)).1
      simp [Act.put, hd, Act.eval, hdl]
     rw [if_neg hji] at hj
     simp only [if_neg hji]
     rw [hput d (fun e => ((plain_at hp hjs).1 d hd).2 i hilt (fun e => hji e.symm) (by rw [dst_bind ho]; exact e))]
     exact I.vals j hj hjs d hd
    ·intro k hk
     have hki : o.dst ≠ some k := by
      have := hk i (by rw [hget, if_pos rfl]) hilt
      rwa [dst_bind ho] at this
     rw [hput k hki]
     exact I.rest k fun j hj hjs => hk j (by rw [hget]; split <;> first | rfl | exact hj) hjs
    intro j hj hjs k hk
    have hkk : listed.getD k true = true ∧ k < ops.size := by
     rw [hget] at hj
     by_cases hji : j = i
     ·subst hji
      exact hpre k hk
     rw [if_neg hji] at hj
     exact I.closed j hj hjs k hk
    exact ⟨by rw [hget]; split <;> first | rfl | exact hkk.1, hkk.2⟩
   have hsub : ((List.range ops.size).filter fun j => !(listed.setIfInBounds i true).getD j true) = (((List.range ops.size).filter fun j => !listed.getD j true).filter fun j => !decide (j = i)) := by
    rw [List.filter_filter]
    apply List.filter_congr
    intro j _
    rw [hget]
    by_cases hji : j = i
    ·simp [hji]
    simp [hji]
   rw [hsub]
   have hmem : i ∈ (List.range ops.size).filter fun j => !listed.getD j true := List.mem_filter.2 ⟨List.mem_range.2 hilt, by simp only [hun, Bool.not_false]⟩
   have := List.length_filter_lt_length_iff_exists (p := fun j => !decide (j = i)) |>.2 ⟨i, hmem, by simp⟩
   omega
  have go : (if Region.wanted o (yielded ops a.tmps) = true then o.wp P a W (wpAny P .any ops Q fuel (listed.setIfInBounds i true)) (fun _ _ _ => False) else wpAny P .any ops Q fuel (listed.setIfInBounds i true) (a.put o.dst undef) W) → wpOp P ops Q i (wpAny P .any ops Q fuel (listed.setIfInBounds i true)) a W := by
   intro key2
   unfold wpOp
   rw [ho]
   simp only
   by_cases hw : Region.wanted o (yielded ops a.tmps) = true
   ·rw [if_pos hw] at key2 ⊢
    exact .inl (upon_calm _ key2)
   rw [if_neg hw] at key2 ⊢
   exact key2
  refine go ?_
  unfold StepM at hst
  by_cases hih : (i == h) = true
  ·rw [if_pos hih] at hst
   have hih' : i = h := by simpa using hih
   subst hih'
   obtain ⟨hX, hRs⟩ := I.pre hun
   refine hst a vs W hX (fun j hj => hRs j (hpre j hj).1 (hpre j hj).2) (fun j d hj hd => I.vals j (hpre j hj).1 (hpre j hj).2 d hd) hfresh _ fun v W' hPo => ?_
   refine next v W' (fun hh => ?_) (fun _ => ⟨by rw [if_pos rfl]; exact hPo, fun _ => hPR v W' hPo, fun j hj hjs hc => hC j hc _ _ _ (hRs j hj hjs)⟩)
   rw [hget, if_pos rfl] at hh
   cases hh
  rw [if_neg hih] at hst
  have hih' : i ≠ h := by simpa using hih
  have hgh : (listed.setIfInBounds i true).getD h true = listed.getD h true := by rw [hget, if_neg (fun e => hih' e.symm)]
  by_cases hanc : ancB ops h i = true
  ·rw [if_pos hanc] at hst
   have hnh : listed.getD h true = false := by
    rcases Bool.eq_false_or_eq_true (listed.getD h true) with ht | hf
    ·exfalso
     have hmem : i ∈ closure ops ops.size [h] := by simpa [ancB] using hanc
     have := closure_in (listed := listed) (fun i hi his j hj => I.closed i hi his j hj) ops.size [h] (fun x hx => by simp at hx; subst hx; exact ⟨by omega, ht⟩) i hmem
     rw [hun] at this
     exact Bool.false_ne_true this.2
    exact hf
   obtain ⟨hX, hRs⟩ := I.pre hnh
   refine hst a vs W hX (fun j hj => hRs j (hpre j hj).1 (hpre j hj).2) (fun j d hj hd => I.vals j (hpre j hj).1 (hpre j hj).2 d hd) hfresh _ fun v W' hv hx => ?_
   refine next v W' (fun hh => ⟨hXt _ _ _ hX hx, hv, fun j hj hjs => hR _ _ _ _ (hRs j hj hjs) hx⟩) (fun hh => ?_)
   rw [hgh, hnh] at hh
   cases hh
  rw [if_neg hanc] at hst
  have hmi := List.all_eq_true.1 hmid i (List.mem_range.2 hilm)
  have hanc' : ancB ops h i = false := by simpa using hanc
  have hih2 : (i == h) = false := by simpa using hih
  rw [hih2, hanc', Bool.false_or, Bool.false_or] at hmi
  rcases Bool.eq_false_or_eq_true (listed.getD h true) with ht | hf
  ·obtain ⟨hPo, hRo⟩ := I.post ht
   refine hst a vs W (hPS _ _ hPo) (fun j hj hc => hRo j (hpre j hj).1 (hpre j hj).2 hc) (fun j d hj hd => I.vals j (hpre j hj).1 (hpre j hj).2 d hd) hfresh _ fun v hv => ?_
   refine next v W (fun hh => ?_) (fun _ => ⟨by rw [if_neg (fun e => hih' e.symm)]; exact hPo, fun _ => hv, hRo⟩)
   rw [hgh, ht] at hh
   cases hh
  obtain ⟨hX, hRs⟩ := I.pre hf
  refine hst a vs W (hXS _ hX) (fun j hj _ => hRs j (hpre j hj).1 (hpre j hj).2) (fun j d hj hd => I.vals j (hpre j hj).1 (hpre j hj).2 d hd) hfresh _ fun v hv => ?_
  refine next v W (fun _ => ⟨hX, hv, hRs⟩) (fun hh => ?_)
  rw [hgh, hf] at hh
  cases hh

/-- the law -/
theorem wp_region_mid {id : Nat} {Q : Exit → Act → World → Prop} {w : World} (h m : Nat) (cs : List Bool) (S : World → Prop) (Post : Value → World → Prop) (X : World → World → Prop) (hXr : ∀ A, X A A) (hXt : ∀ A B C, X A B → X B C → X A C) (R : Nat → Value → World → Prop) (hR : ∀ i v A B, R i v A → X A B → R i v B)
  (hC : ∀ i, constAt cs i = true → ∀ v A B, R i v A → R i v B) (hPR : ∀ v W, Post v W → R h v W) (hXS : ∀ W, X w.drew W → S W) (hPS : ∀ v W, Post v W → S W)
  (hf : P.follows .mixedOrders = true) (hp : plainB ops a0.tmps.size = true) (hm : ops.size = m + 1) (hhm : h < m) (hmid : midB ops h m cs = true) (hlast : lastB ops = true) (ol : Oper) (hol : ops[m]? = some ol) (hg : ol.guard = none) (hsteps : StepsMB P ops R X Post S h cs a0 w.drew 0 ops.toList)
  (hpost : ∀ vs W, Post (vs h) W → (∀ i, i < m → constAt cs i = true → R i (vs i) W) → ol.wp P (putAll vs 0 (ops.toList.take m) a0) W (fun a W' => Q .normal a W') (fun _ _ _ => False)) : (Code.region id ops true).wp P Q a0 w := by
 refine wp_region_any hf (wp_region_mid_aux m hm hhm hXt hR hC hPR hXS hPS hmid hp hlast (by have := stepsM_of ops.toList 0 hsteps; rwa [show ops.toList.length - 1 = m by simp [hm]] at this) (fun vs W o ho hx hr => ?_) (fun vs W o ho hx hr => ?_) ops.size (Array.replicate ops.size false) a0 w.drew (fun _ => undef) ?_ ?_ ?_)
 ·rw [hol] at ho
  injection ho with ho
  subst ho
  exact hpost vs W hx hr
 ·rw [hol] at ho
  injection ho with ho
  subst ho
  exact wanted_none hg
 ·have hno : ∀ j, (Array.replicate ops.size false).getD j true = true → j < ops.size → False := by
   intro j h hj
   rw [Array.getD_eq_getD_getElem?, Array.getElem?_replicate, if_pos hj] at h
   cases h
  exact ⟨fun _ => ⟨hXr _, fun j h hj => (hno j h hj).elim⟩, fun hh => (hno h hh (by omega)).elim, rfl, rfl, by simp, fun j h hj => (hno j h hj).elim, fun k _ => rfl, fun j h hj => (hno j h hj).elim⟩
 ·rw [Array.getD_eq_getD_getElem?, Array.getElem?_replicate, if_pos (by omega)]
  rfl
 refine Nat.le_trans (List.length_filter_le _ _) (by simp)
end
/-- which predicates hang on no world -/
inductive ConstL : List Bool → List (Value → World → Prop) → Prop
 | nil : ConstL [] []
 | skip {cs : List Bool} {r : Value → World → Prop} {l : List (Value → World → Prop)} (t : ConstL cs l) : ConstL (false :: cs) (r :: l)
 | cons {cs : List Bool} {r : Value → World → Prop} {l : List (Value → World → Prop)} (h : ∀ v A B, r v A → r v B) (t : ConstL cs l) : ConstL (true :: cs) (r :: l)
theorem ConstL.at_ {cs : List Bool} {l : List (Value → World → Prop)} (h : ConstL cs l) : ∀ i, constAt cs i = true → ∀ v A B, relAt l i v A → relAt l i v B := by
 induction h with
 | nil => intro i hi; simp [constAt] at hi
 | skip t ih =>
  intro i hi v A B hr
  cases i with
  | zero => simp [constAt] at hi
  | succ i => exact ih i hi v A B hr
 | cons h t ih =>
  intro i hi v A B hr
  cases i with
  | zero => exact h v A B hr
  | succ i => exact ih i hi v A B hr
end Go.Proofs.Ytdmgomknamdcfaa

/- The table of layer 9 in memory: nodes, free places, and what a change of it leaves as it was. No condition. -/
namespace Go.Proofs.Ytdmgomknamdcfaa
open Go.RowKit
set_option linter.unusedVariables false
set_option maxRecDepth 20000
set_option linter.unusedSimpArgs false

/-! what is as it was -/
/-- everything but the blocks S is as it was -/
structure Kept (S : Nat → Prop) (w w' : World) : Prop where
 os : w'.os = w.os
 tape : w'.tape = w.tape
 output : w'.output = w.output
 size : w.heap.size ≤ w'.heap.size
 block : ∀ k, k < w.heap.size → ¬ S k → w'.heap[k]? = w.heap[k]?
theorem Kept.refl (S : Nat → Prop) (w : World) : Kept S w w := ⟨rfl, rfl, rfl, Nat.le_refl _, fun _ _ _ => rfl⟩
theorem Kept.of_below {S : Nat → Prop} {w w' : World} (h : Below w.heap.size w w') : Kept S w w' := ⟨h.os, h.tape, h.output, h.size, fun k hk _ => h.block k hk⟩
theorem Kept.of_grown {S : Nat → Prop} {w w' : World} {row : Option Nat} (h : w.grownBy w' row) (hr : ∀ k, row = some k → S k) : Kept S w w' :=
 ⟨h.os, h.tape, h.output, h.size, fun k hk hs => h.block k hk (fun e => hs (hr k e.symm))⟩
/-- what a second step may change was new, or might be changed by the first -/
theorem Kept.trans {S T : Nat → Prop} {a b c : World} (h : Kept S a b) (k : Kept T b c) (hT : ∀ x, T x → x < a.heap.size → S x) : Kept S a c :=
 ⟨k.os.trans h.os, k.tape.trans h.tape, k.output.trans h.output, Nat.le_trans h.size k.size, fun x hx hs => (k.block x (Nat.lt_of_lt_of_le hx h.size) (fun ht => hs (hT x ht hx))).trans (h.block x hx hs)⟩
theorem Kept.then_below {S : Nat → Prop} {a b c : World} (h : Kept S a b) (k : Below b.heap.size b c) : Kept S a c := h.trans (Kept.of_below (S := fun _ => False) k) (fun _ h => h.elim)
theorem Kept.below {S : Nat → Prop} {a b : World} {B : Nat} (h : Kept S a b) (hB : B ≤ a.heap.size) (hS : ∀ x, S x → B ≤ x) : Below B a b :=
 ⟨h.os, h.tape, h.output, h.size, fun k hk => h.block k (Nat.lt_of_lt_of_le hk hB) (fun e => by have := hS k e; omega)⟩
theorem Kept.blk {S : Nat → Prop} {a b : World} {g : Nat} {t : TypeId} {cs : List Value} (h : Kept S a b) (hb : Blk a g t cs) (hg : ¬ S g) : Blk b g t cs := (h.block g hb.lt hg).trans hb
theorem Kept.own {S : Nat → Prop} {a b : World} {base : Nat} {e : TypeId} {sz : Nat} {A : Option Addr} {n c : Nat} {xs : List Value} (h : Kept S a b) (ho : Own a base e sz A n c xs) (hg : ∀ g, Go.Proofs.Ytdmgomknamdcfaa.blk A c = some g → ¬ S g) : Own b base e sz A n c xs := by
 refine ⟨ho.len, ho.le, ho.cap, ?_⟩
 rcases ho.own with h0 | ⟨g, cur, rfl, hb, hh, hs, ht⟩
 ·exact .inl h0
 by_cases hc : c = 0
 ·have hn : n = 0 := by have := ho.le; omega
  exact .inl ⟨hn, hc⟩
 exact .inr ⟨g, cur, rfl, hb, (h.block g (Array.getElem?_eq_some_iff.1 hh).1 (hg g (by simp [Go.Proofs.Ytdmgomknamdcfaa.blk, hc]))).trans hh, hs, ht⟩
/-- a row whose block is none of those that may change -/
theorem Kept.row {S : Nat → Prop} {a b : World} {sz n : Nat} {A : Option Addr} {xs : List Value} (h : Kept S a b) (hr : Row a a.heap.size sz A n xs) (hA : 0 < n → ∀ x, A = some x → ¬ S x.block) : Row b b.heap.size sz A n xs := by
 refine ⟨hr.1, fun hn => ?_⟩
 obtain ⟨g, o, rfl, hg, hc⟩ := hr.2 hn
 refine ⟨g, o, rfl, Nat.lt_of_lt_of_le hg h.size, fun j u hu => ?_⟩
 rw [← hc j u hu]
 show b.cell? _ = a.cell? _
 unfold World.cell?
 rw [h.block g hg (hA hn _ rfl)]

/-! nodes -/
structure Nd where
 p : Px
 is : Bool
 v : Int
 k0 : Nat
 k1 : Nat
def Nd.cells (n : Nd) : List Value := n.p.cells ++ [.bool n.is, .int .i64 n.v, .int .i64 (n.k0 : Int), .int .i64 (n.k1 : Int)]
def Nd.zero : Nd := ⟨Px.zero, false, 0, 0, 0⟩
/-- the kid of a side -/
def Nd.kid (n : Nd) (s : Nat) : Nat := if s = 0 then n.k0 else n.k1
def Nd.setKid (n : Nd) (s : Nat) (k : Nat) : Nd := if s = 0 then { n with k0 := k } else { n with k1 := k }
def nds (N : List Nd) : List Value := N.flatMap Nd.cells
theorem Nd.cells_length (n : Nd) (h : n.p.addr.length = 16) : n.cells.length = 22 := by simp [Nd.cells, Px.cells_length n.p h]
theorem nds_append (x y : List Nd) : nds (x ++ y) = nds x ++ nds y := by simp [nds]
theorem nds_cell (L : List Nd) (h : ∀ x ∈ L, x.p.fit) (i : Nat) (x : Nd) (hi : L[i]? = some x) (j : Nat) (hj : j < 22) : (nds L)[i * 22 + j]? = x.cells[j]? := by
 induction L generalizing i with
 | nil => simp at hi
 | cons y L ih =>
  have hy := y.cells_length (h y (by simp)).addr
  show (y.cells ++ nds L)[i * 22 + j]? = _
  cases i with
  | zero =>
   simp at hi
   subst hi
   rw [Nat.zero_mul, Nat.zero_add, List.getElem?_append_left (by omega)]
  | succ i =>
   rw [List.getElem?_append_right (by omega), hy, show (i + 1) * 22 + j - 22 = i * 22 + j by omega]
   exact ih (fun z hz => h z (by simp [hz])) i (by simpa using hi)
theorem nds_put (L : List Nd) (h : ∀ x ∈ L, x.p.fit) (i : Nat) (hi : i < L.length) (y : Nd) : (nds L).take (i * 22) ++ y.cells ++ (nds L).drop ((i + 1) * 22) = nds (L.set i y) := by
 induction L generalizing i with
 | nil => simp at hi
 | cons x L ih =>
  have hx := x.cells_length (h x (by simp)).addr
  show (x.cells ++ nds L).take (i * 22) ++ y.cells ++ (x.cells ++ nds L).drop ((i + 1) * 22) = _
  cases i with
  | zero =>
   rw [Nat.zero_mul, List.take_zero, List.nil_append, List.drop_append_of_le_length (by omega), List.drop_of_length_le (by omega), List.nil_append]
   rfl
  | succ i =>
   have := ih (fun z hz => h z (by simp [hz])) i (by simpa using hi)
   rw [List.take_append, List.drop_append, hx, List.take_of_length_le (by omega), List.drop_of_length_le (by omega), show (i + 1) * 22 - 22 = i * 22 by omega, show (i + 1 + 1) * 22 - 22 = (i + 1) * 22 by omega, List.nil_append]
   show _ = x.cells ++ nds (L.set i y)
   rw [← this, List.append_assoc, List.append_assoc, List.append_assoc]
theorem nds_set (L : List Nd) (h : ∀ x ∈ L, x.p.fit) (i : Nat) (x y : Nd) (hi : L[i]? = some x) (j : Nat) (hj : j < 22) (u : Value) (hy : x.cells.set j u = y.cells) : (nds L).set (i * 22 + j) u = nds (L.set i y) := by
 induction L generalizing i with
 | nil => simp at hi
 | cons z L ih =>
  have hz := z.cells_length (h z (by simp)).addr
  show (z.cells ++ nds L).set (i * 22 + j) u = _
  cases i with
  | zero =>
   simp at hi
   subst hi
   rw [Nat.zero_mul, Nat.zero_add, List.set_append_left _ _ (by omega), hy]
   rfl
  | succ i =>
   rw [List.set_append_right _ _ (by omega), hz, show (i + 1) * 22 + j - 22 = i * 22 + j by omega, ih (fun w hw => h w (by simp [hw])) i (by simpa using hi)]
   rfl
theorem px18 (p : Px) (h : p.addr.length = 16) (r : List Value) (j : Nat) (u : Value) : (p.cells ++ r).set (18 + j) u = p.cells ++ r.set j u := by
 rw [List.set_append_right _ _ (by rw [p.cells_length h]; omega), p.cells_length h, show 18 + j - 18 = j by omega]
theorem px18g (p : Px) (h : p.addr.length = 16) (r : List Value) (j : Nat) : (p.cells ++ r)[18 + j]? = r[j]? := by
 rw [List.getElem?_append_right (by rw [p.cells_length h]; omega), p.cells_length h, show 18 + j - 18 = j by omega]
theorem Nd.set_is (n : Nd) (h : n.p.addr.length = 16) (b : Bool) : n.cells.set 18 (.bool b) = ({ n with is := b } : Nd).cells := px18 n.p h _ 0 _
theorem Nd.set_v (n : Nd) (h : n.p.addr.length = 16) (z : Int) : n.cells.set 19 (.int .i64 z) = ({ n with v := z } : Nd).cells := px18 n.p h _ 1 _
theorem Nd.set_k0 (n : Nd) (h : n.p.addr.length = 16) (z : Nat) : n.cells.set 20 (.int .i64 (z : Int)) = ({ n with k0 := z } : Nd).cells := px18 n.p h _ 2 _
theorem Nd.set_k1 (n : Nd) (h : n.p.addr.length = 16) (z : Nat) : n.cells.set 21 (.int .i64 (z : Int)) = ({ n with k1 := z } : Nd).cells := px18 n.p h _ 3 _
theorem Nd.one (n : Nd) : ∀ u ∈ n.cells, u.oneCell' = true := by
 intro u hu
 unfold Nd.cells at hu
 rcases List.mem_append.1 hu with h | h
 ·exact onePx _ u h
 simp only [List.mem_cons, List.not_mem_nil, or_false] at h
 rcases h with rfl | rfl | rfl | rfl <;> rfl
theorem Nd.px_range {w : World} {b o : Nat} {n : Nd} (h : w.rangeAt b o n.cells) : w.rangeAt b o n.p.cells := fun j v hv => h j v (by
 unfold Nd.cells
 rw [List.getElem?_append_left (List.getElem?_eq_some_iff.1 hv).1]
 exact hv)
theorem infoNd : (Try.prog.info? 98).map (fun i => (i.zero, i.size, i.bytes)) = some (some (.agg Nd.zero.cells.toArray), 22, 64) := by kernel_rfl
theorem sizeNd (n : Nd) (h : n.p.addr.length = 16) : (Try.prog.info? 98).map (·.size) = some n.cells.length := by rw [n.cells_length h]; kernel_rfl
theorem zeroNd (w : World) : (zeroValue 98).run Try.prog w = .ok (.agg Nd.zero.cells.toArray) w := by kernel_rfl

/-! the table -/
structure Tb where
 six : Bool
 room : Int
 count : Int
 N : List Nd
 F : List Nat
 root : Nat
def ints (F : List Nat) : List Value := F.map fun (k : Nat) => Value.int .i64 (k : Int)
def tbC (t : Tb) (A : Option Addr) (c : Nat) (Af : Option Addr) (cf : Nat) : List Value :=
 [.bool t.six, .int .i64 t.room, .int .i64 t.count, .slice A t.N.length c, .slice Af t.F.length cf, .int .i64 (t.root : Int)]
/-- the table stands at block g, its nodes at A, its free places at Af -/
structure Tab (w : World) (g : Nat) (t : Tb) (A : Option Addr) (c : Nat) (Af : Option Addr) (cf : Nat) : Prop where
 blk : Blk w g 93 (tbC t A c Af cf)
 nodes : Own w 0 98 22 A t.N.length c (nds t.N)
 free : Own w 0 3 1 Af t.F.length cf (ints t.F)
 fit : ∀ x ∈ t.N, x.p.fit
 ng : ∀ b, Go.Proofs.Ytdmgomknamdcfaa.blk A c = some b → b ≠ g
 fg : ∀ b, Go.Proofs.Ytdmgomknamdcfaa.blk Af cf = some b → b ≠ g
 nf : ∀ b, Go.Proofs.Ytdmgomknamdcfaa.blk A c = some b → Go.Proofs.Ytdmgomknamdcfaa.blk Af cf ≠ some b
/-- its blocks -/
def own3 (g : Nat) (A : Option Addr) (c : Nat) (Af : Option Addr) (cf : Nat) (b : Nat) : Prop := b = g ∨ Go.Proofs.Ytdmgomknamdcfaa.blk A c = some b ∨ Go.Proofs.Ytdmgomknamdcfaa.blk Af cf = some b
section
variable {w w' : World} {g : Nat} {t : Tb} {A Af : Option Addr} {c cf : Nat}
theorem Tab.on (h : Tab w g t A c Af cf) (hb : Below w.heap.size w w') : Tab w' g t A c Af cf := ⟨h.blk.on hb, h.nodes.below hb, h.free.below hb, h.fit, h.ng, h.fg, h.nf⟩
theorem Tab.kept {S : Nat → Prop} (h : Tab w g t A c Af cf) (hk : Kept S w w') (hS : ∀ b, own3 g A c Af cf b → ¬ S b) : Tab w' g t A c Af cf :=
 ⟨hk.blk h.blk (hS g (.inl rfl)), hk.own h.nodes (fun b hb => hS b (.inr (.inl hb))), hk.own h.free (fun b hb => hS b (.inr (.inr hb))), h.fit, h.ng, h.fg, h.nf⟩
theorem Tab.lt (h : Tab w g t A c Af cf) : ∀ b, own3 g A c Af cf b → b < w.heap.size := by
 rintro b (rfl | hb | hb)
 ·exact h.blk.lt
 ·exact (h.nodes.lt b hb).2
 exact (h.free.lt b hb).2
/-- where a node lies -/
theorem Tab.node (h : Tab w g t A c Af cf) {k : Nat} {x : Nd} (hx : t.N[k]? = some x) : ∃ b, A = some ⟨b, 0, none⟩ ∧ Go.Proofs.Ytdmgomknamdcfaa.blk A c = some b ∧ b < w.heap.size ∧ b ≠ g ∧ w.rangeAt b (k * 22) x.cells ∧ (∀ j, w.frozen? ⟨b, j, none⟩ = false) ∧ k < t.N.length ∧ k < c := by
 have hk := (List.getElem?_eq_some_iff.1 hx).1
 obtain ⟨b, hA, _, hb, hc, hf⟩ := h.nodes.open_ (by omega)
 have hle := h.nodes.le
 have hblk : Go.Proofs.Ytdmgomknamdcfaa.blk A c = some b := by unfold Go.Proofs.Ytdmgomknamdcfaa.blk; rw [if_neg (by omega), hA]; rfl
 have hxl := x.cells_length (h.fit x (List.mem_of_getElem? hx)).addr
 refine ⟨b, hA, hblk, hb, h.ng b hblk, fun j v hv => hc _ v ?_, hf, hk, by omega⟩
 rw [nds_cell t.N h.fit k x hx j (by rw [← hxl]; exact (List.getElem?_eq_some_iff.1 hv).1)]
 exact hv
end
/-- a store into one element of a row of one's own -/
theorem own_setCells {base : Nat} {e : TypeId} {sz n c b : Nat} : ∀ (new : List Value) (o : Nat) (w : World) (xs : List Value), Own w base e sz (some ⟨b, 0, none⟩) n c xs → o + new.length ≤ n * sz → Own (w.setCells b o new) base e sz (some ⟨b, 0, none⟩) n c (xs.take o ++ new ++ xs.drop (o + new.length)) := by
 intro new
 induction new with
 | nil =>
  intro o w xs h ho
  have e : xs.take o ++ [] ++ xs.drop (o + 0) = xs := by simp
  simp only [List.length_nil]
  rw [e]
  exact h
 | cons v new ih =>
  intro o w xs h ho
  simp only [List.length_cons] at ho
  have hl := h.len
  have h1 := ih (o + 1) (w.setCell ⟨b, o, none⟩ v) (xs.set o v) (h.set (by omega) v) (by omega)
  have e : (xs.set o v).take (o + 1) ++ new ++ (xs.set o v).drop (o + 1 + new.length) = xs.take o ++ (v :: new) ++ xs.drop (o + (v :: new).length) := by
   have e1 : (xs.set o v).take (o + 1) = xs.take o ++ [v] := by
    rw [take_snoc (xs.set o v) o v (by rw [List.getElem?_set_self (by omega)]), List.take_set_of_le (Nat.le_refl _)]
   have e2 : (xs.set o v).drop (o + 1 + new.length) = xs.drop (o + (new.length + 1)) := by
    rw [List.drop_set_of_lt (by omega)]
    congr 1
    omega
   rw [e1, e2]
   simp
  rw [e] at h1
  exact h1
theorem Own.there {w : World} {base : Nat} {e : TypeId} {sz n c b : Nat} {xs : List Value} (h : Own w base e sz (some ⟨b, 0, none⟩) n c xs) (o k : Nat) (hk : o + k ≤ n * sz) (hn : 0 < n) : w.there b o k := by
 obtain ⟨g, hA, _, _, hc, hf⟩ := h.open_ hn
 injection hA with hA
 injection hA with hA
 subst hA
 intro j hj
 refine ⟨?_, hf _⟩
 have : o + j < xs.length := by rw [h.len]; omega
 rw [hc _ _ (List.getElem?_eq_getElem this)]
 rfl
section
variable {P : Program} {w : World} {ops : Array Oper} {rest : List Oper} {o : Oper} {a : Act} {Q : Exit → Act → World → Prop} {K : Act → World → Prop}
/-- a whole element laid into a row of one's own -/
theorem wp_store_own (ty : TypeId) (x y : Operand) (ho : o.op = .store ty x y) (b off : Nat) (new : List Value) (hx : a.eval x = .pointer (some ⟨b, off, none⟩)) (hy : a.eval y = .agg new.toArray)
  {base : Nat} {e : TypeId} {sz n c : Nat} {xs : List Value} (hown : Own w base e sz (some ⟨b, 0, none⟩) n c xs) (hi : (P.info? ty).map (·.size) = some new.length) (hoff : off + new.length ≤ n * sz) (hn : 0 < n) (h1 : ∀ v ∈ new, v.oneCell' = true)
  (h : ∀ w', Own w' base e sz (some ⟨b, 0, none⟩) n c (xs.take off ++ new ++ xs.drop (off + new.length)) → w.grownBy w' (some b) → w'.heap.size = w.heap.size → K (a.put o.dst undef) w') : o.wp P a w K Q := by
 have hrun := run_storeAt_mid (P := P) w b off ty new.toArray (by simpa using hown.there off new.length hoff hn) (by simpa using hi) (all_oneCell_toArray h1)
 unfold Oper.wp execOp
 simp only [ho, hx, hy, Sem.run_bind, Sem.run_pure, hrun, Result.andThen_ok]
 exact h _ (own_setCells new off w xs hown hoff) (grown_setCells b new off w w (grown_refl w _)) (size_setCells b new off w)
end
end Go.Proofs.Ytdmgomknamdcfaa


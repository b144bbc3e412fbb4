/- A region that draws its order, walked once, where what an operation leaves may hang on what one that it waits for left. And blocks that a region makes and fills itself. No condition. -/
import Derived.Test.YtbemhcihmlijaaaG04
namespace Go.Proofs.Ytbemhcihmlijaaa
open Go.RowKit
set_option linter.unusedVariables false
set_option maxRecDepth 20000

/-- what an operation leaves: said of its value alone, or of its value and that of operation k, for which it waits -/
inductive Pr
 | one (P : Value → World → Prop)
 | two (k : Nat) (P : Value → Value → World → Prop)
def Pr.at_ (p : Pr) (vs : Nat → Value) (v : Value) (W : World) : Prop := match p with | .one P => P v W | .two k P => P (vs k) v W
def prAt (ps : List Pr) (i : Nat) : Pr := ps.getD i (.one fun _ _ => True)
def locB (ops : Array Oper) (ps : List Pr) : Bool := (List.range ops.size).all fun i => match prAt ps i with | .one _ => true | .two k _ => waits ops i k
def Pr.mono (X : World → World → Prop) : Pr → Prop
 | .one P => ∀ v A B, P v A → X A B → P v B
 | .two _ P => ∀ u v A B, P u v A → X A B → P u v B
inductive MonoP (X : World → World → Prop) : List Pr → Prop
 | nil : MonoP X []
 | cons {r : Pr} {l : List Pr} (h : r.mono X) (t : MonoP X l) : MonoP X (r :: l)
theorem MonoP.at_ {X : World → World → Prop} {l : List Pr} (h : MonoP X l) : ∀ i, (prAt l i).mono X := by
 induction h with
 | nil => intro i; unfold prAt; simp [Pr.mono]
 | cons h t ih =>
  intro i
  cases i with
  | zero => exact h
  | succ i => exact ih i
theorem Pr.at_mono {X : World → World → Prop} {p : Pr} (h : p.mono X) {vs : Nat → Value} {v : Value} {A B : World} (hp : p.at_ vs v A) (hx : X A B) : p.at_ vs v B := by
 cases p with
 | one P => exact h _ _ _ hp hx
 | two k P => exact h _ _ _ _ hp hx

section
variable (P : Program) (ops : Array Oper) (ps : List Pr) (X : World → World → Prop) (a0 : Act) (w0 : World)
def RelStep2 (i : Nat) (o : Oper) : Prop :=
 ∀ (a : Act) (vs : Nat → Value) (W : World), X w0 W → (∀ j, waits ops i j = true → (prAt ps j).at_ vs (vs j) W) → (∀ j d, waits ops i j = true → dstOf ops j = some d → a.eval (.tmp d) = vs j) →
  (∀ k, freshFor ops i k = true → a.eval (.tmp k) = a0.eval (.tmp k)) → ∀ K : Act → World → Prop, (∀ v W', (prAt ps i).at_ vs v W' → X W W' → K (a.put o.dst v) W') →
  if Region.wanted o (yielded ops a.tmps) = true then o.wp P a W K (fun _ _ _ => False) else K (a.put o.dst undef) W
def RelSteps2 : Nat → List Oper → Prop
 | _, [] => True
 | i, o :: r => RelStep2 P ops ps X a0 w0 i o ∧ RelSteps2 (i + 1) r
end

section
variable {P : Program} {ops : Array Oper} {ps : List Pr} {X : World → World → Prop} {a0 : Act} {w0 : World}
theorem relSteps2_at (l : List Oper) : ∀ (k : Nat), RelSteps2 P ops ps X a0 w0 k l → ∀ (i : Nat) (o : Oper), l[i]? = some o → RelStep2 P ops ps X a0 w0 (k + i) o := by
 induction l with
 | nil => intro k _ i o h; simp at h
 | cons x l ih =>
  intro k h i o hi
  cases i with
  | zero => simp at hi; subst hi; exact h.1
  | succ i =>
   have := ih (k + 1) h.2 i o (by simpa using hi)
   rwa [show k + 1 + i = k + (i + 1) by omega] at this
/-- what holds between two operations -/
structure RelInv2 (ops : Array Oper) (ps : List Pr) (X : World → World → Prop) (a0 : Act) (w0 : World) (listed : Array Bool) (a : Act) (W : World) (vs : Nat → Value) : Prop where
 world : X w0 W
 size : a.tmps.size = a0.tmps.size
 defers : a.defers = a0.defers
 len : listed.size = ops.size
 vals : ∀ j, listed.getD j true = true → j < ops.size → (prAt ps j).at_ vs (vs j) W ∧ ∀ d, dstOf ops j = some d → a.eval (.tmp d) = vs j
 rest : ∀ k, (∀ j, listed.getD j true = true → j < ops.size → dstOf ops j ≠ some k) → a.eval (.tmp k) = a0.eval (.tmp k)
 closed : ∀ j, listed.getD j true = true → j < ops.size → ∀ i, waits ops j i = true → listed.getD i true = true ∧ i < ops.size

theorem locAt (h : locB ops ps = true) {j k : Nat} {Q : Value → Value → World → Prop} (hj : j < ops.size) (hp : prAt ps j = .two k Q) : waits ops j k = true := by
 have := List.all_eq_true.1 h j (List.mem_range.2 hj)
 rw [hp] at this
 exact this
theorem wp_region_rel2_aux {Q : Exit → Act → World → Prop} (hXt : ∀ A B C, X A B → X B C → X A C) (hR : ∀ i, (prAt ps i).mono X) (hloc : locB ops ps = true) (hp : plainB ops a0.tmps.size = true)
  (hsteps : RelSteps2 P ops ps X a0 w0 0 ops.toList) (hpost : ∀ vs W, X w0 W → (∀ i, i < ops.size → (prAt ps i).at_ vs (vs i) W) → Q .normal (putAll vs 0 ops.toList a0) W) :
  ∀ (fuel : Nat) (listed : Array Bool) (a : Act) (W : World) (vs : Nat → Value), RelInv2 ops ps X a0 w0 listed a W vs → ((List.range ops.size).filter fun i => !listed.getD i true).length ≤ fuel → wpAny P .any ops Q fuel listed a W := by
 have fin : ∀ (listed : Array Bool) (a : Act) (W : World) (vs : Nat → Value), RelInv2 ops ps X a0 w0 listed a W vs → (∀ i, i < ops.size → listed.getD i true = true) → Q .normal a W := by
  intro listed a W vs I hall
  have ha : a = putAll vs 0 ops.toList a0 := by
   refine act_ext (by rw [putAll_size, I.size]) (by rw [putAll_defers, I.defers]) fun k hk => ?_
   by_cases hw : ∃ j, j < ops.size ∧ dstOf ops j = some k
   ·obtain ⟨j, hj, hd⟩ := hw
    rw [(I.vals j (hall j hj) hj).2 k hd]
    have hoj : ops.toList[j]? = some ops[j] := by simp [Array.getElem?_eq_getElem hj]
    have := putAll_some vs ops.toList k 0 a0 j ops[j] hoj (by rw [← dst_bind (Array.getElem?_eq_getElem hj)]; exact hd) (by rw [← I.size]; exact hk) (fun i x hx hne => by
     have hx' : ops[i]? = some x := by simpa using hx
     rw [← dst_bind hx']
     exact ((plain_at hp hj).1 k hd).2 i (Array.getElem?_eq_some_iff.1 hx').1 hne)
    rw [this, Nat.zero_add]
   ·rw [I.rest k (fun j _ hj hd => hw ⟨j, hj, hd⟩)]
    refine (putAll_none vs ops.toList k 0 a0 fun o ho hd => ?_).symm
    obtain ⟨j, hj⟩ := List.getElem?_of_mem ho
    have hj' : ops[j]? = some o := by simpa using hj
    exact hw ⟨j, (Array.getElem?_eq_some_iff.1 hj').1, by rw [dst_bind hj']; exact hd⟩
  rw [ha]
  exact hpost vs W I.world fun i hi => (I.vals i (hall i hi) hi).1
 intro fuel
 induction fuel with
 | zero =>
  intro listed a W vs I hlen
  have hall : ∀ i, i < ops.size → listed.getD i true = true := by
   intro i hi
   rcases Bool.eq_false_or_eq_true (listed.getD i true) with ht | hf
   ·exact ht
   ·have : i ∈ (List.range ops.size).filter fun i => !listed.getD i true := List.mem_filter.2 ⟨List.mem_range.2 hi, by simp only [hf, Bool.not_false]⟩
    have hnil : ((List.range ops.size).filter fun i => !listed.getD i true) = [] := List.eq_nil_of_length_eq_zero (by omega)
    rw [hnil] at this
    cases this
  refine ⟨?_, fin listed a W vs I hall⟩
  apply List.eq_nil_iff_forall_not_mem.2
  intro i hi
  obtain ⟨h1, o, ho, _⟩ := mem_ready.1 hi
  rw [hall i (Array.getElem?_eq_some_iff.1 ho).1] at h1
  cases h1
 | succ fuel ih =>
  intro listed a W vs I hlen
  refine ⟨fun h => fin listed a W vs I (listed_all hp I.len h), fun i hi => ?_⟩
  obtain ⟨hun, o, ho, hall⟩ := mem_ready.1 hi
  have hilt : i < ops.size := (Array.getElem?_eq_some_iff.1 ho).1
  have hst := relSteps2_at ops.toList 0 hsteps i o (by simpa using ho)
  rw [Nat.zero_add] at hst
  have hpre : ∀ j, waits ops i j = true → listed.getD j true = true ∧ j < ops.size := by
   intro j hj
   obtain ⟨e, he, hb, rfl⟩ := waits_of ho hj
   have h1 := hall e he hb
   have hlt := (plain_at hp hilt).2 o ho e he hb
   have hjs : e.on < ops.size := by omega
   refine ⟨?_, hjs⟩
   rw [Array.getD_eq_getD_getElem?] at h1 ⊢
   rw [Array.getElem?_eq_getElem (by rw [I.len]; exact hjs)] at h1 ⊢
   exact h1
  have key := hst a vs W I.world (fun j hj => (I.vals j (hpre j hj).1 (hpre j hj).2).1) (fun j d hj hd => (I.vals j (hpre j hj).1 (hpre j hj).2).2 d hd)
   (fun k hk => I.rest k fun j hlj hj hd => by
    have := List.all_eq_true.1 hk j (List.mem_range.2 hj)
    simp only [hd, bne_self_eq_false, Bool.false_or, Bool.or_eq_true, beq_iff_eq] at this
    rcases this with h | h
    ·have := (I.closed j hlj hj i h).1
     rw [hun] at this
     cases this
    ·subst h
     rw [hun] at hlj
     cases hlj)
  have next : ∀ v W', (prAt ps i).at_ vs v W' → X W W' → wpAny P .any ops Q fuel (listed.setIfInBounds i true) (a.put o.dst v) W' := by
   intro v W' hv hx
   have hils : i < listed.size := by rw [I.len]; exact hilt
   have hget : ∀ j, (listed.setIfInBounds i true).getD j true = if j = i then true else listed.getD j true := by
    intro j
    by_cases hj : j = i
    ·subst hj
     rw [if_pos rfl, Array.getD_eq_getD_getElem?, Array.getElem?_setIfInBounds_self_of_lt hils]
     rfl
    ·rw [if_neg hj, Array.getD_eq_getD_getElem?, Array.getD_eq_getD_getElem?, Array.getElem?_setIfInBounds_ne (fun e => hj e.symm)]
   have hput : ∀ k, o.dst ≠ some k → (a.put o.dst v).eval (.tmp k) = a.eval (.tmp k) := fun k hk => Act.eval_put fun d hd e => by injection e with e; exact hk (by rw [hd, e])
   refine ih _ _ _ (fun j => if j = i then v else vs j) ?_ ?_
   ·refine ⟨hXt _ _ _ I.world hx, ?_, ?_, by rw [Array.size_setIfInBounds, I.len], ?_, ?_, ?_⟩
    ·rw [← I.size]; cases h : o.dst <;> simp [Act.put]
    ·rw [← I.defers]; cases h : o.dst <;> simp [Act.put]
    ·intro j hj hjs
     rw [hget] at hj
     by_cases hji : j = i
     ·subst hji
      simp only [if_true]
      refine ⟨?_, fun d hd => ?_⟩
      ·cases hpj : prAt ps j with
       | one Q => rw [hpj] at hv; exact hv
       | two k Q =>
        rw [hpj] at hv
        have hw := locAt hloc hjs hpj
        have hne : k ≠ j := by
         intro e
         subst e
         have := (hpre k hw).1
         rw [hun] at this
         cases this
        show Q (if k = j then v else vs k) v W'
        rw [if_neg hne]
        exact hv
      rw [dst_bind ho] at hd
      have hdl : d < a.tmps.size := by rw [I.size]; exact ((plain_at hp hjs).1 d (by rw [dst_bind ho]; exact hd)).1
      simp [Act.put, hd, Act.eval, hdl]
     ·rw [if_neg hji] at hj
      simp only [if_neg hji]
      obtain ⟨h1, h2⟩ := I.vals j hj hjs
      refine ⟨?_, fun d hd => ?_⟩
      ·have h1' := Pr.at_mono (hR j) h1 hx
       cases hpj : prAt ps j with
       | one Q => rw [hpj] at h1'; exact h1'
       | two k Q =>
        rw [hpj] at h1'
        have hw := locAt hloc hjs hpj
        have hne : k ≠ i := by
         intro e
         subst e
         have := (I.closed j hj hjs k hw).1
         rw [hun] at this
         cases this
        show Q (if k = i then v else vs k) (vs j) W'
        rw [if_neg hne]
        exact h1'
      rw [hput d (fun e => ((plain_at hp hjs).1 d hd).2 i hilt (fun e => hji e.symm) (by rw [dst_bind ho]; exact e))]
      exact h2 d hd
    ·intro k hk
     have hki : o.dst ≠ some k := by
      have := hk i (by rw [hget, if_pos rfl]) hilt
      rwa [dst_bind ho] at this
     rw [hput k hki]
     exact I.rest k fun j hj hjs => hk j (by rw [hget]; split <;> first | rfl | exact hj) hjs
    ·intro j hj hjs k hk
     have hkk : listed.getD k true = true ∧ k < ops.size := by
      rw [hget] at hj
      by_cases hji : j = i
      ·subst hji
       exact hpre k hk
      ·rw [if_neg hji] at hj
       exact I.closed j hj hjs k hk
     exact ⟨by rw [hget]; split <;> first | rfl | exact hkk.1, hkk.2⟩
   ·have hsub : ((List.range ops.size).filter fun j => !(listed.setIfInBounds i true).getD j true) = (((List.range ops.size).filter fun j => !listed.getD j true).filter fun j => !decide (j = i)) := by
     rw [List.filter_filter]
     apply List.filter_congr
     intro j _
     rw [hget]
     by_cases hji : j = i
     ·simp [hji]
     ·simp [hji]
    rw [hsub]
    have hmem : i ∈ (List.range ops.size).filter fun j => !listed.getD j true := List.mem_filter.2 ⟨List.mem_range.2 hilt, by simp only [hun, Bool.not_false]⟩
    have := List.length_filter_lt_length_iff_exists (p := fun j => !decide (j = i)) |>.2 ⟨i, hmem, by simp⟩
    omega
  have key2 := key (wpAny P .any ops Q fuel (listed.setIfInBounds i true)) next
  unfold wpOp
  rw [ho]
  simp only
  by_cases hw : Region.wanted o (yielded ops a.tmps) = true
  ·rw [if_pos hw] at key2 ⊢
   exact .inl (upon_calm _ key2)
  ·rw [if_neg hw] at key2 ⊢
   exact key2

/-- the law -/
theorem wp_region_rel2 {id : Nat} {Q : Exit → Act → World → Prop} {w : World} (X : World → World → Prop) (hXr : ∀ A, X A A) (hXt : ∀ A B C, X A B → X B C → X A C) (ps : List Pr) (hR : MonoP X ps) (hloc : locB ops ps = true)
  (hm : P.follows .mixedOrders = true) (hp : plainB ops a0.tmps.size = true) (hsteps : RelSteps2 P ops ps X a0 w.drew 0 ops.toList)
  (hpost : ∀ vs W, X w.drew W → (∀ i, i < ops.size → (prAt ps i).at_ vs (vs i) W) → Q .normal (putAll vs 0 ops.toList a0) W) : (Code.region id ops true).wp P Q a0 w := by
 refine wp_region_any hm (wp_region_rel2_aux hXt hR.at_ hloc hp hsteps hpost ops.size (Array.replicate ops.size false) a0 w.drew (fun _ => undef) ?_ ?_)
 ·have hno : ∀ j, (Array.replicate ops.size false).getD j true = true → j < ops.size → False := by
   intro j h hj
   rw [Array.getD_eq_getD_getElem?, Array.getElem?_replicate, if_pos hj] at h
   cases h
  exact ⟨hXr _, rfl, rfl, by simp, fun j h hj => (hno j h hj).elim, fun k _ => rfl, fun j h hj => (hno j h hj).elim⟩
 ·refine Nat.le_trans (List.length_filter_le _ _) (by simp)
end


/-- what lay below B is as it was; blocks from B on of type t may come, and may be filled with cs; those that hold it keep it -/
structure ExtN (B : Nat) (t : TypeId) (cs : List Value) (A C : World) : Prop where
 below : Below B A C
 stays : ∀ g, Blk A g t cs → Blk C g t cs
 there : ∀ g, (∃ zs, zs.length = cs.length ∧ Blk A g t zs) → ∃ zs, zs.length = cs.length ∧ Blk C g t zs
theorem ExtN.refl (B : Nat) (t : TypeId) (cs : List Value) (A : World) : ExtN B t cs A A := ⟨Below.refl _ _, fun _ => id, fun _ => id⟩
theorem ExtN.trans {B : Nat} {t : TypeId} {cs : List Value} {A C D : World} (h : ExtN B t cs A C) (k : ExtN B t cs C D) : ExtN B t cs A D := ⟨h.below.trans k.below, fun g x => k.stays g (h.stays g x), fun g x => k.there g (h.there g x)⟩
theorem ExtN.of {B : Nat} {t : TypeId} {cs : List Value} {A C : World} (hB : B ≤ A.heap.size) (h : Below A.heap.size A C) : ExtN B t cs A C := ⟨h.mono hB, fun _ x => x.on h, fun _ ⟨zs, h1, h2⟩ => ⟨zs, h1, h2.on h⟩⟩
theorem ExtN.store {B g : Nat} {t : TypeId} {cs : List Value} {A C : World} (hB : B ≤ A.heap.size) (hg : B ≤ g) (h : A.grownBy C (some g)) (hb : Blk C g t cs) : ExtN B t cs A C := by
 refine ⟨grown_below h hB hg, fun i hi => ?_, fun i hi => ?_⟩
 ·by_cases hig : i = g
  ·subst hig; exact hb
  ·exact hi.grown h (fun e => hig (by injection e))
 ·by_cases hig : i = g
  ·subst hig; exact ⟨cs, rfl, hb⟩
  ·obtain ⟨zs, h1, h2⟩ := hi
   exact ⟨zs, h1, h2.grown h (fun e => hig (by injection e))⟩
theorem ExtN.size {B : Nat} {t : TypeId} {cs : List Value} {A C : World} (h : ExtN B t cs A C) : A.heap.size ≤ C.heap.size := h.below.size
end Go.Proofs.Ytbemhcihmlijaaa

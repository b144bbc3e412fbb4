/- Texts of this claim put together, in build order: each one's own remark stands ahead of it. -/
import Derived.Test.YtckbleiikldloaaDoorG03
import Derived.OrdersIn
import Derived.ControlIn
import Derived.Test.YtckbleiikldloaaDoorG07
/- A region inside the wide fence that draws its order, whose last but one operation waits for all others ahead of it, and the last one for that: the others are walked once, in any order, then these two. No condition. -/
namespace Go.Proofs.YtckbleiikldloaaDoor
open Go.RowKit
set_option linter.unusedVariables false
set_option maxRecDepth 20000

def last2B (ops : Array Oper) (m : Nat) : Bool := (List.range m).all (fun i => (closure ops ops.size [m]).contains i) && waits ops (m + 1) m
theorem rows_wide {n : Nat} {P : Program} {row : String} {args : Array Value} {w : World} {R : Value → World → Prop} (h : Rows P row args w R) : RowsIn Fence.wide n P row args w R :=
  fun c cs _ => let ⟨v, w', r, s⟩ := h c cs; ⟨v, w', r, stepsIn_wide.2 s⟩

section
variable {n : Nat} {P : Program} {ops : Array Oper} {R : Nat → Value → World → Prop} {X : World → World → Prop} {a0 : Act} {w0 : World}
theorem uponIn_of_upon {o : Oper} {a : Act} {K : Act → World → Prop} {Q : Exit → Act → World → Prop} (r : Result Next) (h : Oper.upon P o a K (fun _ _ _ => False) r) : Oper.uponIn Fence.wide n P o a K Q r := by
  cases r with
  | ok x w' =>
    cases x with
    | enter f args =>
      rw [Oper.upon_enter] at h
      rw [Oper.uponIn_enter]
      refine ⟨(fun e => by cases e), callsIn_wide.2 (Calls.mono h ?_)⟩
      intro e w'' he
      cases e with
      | returned v => exact he
      | panicked c => exact he.elim
      | outgrown => obtain ⟨_, _, h⟩ := he; exact h.elim
    | row row args => exact ⟨(fun e => by cases e), rows_wide h⟩
    | round => exact (h : False).elim
    | value v => exact h
    | skip => exact h
    | defer d => exact h
    | _ => exact (h : False).elim
  | halt x w' => cases x <;> exact (h : False).elim
theorem wpIn_of_wp {o : Oper} {a : Act} {w : World} {K : Act → World → Prop} {Q : Exit → Act → World → Prop} (h : o.wp P a w K (fun _ _ _ => False)) : o.wpIn Fence.wide n P a w K Q := by
  refine ⟨fun _ _ => trivial, ?_⟩
  rw [show Fence.wide.round = none from rfl, Oper.semAt_none]
  exact uponIn_of_upon _ h
theorem closure_listed2 {listed : Array Bool} {m : Nat} (hc : ∀ i, (i = m ∨ listed.getD i true = true) → i < ops.size → ∀ j, waits ops i j = true → listed.getD j true = true ∧ j < ops.size) :
    ∀ (k : Nat) (l : List Nat), (∀ i ∈ l, i < ops.size ∧ (i = m ∨ listed.getD i true = true)) → ∀ i ∈ closure ops k l, i < ops.size ∧ (i = m ∨ listed.getD i true = true) := by
  intro k
  induction k with
  | zero => exact fun l h => h
  | succ k ih =>
    intro l h
    refine ih _ fun i hi => ?_
    rcases List.mem_append.1 hi with hi | hi
    · exact h i hi
    · obtain ⟨h1, h2⟩ := List.mem_filter.1 hi
      simp only [Bool.and_eq_true] at h2
      obtain ⟨x, hx, hw⟩ := List.any_eq_true.1 h2.2
      have := hc x (h x hx).2 (h x hx).1 i hw
      exact ⟨this.2, .inr this.1⟩

theorem wpIn_region_last2_aux {Q : Exit → Act → World → Prop} (m : Nat) (hm : ops.size = m + 2) (hXt : ∀ A B C, X A B → X B C → X A C) (hR : ∀ i v A B, R i v A → X A B → R i v B) (hp : plainB ops a0.tmps.size = true) (hlast : last2B ops m = true) (o2 : Oper) (ho2 : ops[m + 1]? = some o2) (hg2 : o2.guard = none)
    (hsteps : RelSteps P ops R X a0 w0 0 (ops.toList.take m)) (hpost : ∀ vs W o, ops[m]? = some o → X w0 W → (∀ i, i < m → R i (vs i) W) → o.wpIn Fence.wide n P (putAll vs 0 (ops.toList.take m) a0) W (fun a W' => o2.wpIn Fence.wide n P a W' (fun a W'' => Q .normal a W'') Q) Q)
    (hwant : ∀ vs W o, ops[m]? = some o → X w0 W → (∀ i, i < m → R i (vs i) W) → Region.wanted o (yielded ops (putAll vs 0 (ops.toList.take m) a0).tmps) = true) :
    ∀ (fuel : Nat) (listed : Array Bool) (a : Act) (W : World) (vs : Nat → Value), RelInv ops R X a0 w0 listed a W vs → listed.getD m true = false → listed.getD (m + 1) true = false → ((List.range ops.size).filter fun i => !listed.getD i true).length ≤ fuel → wpAnyIn Fence.wide n P .any ops Q fuel listed a W := by
  intro fuel
  induction fuel with
  | zero =>
    intro listed a W vs I hun _ hlen
    have : m ∈ (List.range ops.size).filter fun i => !listed.getD i true := List.mem_filter.2 ⟨List.mem_range.2 (by omega), by simp only [hun, Bool.not_false]⟩
    have hnil : ((List.range ops.size).filter fun i => !listed.getD i true) = [] := List.eq_nil_of_length_eq_zero (by omega)
    rw [hnil] at this
    cases this
  | succ fuel ih =>
    intro listed a W vs I hunm hunm2 hlen
    refine ⟨fun h => ?_, fun i hi => ?_⟩
    · have := listed_all hp I.len h m (by omega)
      rw [hunm] at this
      cases this
    obtain ⟨hun, o, ho, hall⟩ := mem_ready.1 hi
    have hilt : i < ops.size := (Array.getElem?_eq_some_iff.1 ho).1
    have hpre : ∀ j, waits ops i j = true → listed.getD j true = true ∧ j < ops.size := by
      intro j hj
      obtain ⟨e, he, hb, rfl⟩ := waits_of ho hj
      have h1 := hall e he hb
      have hlt := (plain_at hp hilt).2 o ho e he hb
      have hjs : e.on < ops.size := by omega
      refine ⟨?_, hjs⟩
      rw [Array.getD_eq_getD_getElem?] at h1 ⊢
      rw [Array.getElem?_eq_getElem (by rw [I.len]; exact hjs)] at h1 ⊢
      exact h1
    by_cases him : i = m
    · subst him
      have hl2 := hlast
      unfold last2B at hl2
      rw [Bool.and_eq_true] at hl2
      have hothers : ∀ j, j < i → listed.getD j true = true := by
        intro j hj
        have hc := List.all_eq_true.1 hl2.1 j (List.mem_range.2 hj)
        have hmem : j ∈ closure ops ops.size [i] := by simpa using hc
        have := closure_listed2 (listed := listed) (ops := ops) (m := i) (fun x hx hxs y hy => by
          rcases hx with hx | hx
          · subst hx
            exact hpre y hy
          · exact I.closed x hx hxs y hy) ops.size [i] (fun x hx => by
          simp at hx
          subst hx
          exact ⟨by omega, .inl rfl⟩) j hmem
        rcases this.2 with h | h
        · omega
        · exact h
      have ha : a = putAll vs 0 (ops.toList.take i) a0 := by
        refine act_ext (by rw [putAll_size, I.size]) (by rw [putAll_defers, I.defers]) fun k hk => ?_
        by_cases hw : ∃ j, j < i ∧ dstOf ops j = some k
        · obtain ⟨j, hj, hd⟩ := hw
          have hjs : j < ops.size := by omega
          rw [(I.vals j (hothers j hj) hjs).2 k hd]
          have hoj : (ops.toList.take i)[j]? = some ops[j] := by rw [List.getElem?_take, if_pos hj]; simp [Array.getElem?_eq_getElem hjs]
          have := putAll_some vs (ops.toList.take i) k 0 a0 j ops[j] hoj (by rw [← dst_bind (Array.getElem?_eq_getElem hjs)]; exact hd) (by rw [← I.size]; exact hk) (fun x y hx hne => by
            rw [List.getElem?_take] at hx
            split at hx
            · have hx' : ops[x]? = some y := by simpa using hx
              rw [← dst_bind hx']
              exact ((plain_at hp hjs).1 k hd).2 x (Array.getElem?_eq_some_iff.1 hx').1 hne
            · cases hx)
          rw [this, Nat.zero_add]
        · rw [I.rest k (fun j hl hj hd => by
            rcases Nat.lt_or_ge j i with h | h
            · exact hw ⟨j, h, hd⟩
            · rcases Nat.lt_or_ge i j with h2 | h2
              · have : j = i + 1 := by omega
                subst this
                rw [hunm2] at hl
                cases hl
              · have : j = i := by omega
                subst this
                rw [hun] at hl
                cases hl)]
          refine (putAll_none vs (ops.toList.take i) k 0 a0 fun x hx hd => ?_).symm
          obtain ⟨j, hj⟩ := List.getElem?_of_mem hx
          rw [List.getElem?_take] at hj
          split at hj
          · rename_i hji
            have hj' : ops[j]? = some x := by simpa using hj
            exact hw ⟨j, hji, by rw [dst_bind hj']; exact hd⟩
          · cases hj
      have hRR : ∀ j, j < i → R j (vs j) W := fun j hj => (I.vals j (hothers j hj) (by omega)).1
      have key := hpost vs W o ho I.world hRR
      have hwn := hwant vs W o ho I.world hRR
      rw [← ha] at key hwn
      have hils : i < listed.size := by rw [I.len]; exact hilt
      have hget : ∀ j, (listed.setIfInBounds i true).getD j true = if j = i then true else listed.getD j true := by
        intro j
        by_cases hj : j = i
        · subst hj
          rw [if_pos rfl, Array.getD_eq_getD_getElem?, Array.getElem?_setIfInBounds_self_of_lt hils]
          rfl
        · rw [if_neg hj, Array.getD_eq_getD_getElem?, Array.getD_eq_getD_getElem?, Array.getElem?_setIfInBounds_ne (fun e => hj e.symm)]
      have hlt2 : i + 1 < ops.size := by omega
      have hpos : 1 ≤ fuel := by
        have hsub : ((List.range ops.size).filter fun j => !(listed.setIfInBounds i true).getD j true) = (((List.range ops.size).filter fun j => !listed.getD j true).filter fun j => !decide (j = i)) := by
          rw [List.filter_filter]
          apply List.filter_congr
          intro j _
          rw [hget]
          by_cases hji : j = i
          · simp [hji]
          · simp [hji]
        have hmem : i ∈ (List.range ops.size).filter fun j => !listed.getD j true := List.mem_filter.2 ⟨List.mem_range.2 hilt, by simp only [hun, Bool.not_false]⟩
        have h1 := List.length_filter_lt_length_iff_exists (p := fun j => !decide (j = i)) |>.2 ⟨i, hmem, by simp⟩
        have hmem2 : i + 1 ∈ (List.range ops.size).filter fun j => !(listed.setIfInBounds i true).getD j true := List.mem_filter.2 ⟨List.mem_range.2 hlt2, by rw [hget, if_neg (by omega), hunm2]; rfl⟩
        rw [hsub] at hmem2
        have := List.length_pos_of_mem hmem2
        omega
      obtain ⟨fuel, rfl⟩ : ∃ q, fuel = q + 1 := ⟨fuel - 1, by omega⟩
      have next : ∀ a' W', o2.wpIn Fence.wide n P a' W' (fun a W'' => Q .normal a W'') Q → wpAnyIn Fence.wide n P .any ops Q (fuel + 1) (listed.setIfInBounds i true) a' W' := by
        intro a' W' hq
        refine ⟨fun h => ?_, fun j hj => ?_⟩
        · have := listed_all hp (by rw [Array.size_setIfInBounds, I.len]) h (i + 1) hlt2
          rw [hget, if_neg (by omega), hunm2] at this
          cases this
        · obtain ⟨hunj, oj, hoj, _⟩ := mem_ready.1 hj
          have hjlt : j < ops.size := (Array.getElem?_eq_some_iff.1 hoj).1
          have hji : j = i + 1 := by
            rw [hget] at hunj
            split at hunj
            · cases hunj
            · rename_i hne
              rcases Nat.lt_or_ge j i with h | h
              · rw [hothers j h] at hunj
                cases hunj
              · omega
          subst hji
          rw [ho2] at hoj
          injection hoj with hoj
          subst hoj
          unfold wpOpIn
          rw [ho2]
          simp only
          rw [if_pos (wanted_none hg2)]
          refine Oper.wpIn_mono (fun a'' W'' hQ => wpAnyIn_done ?_ hQ _) hq
          apply List.eq_nil_iff_forall_not_mem.2
          intro k hk
          obtain ⟨h1, o', ho', _⟩ := mem_ready.1 hk
          have hks : k < ops.size := (Array.getElem?_eq_some_iff.1 ho').1
          have hg2' : ((listed.setIfInBounds i true).setIfInBounds (i + 1) true).getD k true = true := by
            by_cases hk1 : k = i + 1
            · subst hk1
              rw [Array.getD_eq_getD_getElem?, Array.getElem?_setIfInBounds_self_of_lt (by rw [Array.size_setIfInBounds, I.len]; exact hks)]
              rfl
            · rw [Array.getD_eq_getD_getElem?, Array.getElem?_setIfInBounds_ne (fun e => hk1 e.symm), ← Array.getD_eq_getD_getElem?, hget]
              split
              · rfl
              · exact hothers k (by omega)
          rw [hg2'] at h1
          cases h1
      have key2 := Oper.wpIn_mono next key
      unfold wpOpIn
      rw [ho]
      simp only
      rw [if_pos hwn]
      exact key2
    · have hilm : i < m := by
        rcases Nat.lt_or_ge i m with h | h
        · exact h
        · have h1 : i = m + 1 := by omega
          subst h1
          have hl2 := hlast
          unfold last2B at hl2
          rw [Bool.and_eq_true] at hl2
          have := (hpre m hl2.2).1
          rw [hunm] at this
          cases this
      have hst := relSteps_at (ops.toList.take m) 0 hsteps i o (by rw [List.getElem?_take, if_pos hilm]; simpa using ho)
      rw [Nat.zero_add] at hst
      have key := hst a vs W I.world (fun j hj => (I.vals j (hpre j hj).1 (hpre j hj).2).1) (fun j d hj hd => (I.vals j (hpre j hj).1 (hpre j hj).2).2 d hd)
        (fun k hk => I.rest k fun j hlj hj hd => by
          have := List.all_eq_true.1 hk j (List.mem_range.2 hj)
          simp only [hd, bne_self_eq_false, Bool.false_or, Bool.or_eq_true, beq_iff_eq] at this
          rcases this with h | h
          · have := (I.closed j hlj hj i h).1
            rw [hun] at this
            cases this
          · subst h
            rw [hun] at hlj
            cases hlj)
      have next : ∀ v W', R i v W' → X W W' → wpAnyIn Fence.wide n P .any ops Q fuel (listed.setIfInBounds i true) (a.put o.dst v) W' := by
        intro v W' hv hx
        have hils : i < listed.size := by rw [I.len]; exact hilt
        have hget : ∀ j, (listed.setIfInBounds i true).getD j true = if j = i then true else listed.getD j true := by
          intro j
          by_cases hj : j = i
          · subst hj
            rw [if_pos rfl, Array.getD_eq_getD_getElem?, Array.getElem?_setIfInBounds_self_of_lt hils]
            rfl
          · rw [if_neg hj, Array.getD_eq_getD_getElem?, Array.getD_eq_getD_getElem?, Array.getElem?_setIfInBounds_ne (fun e => hj e.symm)]
        have hput : ∀ k, o.dst ≠ some k → (a.put o.dst v).eval (.tmp k) = a.eval (.tmp k) := fun k hk => Act.eval_put fun d hd e => by injection e with e; exact hk (by rw [hd, e])
        refine ih _ _ _ (fun j => if j = i then v else vs j) ?_ (by rw [hget, if_neg (by omega)]; exact hunm) (by rw [hget, if_neg (by omega)]; exact hunm2) ?_
        · refine ⟨hXt _ _ _ I.world hx, ?_, ?_, by rw [Array.size_setIfInBounds, I.len], ?_, ?_, ?_⟩
          · rw [← I.size]; cases h : o.dst <;> simp [Act.put]
          · rw [← I.defers]; cases h : o.dst <;> simp [Act.put]
          · intro j hj hjs
            rw [hget] at hj
            by_cases hji : j = i
            · subst hji
              simp only [if_true]
              refine ⟨hv, fun d hd => ?_⟩
              rw [dst_bind ho] at hd
              have hdl : d < a.tmps.size := by rw [I.size]; exact ((plain_at hp hjs).1 d (by rw [dst_bind ho]; exact hd)).1
              simp [Act.put, hd, Act.eval, hdl]
            · rw [if_neg hji] at hj
              simp only [if_neg hji]
              obtain ⟨h1, h2⟩ := I.vals j hj hjs
              refine ⟨hR _ _ _ _ h1 hx, fun d hd => ?_⟩
              rw [hput d (fun e => ((plain_at hp hjs).1 d hd).2 i hilt (fun e => hji e.symm) (by rw [dst_bind ho]; exact e))]
              exact h2 d hd
          · intro k hk
            have hki : o.dst ≠ some k := by
              have := hk i (by rw [hget, if_pos rfl]) hilt
              rwa [dst_bind ho] at this
            rw [hput k hki]
            exact I.rest k fun j hj hjs => hk j (by rw [hget]; split <;> first | rfl | exact hj) hjs
          · intro j hj hjs k hk
            have hkk : listed.getD k true = true ∧ k < ops.size := by
              rw [hget] at hj
              by_cases hji : j = i
              · subst hji
                exact hpre k hk
              · rw [if_neg hji] at hj
                exact I.closed j hj hjs k hk
            exact ⟨by rw [hget]; split <;> first | rfl | exact hkk.1, hkk.2⟩
        · have hsub : ((List.range ops.size).filter fun j => !(listed.setIfInBounds i true).getD j true) = (((List.range ops.size).filter fun j => !listed.getD j true).filter fun j => !decide (j = i)) := by
            rw [List.filter_filter]
            apply List.filter_congr
            intro j _
            rw [hget]
            by_cases hji : j = i
            · simp [hji]
            · simp [hji]
          rw [hsub]
          have hmem : i ∈ (List.range ops.size).filter fun j => !listed.getD j true := List.mem_filter.2 ⟨List.mem_range.2 hilt, by simp only [hun, Bool.not_false]⟩
          have := List.length_filter_lt_length_iff_exists (p := fun j => !decide (j = i)) |>.2 ⟨i, hmem, by simp⟩
          omega
      have key2 := key (wpAnyIn Fence.wide n P .any ops Q fuel (listed.setIfInBounds i true)) next
      unfold wpOpIn
      rw [ho]
      simp only
      by_cases hw : Region.wanted o (yielded ops a.tmps) = true
      · rw [if_pos hw] at key2 ⊢
        exact wpIn_of_wp key2
      · rw [if_neg hw] at key2 ⊢
        exact ⟨fun _ _ => trivial, key2⟩

/-- the law -/
theorem wpIn_region_last2 {id : Nat} {Q : Exit → Act → World → Prop} {w : World} (m : Nat) (X : World → World → Prop) (hXr : ∀ A, X A A) (hXt : ∀ A B C, X A B → X B C → X A C) (R : Nat → Value → World → Prop) (hR : ∀ i v A B, R i v A → X A B → R i v B)
    (hf : P.follows .mixedOrders = true) (hp : plainB ops a0.tmps.size = true) (hm : ops.size = m + 2) (hlast : last2B ops m = true) (ol : Oper) (hol : ops[m]? = some ol) (hg : ol.guard = none) (o2 : Oper) (ho2 : ops[m + 1]? = some o2) (hg2 : o2.guard = none) (hsteps : RelSteps P ops R X a0 w.drew 0 (ops.toList.take m))
    (hpost : ∀ vs W, X w.drew W → (∀ i, i < m → R i (vs i) W) → ol.wpIn Fence.wide n P (putAll vs 0 (ops.toList.take m) a0) W (fun a W' => o2.wpIn Fence.wide n P a W' (fun a W'' => Q .normal a W'') Q) Q) : (Code.region id ops true).wpIn Fence.wide n P Q a0 w := by
  refine wpIn_region_any hf (wpIn_region_last2_aux m hm hXt hR hp hlast o2 ho2 hg2 hsteps (fun vs W o ho hx hr => ?_) (fun vs W o ho hx hr => ?_) ops.size (Array.replicate ops.size false) a0 w.drew (fun _ => undef) ?_ ?_ ?_ ?_)
  · rw [hol] at ho
    injection ho with ho
    subst ho
    exact hpost vs W hx hr
  · rw [hol] at ho
    injection ho with ho
    subst ho
    exact wanted_none hg
  · have hno : ∀ j, (Array.replicate ops.size false).getD j true = true → j < ops.size → False := by
      intro j h hj
      rw [Array.getD_eq_getD_getElem?, Array.getElem?_replicate, if_pos hj] at h
      cases h
    exact ⟨hXr _, rfl, rfl, by simp, fun j h hj => (hno j h hj).elim, fun k _ => rfl, fun j h hj => (hno j h hj).elim⟩
  · rw [Array.getD_eq_getD_getElem?, Array.getElem?_replicate, if_pos (by omega)]
    rfl
  · rw [Array.getD_eq_getD_getElem?, Array.getElem?_replicate, if_pos (by omega)]
    rfl
  · refine Nat.le_trans (List.length_filter_le _ _) (by simp)
end
end Go.Proofs.YtckbleiikldloaaDoor

/- ext.each (layer 22): what its iterator hands to a loop's body. No condition but sizes. -/
namespace Go.Proofs.YtckbleiikldloaaDoor
open Go.RowKit Go.Shelf
set_option linter.unusedVariables false
set_option maxRecDepth 20000
set_option linter.unusedSimpArgs false

attribute [local go_sem] Oper.semAt_some

/-- what a round must keep: what lay below n₀, and the iterator's own box -/
def Keeps1 (n₀ Bx : Nat) (W W' : World) : Prop := Below n₀ W W' ∧ W'.heap[Bx]? = W.heap[Bx]?
theorem Keeps1.trans {n₀ Bx : Nat} {A B C : World} (h : Keeps1 n₀ Bx A B) (k : Keeps1 n₀ Bx B C) : Keeps1 n₀ Bx A C := ⟨h.1.trans k.1, k.2.trans h.2⟩
theorem keeps1_b {n₀ Bx : Nat} {w : World} (h0 : n₀ ≤ w.heap.size) (hB : Bx < w.heap.size) : ∀ (W : World) (l : Nat) (o o' : Obj), w.heap.size ≤ l → W.heap[l]? = some o → o.isCells = false → o.isWalk = false → Keeps1 n₀ Bx W (W.putObj l o') := by
  intro W l o o' hl ho hc hw
  have hg := grownBy_putObj' W l o'
  refine ⟨belowK_b (w := w) h0 W l o o' hl ho hc hw, ?_⟩
  have := (Array.getElem?_eq_some_iff.1 ho).1
  exact hg.block Bx (by omega) (by intro e; injection e; omega)
def leftOf (Bx : Nat) (W : World) : Nat := match W.cell? ⟨Bx, 0, none⟩ with | some (.slice _ n _) => n | _ => 0
theorem leftOf_eq {Bx : Nat} {W : World} {A : Option Addr} {m c : Nat} (h : W.cell? ⟨Bx, 0, none⟩ = some (.slice A m c)) : leftOf Bx W = m := by unfold leftOf; rw [h]

/-- the objects that bytes tell, behind others, and their error -/
def badG (zs : List UInt8) : Bool := decide (be (zs.take 2) < 4) || decide (zs.length < be (zs.take 2)) || decide (be (zs.take 2) % 4 ≠ 0)
def obG (zs : List UInt8) : Ob := ⟨((zs.getD 2 0).toNat : Int), ((zs.getD 3 0).toNat : Int), (zs.take (be (zs.take 2))).drop 4⟩
def goG : Nat → List Ob → List UInt8 → List Ob × Int
  | 0, acc, _ => (acc, 0)
  | f + 1, acc, zs => if zs.length = 0 then (acc, 0) else if zs.length < 4 then ([], 10) else if badG zs then ([], 13) else goG f (acc ++ [obG zs]) (zs.drop (be (zs.take 2)))

abbrev Tx := Xo × Int
def tellsX (x : Tx) : Array Value := #[.agg x.1.cells.toArray, .int .i64 x.2]
def obsOf (l : List Tx) : List Ob := l.map fun x => x.1.ob
/-- an object that is handed over is whole -/
def TX (n₀ len : Nat) (pre : List Tx) (x : Tx) (W : World) : Prop := 4 * pre.length ≤ len ∧ (0 ≤ x.1.cls ∧ x.1.cls ≤ 255) ∧ (0 ≤ x.1.kind ∧ x.1.kind ≤ 255) ∧ Own W n₀ 5 1 x.1.A x.1.n x.1.c (bv x.1.body)
def zeroT (e : Int) : Tx := (⟨0, 0, none, 0, 0, []⟩, e)
theorem TX.zero (n₀ len : Nat) (pre : List Tx) (h : 4 * pre.length ≤ len) (e : Int) (W : World) : TX n₀ len pre (zeroT e) W := ⟨h, by show (0 : Int) ≤ 0 ∧ (0 : Int) ≤ 255; omega, by show (0 : Int) ≤ 0 ∧ (0 : Int) ≤ 255; omega, Own.nil _ _ _ _ _⟩
def SnX (zs : List UInt8) (pre : List Tx) : Prop := goG zs.length [] zs = (obsOf pre, 0)
def SpX (zs : List UInt8) (pre : List Tx) : Prop := ∃ p x, pre = p ++ [x] ∧ (x.2 ≠ 0 → goG zs.length [] zs = ([], x.2))

set_option maxHeartbeats 1000000 in
theorem each_any (a : Option Addr) (len cap : Nat) (w : World) :
    Calls Tryd.prog 70 #[.slice a len cap] w fun e w' => e = .returned (.func (.func 75) #[] #[.pointer (some ⟨w.heap.size, 0, none⟩)]) ∧ w' = w.alloc (.cells #[.slice a len cap] 22) := by
  go_enter Tryd.func70, Tryd.ntmps70
  go_wp2
  go_ret
  exact ⟨rfl, rfl⟩

theorem addr_add1 (b o k : Nat) : Option.map (fun x : Addr => x.add k) (some ⟨b, o, none⟩) = some ⟨b, o + k, none⟩ := by
  show some (Addr.add ⟨b, o, none⟩ k) = _
  unfold Addr.add
  split
  · rename_i h0; rw [h0]; rfl
  · rfl
theorem u8_bd (u : UInt8) : (0 : Int) ≤ ((u.toNat : Nat) : Int) ∧ ((u.toNat : Nat) : Int) ≤ 255 := by have := u.toNat_lt; omega
theorem yes_no {e : Ending} {P1 P2 : Prop} (h : (e = .returned (.bool true) ∧ P1) ∨ (e = .returned (.bool false) ∧ P2)) : ∃ b, e = .returned (.bool b) ∧ (b = true → P1) ∧ (b = false → P2) := by
  rcases h with ⟨rfl, h⟩ | ⟨rfl, h⟩
  · exact ⟨true, rfl, fun _ => h, fun e => Bool.noConfusion e⟩
  · exact ⟨false, rfl, fun e => Bool.noConfusion e, fun _ => h⟩
set_option maxRecDepth 100000 in
set_option maxHeartbeats 12000000 in
theorem each1_in (l Bx n₀ : Nat) (A : Option Addr) (len cap : Nat) (zs : List UInt8) (hlen : len ≤ 1000000000) (hlc : len ≤ cap) (hcm : cap ≤ maxLen) (n : Nat) (hn : 2 ≤ n) (J Jx : List Tx → World → Prop)
    (hJ : Lets Bx J) (hg : ∀ s W, J s W → ∀ x ∈ s, x.2 = 0)
    (hY : ∀ pre x W, J pre W → TX n₀ len pre x W → YieldAt Fence.wide (n - 1) Tryd.prog l (tellsX x) W fun e W' =>
      (e = .returned (.bool true) ∧ J (pre ++ [x]) W' ∧ Keeps1 n₀ Bx W W') ∨ (e = .returned (.bool false) ∧ Jx (pre ++ [x]) W'))
    (W : World) (hB : W.heap[Bx]? = some (.cells #[.slice A len cap] 22 (0, 0))) (hBn : n₀ ≤ Bx) (hr : Row W n₀ 1 A len (bv zs)) (h0 : J [] W) :
    CallsIn Fence.wide n Tryd.prog 75 #[.func (.yield l) #[] #[], .pointer (some ⟨Bx, 0, none⟩)] W fun e W' => (∃ v, e = .returned v) ∧ ((∃ xs, SnX zs xs ∧ J xs W') ∨ ∃ pre, SpX zs pre ∧ Jx pre W') := by
  refine callsIn_of_wp Tryd.func75 rfl trivial ?_ rfl
  simp only [Tryd.ntmps75, List.size_toArray, List.length_cons, List.length_nil, Nat.reduceAdd, Nat.reduceSub, Array.replicate_succ, Array.replicate_zero, List.push_toArray, List.append_toArray, List.nil_append, List.cons_append]
  gi_wp2
  have hn1 : 1 ≤ n := by omega
  have hz : zs.length = len := by have := hr.1; rw [bv_length] at this; omega
  gi_loopw [5] (fun _ wr => ∃ (pre : List Tx) (f : Nat) (A' : Option Addr) (c' : Nat) (rs : List UInt8) (m : Nat), J pre wr ∧ goG zs.length [] zs = goG f (obsOf pre) rs ∧ m ≤ f ∧ rs.length = m ∧ wr.heap[Bx]? = some (.cells #[.slice A' m c'] 22 (0, 0)) ∧ Row wr n₀ 1 A' m (bv rs) ∧ m ≤ c' ∧ c' ≤ maxLen ∧ 4 * pre.length + m ≤ len)
    (fun _ wr => leftOf Bx wr)
  case atStart => exact ⟨[], zs.length, A, cap, zs, len, h0, rfl, by omega, hz, hB, hr, hlc, hcm, by simp⟩
  case round =>
    obtain ⟨pre, f, A', c', rs, m, hJs, hgo, hmf, hrs, hbx, hrow, hle, hcm', hml⟩ := hrel
    have hlt := heap_lt hbx
    have hn0 : n₀ ≤ wr.heap.size := by omega
    have hc0 := cell_at hbx 0
    have hf0 := frozen_at hbx 0
    have HX := Lib.hid hbx
    have HR := Lib.hid hrow
    have HGO := Lib.hid hgo
    have HRS := Lib.hid hrs
    clear hbx hrow hgo hrs
    by_cases hm0 : m = 0
    · subst hm0
      have hSn : SnX zs pre := by
        unfold SnX
        rw [HGO.out]
        cases f with
        | zero => rfl
        | succ f => unfold goG; rw [if_pos HRS.out]
      gi_wp2
      refine bodyPost_end (results_none rfl _ _ _) rfl ?_
      exact ⟨⟨_, rfl⟩, .inl ⟨pre, hSn, hJs⟩⟩
    · have hmp : (0 : Int) < (m : Int) := by omega
      obtain ⟨f, rfl⟩ : ∃ q, f = q + 1 := ⟨f - 1, by omega⟩
      have hstep : goG (f + 1) (obsOf pre) rs = if rs.length < 4 then ([], 10) else if badG rs then ([], 13) else goG f (obsOf pre ++ [obG rs]) (rs.drop (be (rs.take 2))) := by
        show (if rs.length = 0 then _ else _) = _
        rw [if_neg (by rw [HRS.out]; exact hm0)]
      by_cases h4 : m < 4
      · have h4i : (m : Int) < 4 := by omega
        have hSp : SpX zs (pre ++ [zeroT 10]) := ⟨pre, zeroT 10, rfl, fun _ => by rw [HGO.out, hstep, if_pos (by rw [HRS.out]; exact h4)]; rfl⟩
        obtain ⟨fn, tmps, assign, body, hy, hR⟩ := hY pre (zeroT 10) wr hJs (TX.zero _ _ _ (by omega) _ _)
        dsimp only [tellsX, zeroT, Xo.cells] at hy
        clear hstep
        gi_wp2_with fail
        refine hR.mono ?_
        rintro e W3 (⟨rfl, hJ3, hk3⟩ | ⟨rfl, hJx3⟩)
        · have := hg _ _ hJ3 (zeroT 10) (by simp)
          exact absurd this (by decide)
        · gi_wp2
          refine bodyPost_ret (results_none rfl _ _ _) rfl ?_
          exact ⟨⟨_, rfl⟩, .inr ⟨_, hSp, hJx3⟩⟩
      · have h4i : ¬ (m : Int) < 4 := by omega
        rw [if_neg (by rw [HRS.out]; exact h4)] at hstep
        obtain ⟨k, hk⟩ : ∃ k, be (rs.take 2) = k := ⟨_, rfl⟩
        have hk16 : k < 65536 := by rw [← hk]; exact be_bd (rs.take 2) 2 (by rw [List.length_take]; omega)
        have HU := Lib.hid (get_yes A' m c' rs 0 2 wr (HR.out.more hn0) hle hcm' (by omega) (by omega) (by omega) (by omega) (by omega))
        rw [show be ((rs.drop (0 : Int).toNat).take (2 : Int).toNat) = k from hk] at HU
        have hbad : badG rs = (decide (k < 4) || decide (m < k) || decide (k % 4 ≠ 0)) := by unfold badG; rw [hk, HRS.out]
        rw [hk] at hstep
        have HK := Lib.hid hk
        clear hk
        by_cases hgood : 4 ≤ k ∧ k ≤ m ∧ k % 4 = 0
        · obtain ⟨g1, g2, g3⟩ := hgood
          have i1 : ¬ (k : Int) < 4 := by omega
          have i2 : ¬ (m : Int) < (k : Int) := by omega
          have i3 : ((k : Int) % 4 != 0) = false := by simp; omega
          rw [if_neg (by rw [hbad]; simp; omega)] at hstep
          clear hbad
          obtain ⟨b, o, rfl, hbB, hcell⟩ := HR.out.cells (by omega)
          obtain ⟨z2, hz2⟩ : ∃ z, rs.getD 2 0 = z := ⟨_, rfl⟩
          obtain ⟨z3, hz3⟩ : ∃ z, rs.getD 3 0 = z := ⟨_, rfl⟩
          obtain ⟨y2, hy2⟩ : ∃ z : Nat, z2.toNat = z := ⟨_, rfl⟩
          obtain ⟨y3, hy3⟩ : ∃ z : Nat, z3.toNat = z := ⟨_, rfl⟩
          have u2 := hcell 2 (.int .u8 (y2 : Int)) (by rw [bv_get rs 2 z2 (by rw [← hz2, List.getD_eq_getElem?_getD, List.getElem?_eq_getElem (by rw [HRS.out]; omega)]; rfl), hy2])
          have u3 := hcell 3 (.int .u8 (y3 : Int)) (by rw [bv_get rs 3 z3 (by rw [← hz3, List.getD_eq_getElem?_getD, List.getElem?_eq_getElem (by rw [HRS.out]; omega)]; rfl), hy3])
          have HOG : Hid (obG rs = ⟨(y2 : Int), (y3 : Int), (rs.take k).drop 4⟩) := Lib.hid (by unfold obG; rw [HK.out, hz2, hz3, hy2, hy3])
          have by2 : (0 : Int) ≤ (y2 : Int) ∧ (y2 : Int) ≤ 255 := by rw [← hy2]; exact u8_bd _
          have by3 : (0 : Int) ≤ (y3 : Int) ∧ (y3 : Int) ≤ 255 := by rw [← hy3]; exact u8_bd _
          obtain ⟨body, hbody⟩ : ∃ q, (rs.take k).drop 4 = q := ⟨_, rfl⟩
          rw [hbody] at HOG
          clear hz2 hz3 hy2 hy3
          have hbx7 : b < wr.heap.size := by omega
          have HSB := Lib.hid (HR.out.sub1 (i := 4) (k := k - 4) (by omega))
          have HST := Lib.hid hstep
          clear hcell hstep
          gi_wp2_with (refine ⟨trivial, ?_⟩; gi_at_call 28; refine (callsIn_wide.2 HU.out).mono ?_; rintro e w1 ⟨rfl, hb1⟩; have hbx1 := (hb1.block Bx hlt).trans HX.out; have hc1 := cell_at hbx1 0; have hf1 := frozen_at hbx1 0; have v2 := (hb1.cell (p := ⟨b, o + 2, none⟩) hbx7).trans u2; have v3 := (hb1.cell (p := ⟨b, o + 3, none⟩) hbx7).trans u3)
          have j1 : (4 : Int) ≤ (k : Int) := by omega
          have j2 : (k : Int) ≤ (c' : Int) := by omega
          have j3 : ¬ (c' : Int) < (k : Int) := by omega
          obtain ⟨A4, hA4⟩ : ∃ q, (if c' = 4 then (some ⟨b, o, none⟩ : Option Addr) else some ⟨b, o + 4, none⟩) = q := ⟨_, rfl⟩
          have HK4 := Lib.hid (show Row wr n₀ 1 A4 (k - 4) (bv body) by
            have hc := (HR.out.cut (k := 4) (cap := c') (by omega) hle).take (k := k - 4) (by omega)
            rw [show (fun x : Addr => x.add (4 * 1)) = fun x : Addr => x.add 4 from rfl, addr_add1, hA4] at hc
            rw [show bv body = ((bv rs).drop (4 * 1)).take ((k - 4) * 1) by rw [← hbody]; simp only [bv, ← List.map_take, ← List.map_drop, List.drop_take, Nat.mul_one]]
            exact hc)
          have HA4 := Lib.hid hA4
          clear hbody HSB hA4
          refine wpIn_region_last2 12 (fun A B => A.grownBy B none) (fun A => grown_refl A _) (fun A B C h k => grown_trans h k) (relAt (List.cons (fun v _ => v = .func (.yield l) #[] #[]) (List.cons (fun v _ => v = .slice (some ⟨b, o, none⟩) m c') (List.cons (fun v _ => v = .pointer (some ⟨b, o + 2, none⟩)) (List.cons (fun v _ => v = .int .u8 (y2 : Int)) (List.cons (fun v _ => v = .slice (some ⟨b, o, none⟩) m c') (List.cons (fun v _ => v = .pointer (some ⟨b, o + 3, none⟩)) (List.cons (fun v _ => v = .int .u8 (y3 : Int)) (List.cons (fun v _ => v = .slice (some ⟨b, o, none⟩) m c') (List.cons (fun v _ => v = .int .i64 (k : Int)) (List.cons (fun v _ => v = .slice A4 (k - 4) (c' - 4)) (List.cons (fun v W => ∃ A c, v = .slice A (k - 4) c ∧ Own W n₀ 5 1 A (k - 4) c (bv body)) (List.cons (fun v W => ∃ A c, v = .agg (Xo.cells ⟨(y2 : Int), (y3 : Int), A, k - 4, c, body⟩).toArray ∧ Own W n₀ 5 1 A (k - 4) c (bv body)) ([])))))))))))))) (MonoL.at_ (.cons (mono_val _) (.cons (mono_val _) (.cons (mono_val _) (.cons (mono_val _) (.cons (mono_val _) (.cons (mono_val _) (.cons (mono_val _) (.cons (mono_val _) (.cons (mono_val _) (.cons (mono_val _) (.cons (fun _ _ _ ⟨X, c, hv, h⟩ hg => ⟨X, c, hv, h.below (grow_below hg)⟩) (.cons (fun _ _ _ ⟨X, c, hv, h⟩ hg => ⟨X, c, hv, h.below (grow_below hg)⟩) .nil))))))))))))) (by kernel_rfl) (by kernel_rfl) rfl (by kernel_rfl) _ rfl rfl _ rfl rfl ⟨?_, ?_, ?_, ?_, ?_, ?_, ?_, ?_, ?_, ?_, ?_, ?_, trivial⟩ ?_
          · intro a vs W hX hR he hf K hK
            rw [if_pos (wanted_none rfl)]
            have e0 : a.eval (.tmp 0) = .func (.yield l) #[] #[] := hf 0 (by kernel_rfl)
            refine wp_value (v := .func (.yield l) #[] #[]) ?_ (hK _ _ rfl (grown_refl W _))
            simp only [execOp, e0]
            try go_simp
            try (first | rfl | omega | (simp only [IntKind.wrap_i64, IntKind.wrap_u8, IntKind.wrap_u64, IntKind.wrap_u16, IntKind.wrap_u32]; omega) | (rw [Int.tmod_eq_emod_of_nonneg (by omega)]) | (rw [Int.tmod_eq_emod_of_nonneg (by omega)]; omega))
          · intro a vs W hX hR he hf K hK
            rw [if_pos (wanted_none rfl)]
            have e1 : a.eval (.tmp 1) = .pointer (some ⟨Bx, 0, none⟩) := hf 1 (by kernel_rfl)
            have hbW := bthen (below_drew _) (grow_below hX)
            have hc : W.cell? ⟨Bx, 0, none⟩ = some (.slice (some ⟨b, o, none⟩) m c') := (hbW.cell (p := ⟨Bx, 0, none⟩) (heap_lt hbx1)).trans hc1
            refine wp_value (v := _) ?_ (hK _ _ rfl (grown_refl W _))
            simp only [execOp, e1]
            go_simp
          · intro a vs W hX hR he hf K hK
            rw [if_pos (wanted_none rfl)]
            have e39 : a.eval (.tmp 39) = .slice (some ⟨b, o, none⟩) m c' := (he 1 39 (by kernel_rfl) rfl).trans (hR 1 (by kernel_rfl))
            have hi : ((m : Nat) : Int) = m := rfl
            refine wp_value (v := .pointer (some ⟨b, o + 2, none⟩)) ?_ (hK _ _ rfl (grown_refl W _))
            simp only [execOp, e39]
            go_simp
            intro h9
            omega
          · intro a vs W hX hR he hf K hK
            rw [if_pos (wanted_none rfl)]
            have e40 : a.eval (.tmp 40) = .pointer (some ⟨b, o + 2, none⟩) := (he 2 40 (by kernel_rfl) rfl).trans (hR 2 (by kernel_rfl))
            have hbW := bthen (below_drew _) (grow_below hX)
            have hc : W.cell? ⟨b, o + 2, none⟩ = some (.int .u8 (y2 : Int)) := (hbW.cell (p := ⟨b, o + 2, none⟩) (Nat.lt_of_lt_of_le hbx7 hb1.size)).trans v2
            refine wp_value (v := _) ?_ (hK _ _ rfl (grown_refl W _))
            simp only [execOp, e40]
            go_simp
          · intro a vs W hX hR he hf K hK
            rw [if_pos (wanted_none rfl)]
            have e1 : a.eval (.tmp 1) = .pointer (some ⟨Bx, 0, none⟩) := hf 1 (by kernel_rfl)
            have hbW := bthen (below_drew _) (grow_below hX)
            have hc : W.cell? ⟨Bx, 0, none⟩ = some (.slice (some ⟨b, o, none⟩) m c') := (hbW.cell (p := ⟨Bx, 0, none⟩) (heap_lt hbx1)).trans hc1
            refine wp_value (v := _) ?_ (hK _ _ rfl (grown_refl W _))
            simp only [execOp, e1]
            go_simp
          · intro a vs W hX hR he hf K hK
            rw [if_pos (wanted_none rfl)]
            have e42 : a.eval (.tmp 42) = .slice (some ⟨b, o, none⟩) m c' := (he 4 42 (by kernel_rfl) rfl).trans (hR 4 (by kernel_rfl))
            have hi : ((m : Nat) : Int) = m := rfl
            refine wp_value (v := .pointer (some ⟨b, o + 3, none⟩)) ?_ (hK _ _ rfl (grown_refl W _))
            simp only [execOp, e42]
            go_simp
            intro h9
            omega
          · intro a vs W hX hR he hf K hK
            rw [if_pos (wanted_none rfl)]
            have e43 : a.eval (.tmp 43) = .pointer (some ⟨b, o + 3, none⟩) := (he 5 43 (by kernel_rfl) rfl).trans (hR 5 (by kernel_rfl))
            have hbW := bthen (below_drew _) (grow_below hX)
            have hc : W.cell? ⟨b, o + 3, none⟩ = some (.int .u8 (y3 : Int)) := (hbW.cell (p := ⟨b, o + 3, none⟩) (Nat.lt_of_lt_of_le hbx7 hb1.size)).trans v3
            refine wp_value (v := _) ?_ (hK _ _ rfl (grown_refl W _))
            simp only [execOp, e43]
            go_simp
          · intro a vs W hX hR he hf K hK
            rw [if_pos (wanted_none rfl)]
            have e1 : a.eval (.tmp 1) = .pointer (some ⟨Bx, 0, none⟩) := hf 1 (by kernel_rfl)
            have hbW := bthen (below_drew _) (grow_below hX)
            have hc : W.cell? ⟨Bx, 0, none⟩ = some (.slice (some ⟨b, o, none⟩) m c') := (hbW.cell (p := ⟨Bx, 0, none⟩) (heap_lt hbx1)).trans hc1
            refine wp_value (v := _) ?_ (hK _ _ rfl (grown_refl W _))
            simp only [execOp, e1]
            go_simp
          · intro a vs W hX hR he hf K hK
            rw [if_pos (wanted_none rfl)]
            have e5 : a.eval (.tmp 5) = .int .i64 (k : Int) := hf 5 (by kernel_rfl)
            refine wp_value (v := .int .i64 (k : Int)) ?_ (hK _ _ rfl (grown_refl W _))
            simp only [execOp, e5]
            try go_simp
            try (first | rfl | omega | (simp only [IntKind.wrap_i64, IntKind.wrap_u8, IntKind.wrap_u64, IntKind.wrap_u16, IntKind.wrap_u32]; omega) | (rw [Int.tmod_eq_emod_of_nonneg (by omega)]) | (rw [Int.tmod_eq_emod_of_nonneg (by omega)]; omega))
          · intro a vs W hX hR he hf K hK
            rw [if_pos (wanted_none rfl)]
            have e45 : a.eval (.tmp 45) = .slice (some ⟨b, o, none⟩) m c' := (he 7 45 (by kernel_rfl) rfl).trans (hR 7 (by kernel_rfl))
            have e46 : a.eval (.tmp 46) = .int .i64 (k : Int) := (he 8 46 (by kernel_rfl) rfl).trans (hR 8 (by kernel_rfl))
            have f45 := e45
            simp only [Act.eval, Array.getD_eq_getD_getElem?] at f45
            have f46 := e46
            simp only [Act.eval, Array.getD_eq_getD_getElem?] at f46
            refine wp_value (v := .slice A4 (k - 4) (c' - 4)) ?_ (hK _ _ rfl (grown_refl W _))
            rw [← HA4.out]
            simp only [execOp, e45, e46]
            go_simp
          · intro a vs W hX hR he hf K hK
            rw [if_pos (wanted_none rfl)]
            have e47 : a.eval (.tmp 47) = .slice A4 (k - 4) (c' - 4) := (he 9 47 (by kernel_rfl) rfl).trans (hR 9 (by kernel_rfl))
            have hbW := bthen (below_drew _) (grow_below hX)
            have h48 : Row W W.heap.size 1 A4 (k - 4) (bv body) := ((HK4.out.below ((hb1.trans (hbW.mono hb1.size)).mono hn0))).more (Nat.le_trans hn0 (hb1.trans (hbW.mono hb1.size)).size)
            refine wp_enter (f := 65) (args := #[.slice A4 (k - 4) (c' - 4)]) (by simp only [execOp, e47]; go_simp; simpa [Act.eval] using e47) ((clone_bytes A4 (k - 4) _ body W h48 (by omega)).mono ?_)
            rintro q' w' ⟨A2, c2, rfl, hown, hb⟩
            exact ⟨_, rfl, hK _ _ ⟨A2, c2, rfl, hown.mono (Nat.le_trans hn0 (hb1.trans (hbW.mono hb1.size)).size)⟩ (below_grow hb _)⟩
          · intro a vs W hX hR he hf K hK
            rw [if_pos (wanted_none rfl)]
            have e41 : a.eval (.tmp 41) = .int .u8 (y2 : Int) := (he 3 41 (by kernel_rfl) rfl).trans (hR 3 (by kernel_rfl))
            have e44 : a.eval (.tmp 44) = .int .u8 (y3 : Int) := (he 6 44 (by kernel_rfl) rfl).trans (hR 6 (by kernel_rfl))
            have e48 := he 10 48 (by kernel_rfl) rfl
            have p48 := hR 10 (by kernel_rfl)
            change (fun v W => ∃ A c, v = .slice A (k - 4) c ∧ Own W n₀ 5 1 A (k - 4) c (bv body)) (vs 10) W at p48
            have f41 := e41
            simp only [Act.eval, Array.getD_eq_getD_getElem?] at f41
            have f44 := e44
            simp only [Act.eval, Array.getD_eq_getD_getElem?] at f44
            have f48 := e48
            simp only [Act.eval, Array.getD_eq_getD_getElem?] at f48
            obtain ⟨A2, c2, hv, ho⟩ := p48
            rw [hv] at f48 e48
            refine wp_value (v := .agg (Xo.cells ⟨(y2 : Int), (y3 : Int), A2, k - 4, c2, body⟩).toArray) ?_ (hK _ _ ⟨A2, c2, rfl, ho⟩ (grown_refl W _))
            simp only [execOp, f41, f44, f48, e41, e44, e48, Xo.cells]
            go_simp
          · intro vs W2 hX2 hR
            have q0 := hR 0 (by decide)
            have q1 := hR 1 (by decide)
            have q2 := hR 2 (by decide)
            have q3 := hR 3 (by decide)
            have q4 := hR 4 (by decide)
            have q5 := hR 5 (by decide)
            have q6 := hR 6 (by decide)
            have q7 := hR 7 (by decide)
            have q8 := hR 8 (by decide)
            have q9 := hR 9 (by decide)
            have q10 := hR 10 (by decide)
            have q11 := hR 11 (by decide)
            change vs 0 = .func (.yield l) #[] #[] at q0
            change vs 1 = .slice (some ⟨b, o, none⟩) m c' at q1
            change vs 2 = .pointer (some ⟨b, o + 2, none⟩) at q2
            change vs 3 = .int .u8 (y2 : Int) at q3
            change vs 4 = .slice (some ⟨b, o, none⟩) m c' at q4
            change vs 5 = .pointer (some ⟨b, o + 3, none⟩) at q5
            change vs 6 = .int .u8 (y3 : Int) at q6
            change vs 7 = .slice (some ⟨b, o, none⟩) m c' at q7
            change vs 8 = .int .i64 (k : Int) at q8
            change vs 9 = .slice A4 (k - 4) (c' - 4) at q9
            change (fun v W => ∃ A c, v = .slice A (k - 4) c ∧ Own W n₀ 5 1 A (k - 4) c (bv body)) (vs 10) W2 at q10
            change (fun v W => ∃ A c, v = .agg (Xo.cells ⟨(y2 : Int), (y3 : Int), A, k - 4, c, body⟩).toArray ∧ Own W n₀ 5 1 A (k - 4) c (bv body)) (vs 11) W2 at q11
            simp only [putAll, Act.put, List.setIfInBounds_toArray, List.set_cons_zero, List.set_cons_succ, List.take_succ_cons, List.take_zero, q0, q1, q2, q3, q4, q5, q6, q7, q8, q9]
            clear q0 q1 q2 q3 q4 q5 q6 q7 q8 q9
            clear hR
            obtain ⟨A2, c2, hv2, hown2⟩ := q11
            rw [hv2]
            have hbW := bthen (below_drew _) (grow_below hX2)
            have hJ2 := hJ.below _ _ _ (hJ.below _ _ _ hJs hb1) hbW
            obtain ⟨fn, tmps, assign, bodyC, hy, hR⟩ := hY pre (⟨(y2 : Int), (y3 : Int), A2, k - 4, c2, body⟩, 0) W2 hJ2 ⟨by omega, by2, by3, hown2⟩
            dsimp only [tellsX, Xo.cells] at hy ⊢
            refine ⟨fun _ _ => trivial, ?_⟩
            go_simp
            refine hR.mono ?_
            rintro e W3 h3
            obtain ⟨bv3, rfl, hbt3, hbf3⟩ := yes_no h3
            clear h3 hR hy
            have hbx2 := (hbW.block Bx (heap_lt hbx1)).trans hbx1
            have HRN := Lib.hid (HR.out.below ((hb1.trans (hbW.mono hb1.size)).mono hn0))
            clear hc0 hf0 hc1 hf1 hJs hJ2 hb1 u2 u3 v2 v3 hbx1 hbW hX2 hown2 hv2 HA4 HK4
            cases bv3
            · have hJx3 := hbf3 rfl
              clear hbt3 hbf3
              go_simp
              gi_wp2
              refine bodyPost_ret (results_none rfl _ _ _) rfl ?_
              exact ⟨⟨_, rfl⟩, .inr ⟨_, ⟨pre, _, rfl, fun h => absurd rfl h⟩, hJx3⟩⟩
            · obtain ⟨hJ3, hk3⟩ := hbt3 rfl
              clear hbt3 hbf3
              have hbx3 := hk3.2.trans hbx2
              have hc3 := cell_at hbx3 0
              have hf3 := frozen_at hbx3 0
              have HX3 := Lib.hid hbx3
              have HR3 := Lib.hid (HRN.out.below hk3.1)
              have HJ3 := Lib.hid hJ3
              clear hbx2 hbx3 HRN hJ3 hk3
              go_simp
              gi_wp2
              have hcut := HR3.out.cut (k := k) (cap := c') (by omega) hle
              rw [show (fun x : Addr => x.add (k * 1)) = fun x : Addr => x.add k by funext x; rw [Nat.mul_one], addr_add1, Nat.mul_one] at hcut
              generalize (if c' = k then (some ⟨b, o, none⟩ : Option Addr) else some ⟨b, o + k, none⟩) = A5 at hcut ⊢
              have hset : (W3.setCell ⟨Bx, 0, none⟩ (.slice A5 (m - k) (c' - k))).heap[Bx]? = some (.cells #[.slice A5 (m - k) (c' - k)] 22 (0, 0)) := by
                have := heap_set HX3.out 0 (.slice A5 (m - k) (c' - k))
                simpa using this
              have hsetB : Below n₀ W3 (W3.setCell ⟨Bx, 0, none⟩ (.slice A5 (m - k) (c' - k))) := (Below.refl n₀ W3).setCell (p := ⟨Bx, 0, none⟩) hBn _
              refine ⟨⟨pre ++ [(⟨(y2 : Int), (y3 : Int), A2, k - 4, c2, body⟩, 0)], f, A5, c' - k, rs.drop k, m - k, hJ.set _ _ _ HJ3.out, ?_, by omega, ?_, hset, ?_, by omega, by omega, by simp; omega⟩, ?_⟩
              · rw [HGO.out, HST.out, HOG.out]
                simp [obsOf, Xo.ob]
              · rw [List.length_drop, HRS.out]
              · have := hcut.below hsetB
                rw [show (bv rs).drop k = bv (rs.drop k) by simp only [bv, List.map_drop]] at this
                exact this
              · rw [leftOf_eq (cell_at hset 0), leftOf_eq (cell_at HX.out 0)]
                omega
            try simp only [List.getElem_toArray, List.getElem_cons_succ, List.getElem_cons_zero, Act.put, List.setIfInBounds_toArray, List.set_cons_zero, List.set_cons_succ]
        · have hbt : badG rs = true := by rw [hbad]; simp; omega
          rw [if_pos hbt] at hstep
          have hSp : SpX zs (pre ++ [zeroT 13]) := ⟨pre, zeroT 13, rfl, fun _ => by rw [HGO.out, hstep]; rfl⟩
          clear hstep hbt hbad
          have hcase : k < 4 ∨ (4 ≤ k ∧ m < k) ∨ (4 ≤ k ∧ k ≤ m ∧ k % 4 ≠ 0) := by omega
          rcases hcase with h1 | ⟨h1, h2⟩ | ⟨h1, h2, h3⟩
          · have i1 : (k : Int) < 4 := by omega
            gi_wp2_with (first
              | (refine ⟨trivial, ?_⟩; gi_at_call 28; refine (callsIn_wide.2 HU.out).mono ?_; rintro e w1 ⟨rfl, hb1⟩; have hbx1 := (hb1.block Bx hlt).trans HX.out; have hc1 := cell_at hbx1 0; have hf1 := frozen_at hbx1 0; obtain ⟨fn, tmps, assign, body, hy, hR⟩ := hY pre (zeroT 13) w1 (hJ.below _ _ _ hJs hb1) (TX.zero _ _ _ (by omega) _ _); dsimp only [tellsX, zeroT, Xo.cells] at hy))
            refine hR.mono ?_
            rintro e W3 (⟨rfl, hJ3, hk3⟩ | ⟨rfl, hJx3⟩)
            · have := hg _ _ hJ3 (zeroT 13) (by simp)
              exact absurd this (by decide)
            · gi_wp2
              refine bodyPost_ret (results_none rfl _ _ _) rfl ?_
              exact ⟨⟨_, rfl⟩, .inr ⟨_, hSp, hJx3⟩⟩
          · have i1 : ¬ (k : Int) < 4 := by omega
            have i2 : (m : Int) < (k : Int) := by omega
            gi_wp2_with (first
              | (refine ⟨trivial, ?_⟩; gi_at_call 28; refine (callsIn_wide.2 HU.out).mono ?_; rintro e w1 ⟨rfl, hb1⟩; have hbx1 := (hb1.block Bx hlt).trans HX.out; have hc1 := cell_at hbx1 0; have hf1 := frozen_at hbx1 0; obtain ⟨fn, tmps, assign, body, hy, hR⟩ := hY pre (zeroT 13) w1 (hJ.below _ _ _ hJs hb1) (TX.zero _ _ _ (by omega) _ _); dsimp only [tellsX, zeroT, Xo.cells] at hy))
            refine hR.mono ?_
            rintro e W3 (⟨rfl, hJ3, hk3⟩ | ⟨rfl, hJx3⟩)
            · have := hg _ _ hJ3 (zeroT 13) (by simp)
              exact absurd this (by decide)
            · gi_wp2
              refine bodyPost_ret (results_none rfl _ _ _) rfl ?_
              exact ⟨⟨_, rfl⟩, .inr ⟨_, hSp, hJx3⟩⟩
          · have i1 : ¬ (k : Int) < 4 := by omega
            have i2 : ¬ (m : Int) < (k : Int) := by omega
            have i3 : ((k : Int) % 4 != 0) = true := by simp; omega
            gi_wp2_with (first
              | (refine ⟨trivial, ?_⟩; gi_at_call 28; refine (callsIn_wide.2 HU.out).mono ?_; rintro e w1 ⟨rfl, hb1⟩; have hbx1 := (hb1.block Bx hlt).trans HX.out; have hc1 := cell_at hbx1 0; have hf1 := frozen_at hbx1 0; obtain ⟨fn, tmps, assign, body, hy, hR⟩ := hY pre (zeroT 13) w1 (hJ.below _ _ _ hJs hb1) (TX.zero _ _ _ (by omega) _ _); dsimp only [tellsX, zeroT, Xo.cells] at hy))
            refine hR.mono ?_
            rintro e W3 (⟨rfl, hJ3, hk3⟩ | ⟨rfl, hJx3⟩)
            · have := hg _ _ hJ3 (zeroT 13) (by simp)
              exact absurd this (by decide)
            · gi_wp2
              refine bodyPost_ret (results_none rfl _ _ _) rfl ?_
              exact ⟨⟨_, rfl⟩, .inr ⟨_, hSp, hJx3⟩⟩
theorem each1_endsX (Bx n₀ : Nat) (A : Option Addr) (len cap : Nat) (zs : List UInt8) (hlen : len ≤ 1000000000) (hlc : len ≤ cap) (hcm : cap ≤ maxLen) (n : Nat) (hn : 2 ≤ n) (w : World) (hBx : Bx < w.heap.size)
    (hB : w.heap[Bx]? = some (.cells #[.slice A len cap] 22 (0, 0))) (hBn : n₀ ≤ Bx) (hr : Row w n₀ 1 A len (bv zs)) :
    EndsD Fence.wide n Tryd.prog 75 #[.pointer (some ⟨Bx, 0, none⟩)] tellsX (Keeps1 n₀ Bx) (fun x => x.2 = 0) (TX n₀ len) (SnX zs) (SpX zs) Bx w := fun l J Jx W hW hJ hg hY h0 =>
  each1_in l Bx n₀ A len cap zs hlen hlc hcm n hn J Jx hJ hg hY W ((hW.block Bx hBx).trans hB) hBn (hr.below (hW.mono (by omega))) h0
end Go.Proofs.YtckbleiikldloaaDoor


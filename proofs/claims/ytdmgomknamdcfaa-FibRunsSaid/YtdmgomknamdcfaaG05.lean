/- Texts of this claim put together, in build order: each one's own remark stands ahead of it. -/
import Derived.Test.YtdmgomknamdcfaaG02
import Derived.Test.YtdmgomknamdcfaaG01
import Derived.Lib.SliceRun
import Derived.BigQuiet
import Derived.Deep.QuietTactic
import Derived.Stop.BytesEq
import Derived.Test.YtdmgomknamdcfaaG04
import Derived.Deep.DeepCutAuto
/- A region that draws its order, whose last operation waits for all others: those are walked once, in any order, then it. No condition. -/
namespace Go.Proofs.Ytdmgomknamdcfaa
open Go.RowKit
set_option linter.unusedVariables false
set_option maxRecDepth 20000

/-- what operation i waits for, step by step -/
def closure (ops : Array Oper) : Nat → List Nat → List Nat
 | 0, l => l
 | k + 1, l => closure ops k (l ++ (List.range ops.size).filter fun j => !l.contains j && l.any fun i => waits ops i j)
def lastB (ops : Array Oper) : Bool := (List.range (ops.size - 1)).all fun i => (closure ops ops.size [ops.size - 1]).contains i

section
variable {P : Program} {ops : Array Oper} {R : Nat → Value → World → Prop} {X : World → World → Prop} {a0 : Act} {w0 : World}
theorem closure_listed {listed : Array Bool} (hc : ∀ i, (i = ops.size - 1 ∨ listed.getD i true = true) → i < ops.size → ∀ j, waits ops i j = true → listed.getD j true = true ∧ j < ops.size) :
  ∀ (k : Nat) (l : List Nat), (∀ i ∈ l, i < ops.size ∧ (i = ops.size - 1 ∨ listed.getD i true = true)) → ∀ i ∈ closure ops k l, i < ops.size ∧ (i = ops.size - 1 ∨ listed.getD i true = true) := by
 intro k
 induction k with
 | zero => exact fun l h => h
 | succ k ih =>
  intro l h
  refine ih _ fun i hi => ?_
  rcases List.mem_append.1 hi with hi | hi
  ·exact h i hi
  obtain ⟨h1, h2⟩ := List.mem_filter.1 hi
  simp only [Bool.and_eq_true] at h2
  obtain ⟨x, hx, hw⟩ := List.any_eq_true.1 h2.2
  have := hc x (h x hx).2 (h x hx).1 i hw
  exact ⟨this.2, .inr this.1⟩

theorem wpAny_all {Q : Exit → Act → World → Prop} {n : Nat} (hp : plainB ops n = true) {listed : Array Bool} (hl : listed.size = ops.size) (hall : ∀ i, i < ops.size → listed.getD i true = true) {a : Act} {W : World} (h : Q .normal a W) (fuel : Nat) : wpAny P .any ops Q fuel listed a W := by
 have hr : Region.ready .any ops listed = [] := by
  apply List.eq_nil_iff_forall_not_mem.2
  intro i hi
  obtain ⟨h1, o, ho, _⟩ := mem_ready.1 hi
  rw [hall i (Array.getElem?_eq_some_iff.1 ho).1] at h1
  cases h1
 cases fuel with
 | zero => exact ⟨hr, h⟩
 | succ fuel => exact ⟨fun _ => h, fun i hi => by rw [hr] at hi; cases hi⟩

/-- the steps of all but the last of a list -/
def RelStepsB (P : Program) (ops : Array Oper) (R : Nat → Value → World → Prop) (X : World → World → Prop) (a0 : Act) (w0 : World) : Nat → List Oper → Prop
 | _, [] => True
 | _, [_] => True
 | i, o :: p :: r => RelStep P ops R X a0 w0 i o ∧ RelStepsB P ops R X a0 w0 (i + 1) (p :: r)
theorem relSteps_of : ∀ (l : List Oper) (k : Nat), RelStepsB P ops R X a0 w0 k l → RelSteps P ops R X a0 w0 k (l.take (l.length - 1))
 | [], _, _ => trivial
 | [_], _, _ => trivial
 | o :: p :: r, k, hs => ⟨hs.1, by
  have := relSteps_of (p :: r) (k + 1) hs.2
  simpa using this⟩
theorem wp_region_last_aux {Q : Exit → Act → World → Prop} (m : Nat) (hm : ops.size = m + 1) (hXt : ∀ A B C, X A B → X B C → X A C) (hR : ∀ i v A B, R i v A → X A B → R i v B) (hp : plainB ops a0.tmps.size = true) (hlast : lastB ops = true)
  (hsteps : RelSteps P ops R X a0 w0 0 (ops.toList.take m)) (hpost : ∀ vs W o, ops[m]? = some o → X w0 W → (∀ i, i < m → R i (vs i) W) → o.wp P (putAll vs 0 (ops.toList.take m) a0) W (fun a W' => Q .normal a W') (fun _ _ _ => False))
  (hwant : ∀ vs W o, ops[m]? = some o → X w0 W → (∀ i, i < m → R i (vs i) W) → Region.wanted o (yielded ops (putAll vs 0 (ops.toList.take m) a0).tmps) = true) :
  ∀ (fuel : Nat) (listed : Array Bool) (a : Act) (W : World) (vs : Nat → Value), RelInv ops R X a0 w0 listed a W vs → listed.getD m true = false → ((List.range ops.size).filter fun i => !listed.getD i true).length ≤ fuel → wpAny P .any ops Q fuel listed a W := by
 intro fuel
 induction fuel with
 | zero =>
  intro listed a W vs I hun hlen
  have : m ∈ (List.range ops.size).filter fun i => !listed.getD i true := List.mem_filter.2 ⟨List.mem_range.2 (by omega), by simp only [hun, Bool.not_false]⟩
  have hnil : ((List.range ops.size).filter fun i => !listed.getD i true) = [] := List.eq_nil_of_length_eq_zero (by omega)
  rw [hnil] at this
  cases this
 | succ fuel ih =>
  intro listed a W vs I hunm hlen
  refine ⟨fun h => ?_, fun i hi => ?_⟩
  ·have := listed_all hp I.len h m (by omega)
   rw [hunm] at this
   cases this
  obtain ⟨hun, o, ho, hall⟩ := mem_ready.1 hi
  have hilt : i < ops.size := (Array.getElem?_eq_some_iff.1 ho).1
  have hpre : ∀ j, waits ops i j = true → listed.getD j true = true ∧ j < ops.size := by
   intro j hj
   obtain ⟨e, he, hb, rfl⟩ := waits_of ho hj
   have h1 := hall e he hb
   have hlt := (plain_at hp hilt).2 o ho e he hb
   have hjs : e.on < ops.size := by omega
   refine ⟨?_, hjs⟩
   rw [Array.getD_eq_getD_getElem?] at h1 ⊢
   rw [Array.getElem?_eq_getElem (by rw [I.len]; exact hjs)] at h1 ⊢
   exact h1
  by_cases him : i = m
  ·subst him
   have hothers : ∀ j, j < i → listed.getD j true = true := by
    intro j hj
    have hc := List.all_eq_true.1 hlast j (List.mem_range.2 (by omega))
    have hmem : j ∈ closure ops ops.size [ops.size - 1] := by simpa using hc
    have := closure_listed (listed := listed) (ops := ops) (fun x hx hxs y hy => by
     rcases hx with hx | hx
     ·have : x = i := by omega
      subst this
      exact hpre y hy
     ·exact I.closed x hx hxs y hy) ops.size [ops.size - 1] (fun x hx => by
     simp at hx
     subst hx
     exact ⟨by omega, .inl rfl⟩) j hmem
    rcases this.2 with h | h
    ·omega
    exact h
   have ha : a = putAll vs 0 (ops.toList.take i) a0 := by
    refine act_ext (by rw [putAll_size, I.size]) (by rw [putAll_defers, I.defers]) fun k hk => ?_
    by_cases hw : ∃ j, j < i ∧ dstOf ops j = some k
    ·obtain ⟨j, hj, hd⟩ := hw
     have hjs : j < ops.size := by omega
     rw [(I.vals j (hothers j hj) hjs).2 k hd]
     have hoj : (ops.toList.take i)[j]? = some ops[j] := by rw [List.getElem?_take, if_pos hj]; simp [Array.getElem?_eq_getElem hjs]
     have := putAll_some vs (ops.toList.take i) k 0 a0 j ops[j] hoj (by rw [← dst_bind (Array.getElem?_eq_getElem hjs)]; exact hd) (by rw [← I.size]; exact hk) (fun x y hx hne => by
      rw [List.getElem?_take] at hx
      split at hx
      ·have hx' : ops[x]? = some y := by simpa using hx
       rw [← dst_bind hx']
       exact ((plain_at hp hjs).1 k hd).2 x (Array.getElem?_eq_some_iff.1 hx').1 hne
      cases hx)
     rw [this, Nat.zero_add]
    rw [I.rest k (fun j hl hj hd => by
     rcases Nat.lt_or_ge j i with h | h
     ·exact hw ⟨j, h, hd⟩
     have : j = i := by omega
     subst this
     rw [hun] at hl
     cases hl)]
    refine (putAll_none vs (ops.toList.take i) k 0 a0 fun x hx hd => ?_).symm
    obtain ⟨j, hj⟩ := List.getElem?_of_mem hx
    rw [List.getElem?_take] at hj
    split at hj
    ·rename_i hji
     have hj' : ops[j]? = some x := by simpa using hj
     exact hw ⟨j, hji, by rw [dst_bind hj']; exact hd⟩
    cases hj
   have hRR : ∀ j, j < i → R j (vs j) W := fun j hj => (I.vals j (hothers j hj) (by omega)).1
   have key := hpost vs W o ho I.world hRR
   have hwn := hwant vs W o ho I.world hRR
   rw [← ha] at key hwn
   have next : ∀ a' W', Q .normal a' W' → wpAny P .any ops Q fuel (listed.setIfInBounds i true) a' W' := by
    intro a' W' hq
    refine wpAny_all hp (by rw [Array.size_setIfInBounds, I.len]) (fun j hj => ?_) hq fuel
    by_cases hji : j = i
    ·subst hji
     rw [Array.getD_eq_getD_getElem?, Array.getElem?_setIfInBounds_self_of_lt (by rw [I.len]; exact hj)]
     rfl
    rw [Array.getD_eq_getD_getElem?, Array.getElem?_setIfInBounds_ne (fun e => hji e.symm), ← Array.getD_eq_getD_getElem?]
    exact hothers j (by omega)
   have key2 := Oper.wp_mono next key
   unfold wpOp
   rw [ho]
   simp only
   rw [if_pos hwn]
   exact .inl (upon_calm _ key2)
  have hilm : i < m := by omega
  have hst := relSteps_at (ops.toList.take m) 0 hsteps i o (by rw [List.getElem?_take, if_pos hilm]; simpa using ho)
  rw [Nat.zero_add] at hst
  have key := hst a vs W I.world (fun j hj => (I.vals j (hpre j hj).1 (hpre j hj).2).1) (fun j d hj hd => (I.vals j (hpre j hj).1 (hpre j hj).2).2 d hd)
   (fun k hk => I.rest k fun j hlj hj hd => by
    have := List.all_eq_true.1 hk j (List.mem_range.2 hj)
    simp only [hd, bne_self_eq_false, Bool.false_or, Bool.or_eq_true, beq_iff_eq] at this
    rcases this with h | h
    ·have := (I.closed j hlj hj i h).1
     rw [hun] at this
     cases this
    subst h
    rw [hun] at hlj
    cases hlj)
  have next : ∀ v W', R i v W' → X W W' → wpAny P .any ops Q fuel (listed.setIfInBounds i true) (a.put o.dst v) W' := by
   intro v W' hv hx
   have hils : i < listed.size := by rw [I.len]; exact hilt
   have hget : ∀ j, (listed.setIfInBounds i true).getD j true = if j = i then true else listed.getD j true := by
    intro j
    by_cases hj : j = i
    ·subst hj
     rw [if_pos rfl, Array.getD_eq_getD_getElem?, Array.getElem?_setIfInBounds_self_of_lt hils]
     rfl
    rw [if_neg hj, Array.getD_eq_getD_getElem?, Array.getD_eq_getD_getElem?, Array.getElem?_setIfInBounds_ne (fun e => hj e.symm)]
   have hput : ∀ k, o.dst ≠ some k → (a.put o.dst v).eval (.tmp k) = a.eval (.tmp k) := fun k hk => Act.eval_put fun d hd e => by injection e with e; exact hk (by rw [hd, e])
   refine ih _ _ _ (fun j => if j = i then v else vs j) ?_ (by rw [hget, if_neg (by omega)]; exact hunm) ?_
   ·refine ⟨hXt _ _ _ I.world hx, ?_, ?_, by rw [Array.size_setIfInBounds, I.len], ?_, ?_, ?_⟩
    ·rw [← I.size]; cases h : o.dst <;> simp [Act.put]
    ·rw [← I.defers]; cases h : o.dst <;> simp [Act.put]
    ·intro j hj hjs
     rw [hget] at hj
     by_cases hji : j = i
     ·subst hji
      simp only [if_true]
      refine ⟨hv, fun d hd => ?_⟩
      rw [dst_bind ho] at hd
      have hdl : d < a.tmps.size := by rw [I.size]; exact ((plain_at hp hjs).1 d (by rw [dst_bind ho]; exact hd)).1
      simp [Act.put, hd, Act.eval, hdl]
     rw [if_neg hji] at hj
     simp only [if_neg hji]
     obtain ⟨h1, h2⟩ := I.vals j hj hjs
     refine ⟨hR _ _ _ _ h1 hx, fun d hd => ?_⟩
     rw [hput d (fun e => ((plain_at hp hjs).1 d hd).2 i hilt (fun e => hji e.symm) (by rw [dst_bind ho]; exact e))]
     exact h2 d hd
    ·intro k hk
     have hki : o.dst ≠ some k := by
      have := hk i (by rw [hget, if_pos rfl]) hilt
      rwa [dst_bind ho] at this
     rw [hput k hki]
     exact I.rest k fun j hj hjs => hk j (by rw [hget]; split <;> first | rfl | exact hj) hjs
    intro j hj hjs k hk
    have hkk : listed.getD k true = true ∧ k < ops.size := by
     rw [hget] at hj
     by_cases hji : j = i
     ·subst hji
      exact hpre k hk
     rw [if_neg hji] at hj
     exact I.closed j hj hjs k hk
    exact ⟨by rw [hget]; split <;> first | rfl | exact hkk.1, hkk.2⟩
   have hsub : ((List.range ops.size).filter fun j => !(listed.setIfInBounds i true).getD j true) = (((List.range ops.size).filter fun j => !listed.getD j true).filter fun j => !decide (j = i)) := by
    rw [List.filter_filter]
    apply List.filter_congr
    intro j _
    rw [hget]
    by_cases hji : j = i
    ·simp [hji]
    simp [hji]
   rw [hsub]
   have hmem : i ∈ (List.range ops.size).filter fun j => !listed.getD j true := List.mem_filter.2 ⟨List.mem_range.2 hilt, by simp only [hun, Bool.not_false]⟩
   have := List.length_filter_lt_length_iff_exists (p := fun j => !decide (j = i)) |>.2 ⟨i, hmem, by simp⟩
   omega
  have key2 := key (wpAny P .any ops Q fuel (listed.setIfInBounds i true)) next
  unfold wpOp
  rw [ho]
  simp only
  by_cases hw : Region.wanted o (yielded ops a.tmps) = true
  ·rw [if_pos hw] at key2 ⊢
   exact .inl (upon_calm _ key2)
  rw [if_neg hw] at key2 ⊢
  exact key2

/-- the law -/
theorem wp_region_last {id : Nat} {Q : Exit → Act → World → Prop} {w : World} (m : Nat) (X : World → World → Prop) (hXr : ∀ A, X A A) (hXt : ∀ A B C, X A B → X B C → X A C) (R : Nat → Value → World → Prop) (hR : ∀ i v A B, R i v A → X A B → R i v B)
  (hf : P.follows .mixedOrders = true) (hp : plainB ops a0.tmps.size = true) (hm : ops.size = m + 1) (hlast : lastB ops = true) (ol : Oper) (hol : ops[m]? = some ol) (hg : ol.guard = none) (hsteps : RelStepsB P ops R X a0 w.drew 0 ops.toList)
  (hpost : ∀ vs W, X w.drew W → (∀ i, i < m → R i (vs i) W) → ol.wp P (putAll vs 0 (ops.toList.take m) a0) W (fun a W' => Q .normal a W') (fun _ _ _ => False)) : (Code.region id ops true).wp P Q a0 w := by
 refine wp_region_any hf (wp_region_last_aux m hm hXt hR hp hlast (by have := relSteps_of ops.toList 0 hsteps; rwa [show ops.toList.length - 1 = m by simp [hm]] at this) (fun vs W o ho hx hr => ?_) (fun vs W o ho hx hr => ?_) ops.size (Array.replicate ops.size false) a0 w.drew (fun _ => undef) ?_ ?_ ?_)
 ·rw [hol] at ho
  injection ho with ho
  subst ho
  exact hpost vs W hx hr
 ·rw [hol] at ho
  injection ho with ho
  subst ho
  exact wanted_none hg
 ·have hno : ∀ j, (Array.replicate ops.size false).getD j true = true → j < ops.size → False := by
   intro j h hj
   rw [Array.getD_eq_getD_getElem?, Array.getElem?_replicate, if_pos hj] at h
   cases h
  exact ⟨hXr _, rfl, rfl, by simp, fun j h hj => (hno j h hj).elim, fun k _ => rfl, fun j h hj => (hno j h hj).elim⟩
 ·rw [Array.getD_eq_getD_getElem?, Array.getElem?_replicate, if_pos (by omega)]
  rfl
 refine Nat.le_trans (List.length_filter_le _ _) (by simp)
end
end Go.Proofs.Ytdmgomknamdcfaa

/- What the program's bytes-and-numbers functions (octet.Cut, octet.Get, octet.Put, slices.Clone) compute. No condition but sizes. -/
namespace Go.Proofs.Ytdmgomknamdcfaa
open Go.RowKit
set_option linter.unusedVariables false
set_option maxRecDepth 20000

/-- the bytes are there -/
def There (n : Nat) (i s : Int) : Prop := 0 ≤ i ∧ 0 ≤ s ∧ i ≤ n ∧ s ≤ n - i
instance (n : Nat) (i s : Int) : Decidable (There n i s) := by unfold There; infer_instance

/-- bytes as a number, the highest one first -/
def be (l : List UInt8) : Nat := l.foldl (fun n u => n * 256 + u.toNat) 0
end Go.Proofs.Ytdmgomknamdcfaa

/- What the reference's functions on bytes (footplateref01) compute. No condition but sizes. -/
namespace Go.Proofs.Ytdmgomknamdcfaa
open Go.RowKit
set_option linter.unusedVariables false
set_option maxRecDepth 20000

/-- a digit of 16; below 0: none -/
def digitF (c : Nat) : Int := if 48 ≤ c ∧ c ≤ 57 then c - 48 else if 97 ≤ c ∧ c ≤ 102 then c - 87 else if 65 ≤ c ∧ c ≤ 70 then c - 55 else -1

/-- the digits of L tell the bytes of R -/
def Tells (L R : List UInt8) : Prop := L.length = 2 * R.length ∧ ∀ k, k < R.length → 0 ≤ digitF (L.getD (2 * k) 0).toNat ∧ 0 ≤ digitF (L.getD (2 * k + 1) 0).toNat ∧ 16 * digitF (L.getD (2 * k) 0).toNat + digitF (L.getD (2 * k + 1) 0).toNat = ((R.getD k 0).toNat : Int)
instance (L R : List UInt8) : Decidable (Tells L R) := by unfold Tells; infer_instance
end Go.Proofs.Ytdmgomknamdcfaa

/- Small lemmas that the texts on packets share: structs compared, numbers at a place, pieces of strings. No condition. -/
namespace Go.Proofs.Ytdmgomknamdcfaa
open Go.RowKit
set_option linter.unusedVariables false
set_option maxRecDepth 20000
set_option linter.unusedSimpArgs false

section
variable {P : Program} {w : World}
theorem eqF_nil {xs ys : Array Value} {d : Nat} : (Op.eqFields d xs ys []).run P w = .ok true w := rfl
theorem part_one {t : TypeId} {cs : List Value} {off : Nat} {v : Value} (ha : (isAgg t).run P w = .ok false w) (h : cs[off]? = some v) : (part t cs.toArray off).run P w = .ok v w := by
 unfold part
 simp only [Sem.run_bind, ha, Result.andThen_ok, Bool.false_eq_true, if_false, List.getElem?_toArray, h, Sem.run_pure]
theorem part_arr {t : TypeId} {cs : List Value} {off n : Nat} (ha : (isAgg t).run P w = .ok true w) (hs : (sizeOf t).run P w = .ok n w) : (part t cs.toArray off).run P w = .ok (.agg ((cs.drop off).take n).toArray) w := by
 unfold part
 simp only [Sem.run_bind, ha, Result.andThen_ok, if_true, hs, Sem.run_pure]
 congr 2
 apply Array.ext'
 simp [List.extract_eq_take_drop]
end

theorem below_drew (w : World) : Below w.heap.size w w.drew := below_drewN (Below.refl _ _) 1
theorem bgrown {B : Nat} {w0 w w' : World} {g : Nat} (h : Below B w0 w) (hg : w.grownBy w' (some g)) (hB : B ≤ w.heap.size) (hb : B ≤ g) : Below B w0 w' := h.grown hg hB (fun k hk => by injection hk with hk; omega)
end Go.Proofs.Ytdmgomknamdcfaa

/- What the small functions of prefixes (layers 8) compute: most, Bit. No condition. -/
namespace Go.Proofs.Ytdmgomknamdcfaa
open Go.RowKit
set_option linter.unusedVariables false
set_option maxRecDepth 20000
set_option linter.unusedSimpArgs false

def Px.cells (p : Px) : List Value := .bool p.six :: (bv p.addr ++ [.int .i64 p.len])
/-- an address's bit, as a number -/
def bitI (a : List UInt8) (i : Int) : Int := if 0 ≤ i ∧ i < 128 then (if bitF a i.toNat then 1 else 0) else 0

set_option maxHeartbeats 1000000 in
theorem most_any (b : Bool) (w : World) : Calls Try.prog 59 #[.bool b] w fun e w' => e = .returned (.int .i64 (mostF b : Nat)) ∧ w = w' := by
 cases b
 all_goals
  go_enter Try.func59, Try.ntmps59
  go_wp2
  go_ret
  exact ⟨rfl, rfl⟩
set_option maxHeartbeats 1000000 in
theorem rmost_any (b : Bool) (w : World) : Calls Try.prog 32 #[.bool b] w fun e w' => e = .returned (.int .i64 (mostF b : Nat)) ∧ w = w' := by
 cases b
 all_goals
  go_enter Try.func32, Try.ntmps32
  go_wp2
  go_ret
  exact ⟨rfl, rfl⟩
theorem i64_andN (a b : Nat) (ha : a < 9223372036854775808) (hb : b < 9223372036854775808) : bits .and .i64 (a : Int) (b : Int) = ((a &&& b : Nat) : Int) := by
 have h1 : (BitVec.ofInt 64 (a : Int)).toNat = a := by rw [BitVec.toNat_ofInt]; omega
 have h2 : (BitVec.ofInt 64 (b : Int)).toNat = b := by rw [BitVec.toNat_ofInt]; omega
 have h3 : a &&& b ≤ a := Nat.and_le_left
 show IntKind.i64.wrap ((BitVec.ofInt 64 (a : Int) &&& BitVec.ofInt 64 (b : Int)).toNat : Nat) = _
 rw [BitVec.toNat_and, h1, h2, IntKind.wrap_i64]
 omega
theorem div_pow_cast (u s : Nat) : ((u : Int) / 2 ^ s) = ((u / 2 ^ s : Nat) : Int) := by
 rw [Int.natCast_ediv, Int.natCast_pow]
 rfl
theorem shr_and (u s : Nat) (h : u < 256) : bits .and .i64 (wrap64 ((u : Int) / 2 ^ s)) 1 = ((u / 2 ^ s % 2 : Nat) : Int) := by
 have h1 : u / 2 ^ s ≤ u := Nat.div_le_self _ _
 rw [div_pow_cast]
 generalize u / 2 ^ s = q at *
 rw [wI _ (by omega) (by omega), show (1 : Int) = ((1 : Nat) : Int) from rfl, i64_andN _ _ (by omega) (by omega), Nat.and_one_is_mod]
theorem shr_and2 (u s : Nat) (h : u < 256) : bits .and .i64 ((u : Int) / 2 ^ s) 1 = ((u / 2 ^ s % 2 : Nat) : Int) := by
 have h1 : u / 2 ^ s ≤ u := Nat.div_le_self _ _
 rw [div_pow_cast]
 generalize u / 2 ^ s = q at *
 rw [show (1 : Int) = ((1 : Nat) : Int) from rfl, i64_andN _ _ (by omega) (by omega), Nat.and_one_is_mod]

set_option maxHeartbeats 1000000 in
theorem bit_any (a : List UInt8) (ha : a.length = 16) (i : Int) (h0 : -9223372036854775808 ≤ i) (h1 : i ≤ 9223372036854775807) (w : World) :
  Calls Try.prog 57 #[.agg (bv a).toArray, .int .i64 i] w fun e w' => e = .returned (.int .i64 (bitI a i)) ∧ Below w.heap.size w w' := by
 by_cases hlo : i < 0
 ·have HV := Hh (show bitI a i = 0 by unfold bitI; rw [if_neg (by omega)])
  go_enter Try.func57, Try.ntmps57
  go_upto_region 1 with (refine wpList_box_blk (by rfl) 23 (.tmp 0) rfl (bv a) rfl ?_; intro w1 hb1 hB1 hs1)
  have HW := Hh hB1
  clear hb1 hB1 hs1
  go_wp2
  go_ret
  exact ⟨by rw [HV.out]; rfl, HW.out⟩
 by_cases hhi : 128 ≤ i
 ·have HV := Hh (show bitI a i = 0 by unfold bitI; rw [if_neg (by omega)])
  go_enter Try.func57, Try.ntmps57
  go_upto_region 1 with (refine wpList_box_blk (by rfl) 23 (.tmp 0) rfl (bv a) rfl ?_; intro w1 hb1 hB1 hs1)
  have HW := Hh hB1
  clear hb1 hB1 hs1
  go_wp2
  go_ret
  exact ⟨by rw [HV.out]; rfl, HW.out⟩
 obtain ⟨k, rfl⟩ := Int.eq_ofNat_of_zero_le (show 0 ≤ i by omega)
 obtain ⟨j, hj⟩ : ∃ j, j = k / 8 := ⟨_, rfl⟩
 obtain ⟨s, hs⟩ : ∃ s, s = 7 - k % 8 := ⟨_, rfl⟩
 have hj16 : j < 16 := by omega
 obtain ⟨u, hu⟩ := get_ex a (k := j) (by omega)
 have hv : bitI a (k : Int) = ((u.toNat / 2 ^ s % 2 : Nat) : Int) := by
  unfold bitI
  rw [if_pos ⟨by omega, by omega⟩, Int.toNat_natCast, bitF_eq a k (by omega), ← hj, ← hs, List.getD_eq_getElem?_getD, hu]
  show (if (u.toNat / 2 ^ s % 2 == 1) = true then (1 : Int) else 0) = _
  have : u.toNat / 2 ^ s % 2 = 0 ∨ u.toNat / 2 ^ s % 2 = 1 := by omega
  rcases this with e | e <;> rw [e] <;> rfl
 have HV := Hh hv
 have hk8 : (k : Int) / 8 = (j : Int) := by omega
 have hks : 7 - (k : Int) % 8 = (s : Int) := by omega
 have hji : (j : Int) < 16 := by omega
 have HU := Hh (bv_get a j u hu)
 have hub := u.toNat_lt
 have HSA := Hh (shr_and u.toNat s hub)
 clear hv hj hs hu
 go_enter Try.func57, Try.ntmps57
 go_upto_region 1 with (refine wpList_box_blk (by rfl) 23 (.tmp 0) rfl (bv a) rfl ?_; intro w1 hb1 hB1 hs1)
 have HW := Hh hB1
 have hc : w1.cell? ⟨w.heap.size, j, none⟩ = some (.int .u8 (u.toNat : Int)) := (hb1.cell j).trans HU.out
 clear hb1 hB1 hs1
 go_wp2
 go_ret
 exact ⟨ret_int (by rw [HSA.out, HV.out]), HW.out⟩
set_option maxHeartbeats 1000000 in
theorem rbit_any (a : List UInt8) (ha : a.length = 16) (i : Int) (h0 : -9223372036854775808 ≤ i) (h1 : i ≤ 9223372036854775807) (w : World) :
  Calls Try.prog 33 #[.agg (bv a).toArray, .int .i64 i] w fun e w' => e = .returned (.int .i64 (bitI a i)) ∧ Below w.heap.size w w' := by
 by_cases hlo : i < 0
 ·have HV := Hh (show bitI a i = 0 by unfold bitI; rw [if_neg (by omega)])
  go_enter Try.func33, Try.ntmps33
  go_upto_region 1 with (refine wpList_box_blk (by rfl) 23 (.tmp 0) rfl (bv a) rfl ?_; intro w1 hb1 hB1 hs1)
  have HW := Hh hB1
  clear hb1 hB1 hs1
  go_wp2
  go_ret
  exact ⟨by rw [HV.out]; rfl, HW.out⟩
 by_cases hhi : 128 ≤ i
 ·have HV := Hh (show bitI a i = 0 by unfold bitI; rw [if_neg (by omega)])
  go_enter Try.func33, Try.ntmps33
  go_upto_region 1 with (refine wpList_box_blk (by rfl) 23 (.tmp 0) rfl (bv a) rfl ?_; intro w1 hb1 hB1 hs1)
  have HW := Hh hB1
  clear hb1 hB1 hs1
  go_wp2
  go_ret
  exact ⟨by rw [HV.out]; rfl, HW.out⟩
 obtain ⟨k, rfl⟩ := Int.eq_ofNat_of_zero_le (show 0 ≤ i by omega)
 obtain ⟨j, hj⟩ : ∃ j, j = k / 8 := ⟨_, rfl⟩
 obtain ⟨s, hs⟩ : ∃ s, s = 7 - k % 8 := ⟨_, rfl⟩
 have hj16 : j < 16 := by omega
 obtain ⟨u, hu⟩ := get_ex a (k := j) (by omega)
 have hv : bitI a (k : Int) = ((u.toNat / 2 ^ s % 2 : Nat) : Int) := by
  unfold bitI
  rw [if_pos ⟨by omega, by omega⟩, Int.toNat_natCast, bitF_eq a k (by omega), ← hj, ← hs, List.getD_eq_getElem?_getD, hu]
  show (if (u.toNat / 2 ^ s % 2 == 1) = true then (1 : Int) else 0) = _
  have : u.toNat / 2 ^ s % 2 = 0 ∨ u.toNat / 2 ^ s % 2 = 1 := by omega
  rcases this with e | e <;> rw [e] <;> rfl
 have HV := Hh hv
 have hw1 : IntKind.u64.wrap (s : Int) = (s : Int) := by rw [IntKind.wrap_u64]; omega
 have hk8 : (k : Int) / 8 = (j : Int) := by omega
 have hks : 7 - (k : Int) % 8 = (s : Int) := by omega
 have hji : (j : Int) < 16 := by omega
 have HU := Hh (bv_get a j u hu)
 have hub := u.toNat_lt
 have HSA := Hh (shr_and2 u.toNat s hub)
 clear hv hj hs hu
 go_enter Try.func33, Try.ntmps33
 go_upto_region 1 with (refine wpList_box_blk (by rfl) 23 (.tmp 0) rfl (bv a) rfl ?_; intro w1 hb1 hB1 hs1)
 have HW := Hh hB1
 have hc : w1.cell? ⟨w.heap.size, j, none⟩ = some (.int .u8 (u.toNat : Int)) := (hb1.cell j).trans HU.out
 clear hb1 hB1 hs1
 go_wp2
 go_ret
 exact ⟨ret_int (by rw [HSA.out, HV.out]), HW.out⟩
end Go.Proofs.Ytdmgomknamdcfaa

/- What prefix.first (layer 8) computes. No condition. -/
namespace Go.Proofs.Ytdmgomknamdcfaa
open Go.RowKit
set_option linter.unusedVariables false
set_option maxRecDepth 20000
set_option linter.unusedSimpArgs false

/-- the mask of a byte's first bits -/
def keepN (L : Nat) : Nat := 65280 / 2 ^ L % 256
theorem keepN_lt (L : Nat) : keepN L < 256 := Nat.mod_lt _ (by decide)
set_option maxRecDepth 100000 in
theorem keep_all : ∀ L, L < 9 → ∀ u, u < 256 → u &&& keepN L = maskN u L := by
 unfold keepN maskN
 decide +kernel
theorem and_keep (u L : Nat) (hu : u < 256) (hL : L ≤ 8) : bits .and .u8 (u : Int) ((keepN L : Nat) : Int) = ((maskN u L : Nat) : Int) := by
 rw [u8_and_nat _ _ hu (keepN_lt L), keep_all L (by omega) u hu]
set_option maxHeartbeats 1000000 in
theorem keep_any (g B i : Nat) (hB : B ≤ 9223372036854775807) (hi : i < 16) (w : World) (hc : w.cell? ⟨g, 0, none⟩ = some (.int .i64 (B : Int))) :
  Calls Try.prog 73 #[.int .i64 (i : Int), .pointer (some ⟨g, 0, none⟩)] w fun e w' => e = .returned (.int .u8 (keepN (min (B - 8 * i) 8) : Nat)) ∧ w = w' := by
 by_cases h1 : B < 8 * i
 ·have HV := Hh (show keepN (min (B - 8 * i) 8) = 0 by rw [show min (B - 8 * i) 8 = 0 by omega]; rfl)
  have f1 : (B : Int) - 8 * (i : Int) < 0 := by omega
  go_enter Try.func73, Try.ntmps73
  go_wp2
  go_ret
  exact ⟨ret_int (by rw [HV.out]; rfl), rfl⟩
 have f1 : ¬ (B : Int) - 8 * (i : Int) < 0 := by omega
 by_cases h2 : B - 8 * i ≤ 8
 ·obtain ⟨L, hL⟩ : ∃ L, B - 8 * i = L := ⟨_, rfl⟩
  have HV := Hh (show keepN (min (B - 8 * i) 8) = 65280 / 2 ^ L % 256 by rw [hL, show min L 8 = L by omega]; rfl)
  have f3 : (B : Int) - 8 * (i : Int) = (L : Int) := by omega
  have f4 : ¬ (8 : Int) < (L : Int) := by omega
  have f5 : (L : Int) ≤ 8 := by omega
  have HP := Hh (show ((65280 : Int) / 2 ^ L % 256) = ((65280 / 2 ^ L % 256 : Nat) : Int) by rw [show (65280 : Int) = ((65280 : Nat) : Int) from rfl, div_pow_cast]; omega)
  clear hL h2 f1
  go_enter Try.func73, Try.ntmps73
  go_wp2
  all_goals
   go_ret
   exact ⟨ret_int (by rw [HV.out, ← HP.out]), rfl⟩
 have HV := Hh (show keepN (min (B - 8 * i) 8) = 255 by rw [show min (B - 8 * i) 8 = 8 by omega]; rfl)
 have f2 : (8 : Int) < (B : Int) - 8 * (i : Int) := by omega
 have f6 : ¬ (B : Int) - 8 * (i : Int) ≤ 8 := by omega
 go_enter Try.func73, Try.ntmps73
 go_wp2
 go_ret
 exact ⟨ret_int (by rw [HV.out]; rfl), rfl⟩
end Go.Proofs.Ytdmgomknamdcfaa


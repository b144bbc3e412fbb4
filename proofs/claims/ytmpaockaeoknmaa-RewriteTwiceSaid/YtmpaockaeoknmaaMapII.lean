/- Maps from numbers to numbers that a call lays itself: what they hold as a list of pairs. No condition. -/
import Derived.Test.YtmpaockaeoknmaaBase
import Derived.Maps.OwnOps
import Derived.Maps.OwnSet
namespace Go.Proofs.Ytmpaockaeoknmaa
open Go.RowKit Go.Maps
set_option linter.unusedVariables false
set_option maxRecDepth 20000

/-- a map's datum, by the pairs that were put, the last one first -/
def mapOf (q r : IntKind) : List (Int × Int) → DataW Unit
  | [] => .map []
  | (k, v) :: l => (mapOf q r l).put (.int q k) (.lit (.int r v))
/-- what the last pair with a key has -/
def pairAt (l : List (Int × Int)) (n : Int) : Option Int := (l.find? fun p => p.1 == n).map (·.2)
theorem pairAt_nil (n : Int) : pairAt [] n = none := rfl
theorem pairAt_cons (k v : Int) (l : List (Int × Int)) (n : Int) : pairAt ((k, v) :: l) n = if k = n then some v else pairAt l n := by
  unfold pairAt
  rw [List.find?_cons]
  by_cases h : k = n
  · simp [h]
  · have : (k == n) = false := by simpa using h
    simp [h, this]
theorem isMap_mapOf (q r : IntKind) (l : List (Int × Int)) : IsMap (mapOf q r l) := by
  induction l with
  | nil => exact isMap_empty
  | cons p l ih => exact ih.put _ _
theorem keyLit_int (q : IntKind) (k : Int) : WideAt.IsKeyLit (.int q k) := by simp [WideAt.IsKeyLit]
theorem mapOf_at (q r : IntKind) (l : List (Int × Int)) (n : Int) (z : DataW Unit) : (mapOf q r l).atKey (.int q n) z = match pairAt l n with | some v => .lit (.int r v) | none => z := by
  induction l with
  | nil => rfl
  | cons p l ih =>
    obtain ⟨k, v⟩ := p
    rw [pairAt_cons]
    show ((mapOf q r l).put (.int q k) (.lit (.int r v))).atKey (.int q n) z = _
    by_cases h : k = n
    · subst h
      rw [if_pos rfl, atKey_put_same (isMap_mapOf q r l) (keyLit_int q k)]
    · rw [if_neg h, atKey_put_other (by intro e; injection e with _ e; exact h e.symm), ih]
theorem mapOf_has (q r : IntKind) (l : List (Int × Int)) (n : Int) : Maps.has (mapOf q r l) (.int q n) = (pairAt l n).isSome := by
  induction l with
  | nil => rfl
  | cons p l ih =>
    obtain ⟨k, v⟩ := p
    rw [pairAt_cons]
    show Maps.has ((mapOf q r l).put (.int q k) (.lit (.int r v))) (.int q n) = _
    by_cases h : k = n
    · subst h
      rw [if_pos rfl, has_put_same (isMap_mapOf q r l) (keyLit_int q k)]
      rfl
    · rw [if_neg h, has_put_other (by intro e; injection e with _ e; exact h e.symm), ih]

section
variable {P : Program} (w : World) {ops : Array Oper} {rest : List Oper} {o : Oper} {a : Act} {Q : Exit → Act → World → Prop}
theorem wpList_insert_own {H : Type} (hg : o.guard = none) (m x v : Operand) (t : TypeId) (hop : o.op = Op.insert t m x v)
    (k e : TypeId) (K : Keyed P k) (ht : P.underlying t = some (.map k e)) (R : Value → Option (DataW H × List MemPlace)) (b n : Nat) (D : DataW H)
    (hm : a.eval m = .map (some b)) (hown : w.ownsMap P k R b n D) (hn : n < maxLen) (key val : Value) (kl : Lit) (hx : a.eval x = key) (hv : a.eval v = val) (hkey : keyOf P k key = some kl)
    (d : DataW H) (ps : List MemPlace) (hval : R val = some (d, ps))
    (hK : ∀ w', w'.ownsMap P k R b (n + 1) (D.put kl d) → w.grownBy w' (some b) → wpList P ops Q rest (a.put o.dst undef) w') :
    wpList P ops Q (o :: rest) a w := by
  refine wpList_plain hg fun K' hK' => ?_
  obtain ⟨w', hrun, r1, r2⟩ := hown.update K ht hn hkey hval
  unfold Oper.wp
  simp [execOp, hop, hm, hx, hv, hrun, Result.andThen]
  exact hK' _ _ (hK w' r1 r2)
/-- a lookup with its 'ok': what the pairs have -/
theorem wpList_lookup_pairs (hg : o.guard = none) (m x : Operand) (t : TypeId) (hop : o.op = Op.lookup t m x true)
    (k e : TypeId) (q r : IntKind) (K : Keyed P k) (ht : P.underlying t = some (.map k e)) (he : P.underlying e = some (.int r)) (hz : (zeroValue e).run P w = .ok (.int r 0) w) (b n : Nat) (l : List (Int × Int))
    (hm : a.eval m = .map (some b)) (hown : w.ownsMap P k (plainElem P e) b n (mapOf q r l)) (i : Int) (hx : a.eval x = .int q i) (hkey : keyOf P k (.int q i) = some (.int q i))
    (hK : wpList P ops Q rest (a.put o.dst (.tuple #[.int r ((pairAt l i).getD 0), .bool (pairAt l i).isSome])) w) :
    wpList P ops Q (o :: rest) a w := by
  refine wpList_lookup_own_ok_int w hg m x t hop k e r K ht he hz b n (mapOf q r l) hm hown (.int q i) (.int q i) hx hkey ?_
  intro c hc _
  rw [mapOf_has]
  rw [mapOf_at] at hc
  have : c = (pairAt l i).getD 0 := by
    cases h : pairAt l i with
    | none => rw [h] at hc; injection hc with hc; injection hc with _ hc; exact hc.symm
    | some v => rw [h] at hc; injection hc with hc; injection hc with _ hc; exact hc.symm
  rw [this]
  exact hK
end
end Go.Proofs.Ytmpaockaeoknmaa

/- of two stacks, one on top of the other, the lower one's bytes stand behind -/
import Derived.Test.YtfcnohhcgbebdaaLaw03e
import Derived.Test.YtfcnohhcgbebdaaOpen
import Derived.Test.YtfcnohhcgbebdaaOpenSize
namespace Go.Proofs.Ytfcnohhcgbebdaa.entryJoinsFrame
open Go.ChangeShapes Go.WideShapes Go.ChangeAt Go.RowKit
set_option linter.unusedVariables false
theorem own : ownKnob Try.prog.godebug = none := by kernel_rfl
theorem laidOut : laidOutB Try.prog = true := by kernel_rfl
set_option maxRecDepth 100000 in
theorem lifted (os : Os) (started : os.Started) (H : Type) (enc : TypeId × Value → H) :
    ReturnsInHanded {} Try.checked os 7 .any (Rows.entryJoinsSpec.pre6 enc Try.prog Try.f7 Rows.entryJoinsRow.domain false) (Rows.entryJoinsSpec.post enc Try.prog Try.f7 false true false false) := by
  have key := returnsInHanded_of_change_and (enc := enc) (C := Try.checked) (s := Rows.entryJoinsSpec) (conds := Rows.entryJoinsRow.domain) (apart := false) (fresh := true) (handsOn := false) (again := false) (X := fun _ _ => True) (fun _ _ _ _ h => h) own started (by kernel_rfl) Try.func7
    (by
      obtain ⟨w0, t0, i0, a1, a2, a3, a4, a5, a6⟩ := ChangeSpec.witness6 (enc := enc) (C := Try.checked) false ⟨#[], #[.slice none 0 0, .slice none 0 0], []⟩ 8 (by kernel_rfl) (by kernel_rfl) (by kernel_rfl) (by kernel_rfl)
      exact ⟨w0, t0, i0, a1, a2, a3, a4, ⟨⟨a5.1, trivial⟩, a5.2⟩, a6⟩) ?_
  · simp only [and_true] at key
    exact key
  intro W base args ds gs before hval0 hW hcnd hsz _ _
  have hval : ∀ (j : Nat) t v, Try.f7.params[j]? = some t → args[j]? = some v → Value.okWide Try.prog W .any base t v := hval0
  have hW' := hW
  obtain ⟨p, q, hA0, hV, rfl, hfz, hnd⟩ := hW
  have hA : DataW.TrodAll enc Try.prog W 0 (fun _ => true) true Try.f7.params.toList args.toList ds p := hA0
  rw [Try.params7] at hA hval
  obtain ⟨v0, vs0, d0, ds0, p0, q0, hargs, rfl, rfl, h0, r0⟩ := trodAll_cons hA
  obtain ⟨v1, vs1, d1, ds1, p1, q1, rfl, rfl, rfl, h1, r1⟩ := trodAll_cons r0
  obtain ⟨rfl, rfl, rfl⟩ := trodAll_nil r1
  obtain rfl : args = #[v0, v1] := by cases args; simp_all
  obtain ⟨rfl, rfl⟩ := trodVars_none hV
  have k0 := h0
  have lt0 : ∀ x ∈ p0, x.block < W.heap.size := by obtain ⟨m, hm⟩ := k0; exact DataW.trod_lt m _ _ _ hm
  have k1 := h1
  have lt1 : ∀ x ∈ p1, x.block < W.heap.size := by obtain ⟨m, hm⟩ := k1; exact DataW.trod_lt m _ _ _ hm
  obtain ⟨A0, n0, c0, l0, rfl, w0, u0, x0, y0⟩ := open_ents (hval 0 34 v0 rfl rfl) h0
  obtain ⟨A1, n1, c1, l1, rfl, w1, u1, x1, y1⟩ := open_ents (hval 1 34 v1 rfl rfl) h1
  have hz : n0 ≤ 1099511627776000 ∧ n1 ≤ 1099511627776000 := by
    rw [Try.params7] at hsz
    simp only [List.cons_append, List.nil_append, DataW.weightsEach, List.all_append, Bool.and_eq_true] at hsz
    exact ⟨ents_size h0 hsz.1, ents_size h1 hsz.2.1⟩
  clear hA0 hval0
  refine (walk_EntryJoins  W A0 n0 c0 l0 w0 u0 x0 y0 A1 n1 c1 l1 w1 u1 x1 y1 hz.1 hz.2).mono fun e W' ⟨he, bel⟩ => ?_
  subst he
  exact ⟨_, rfl, _, _, _, [], _, [], hW', trodAll_mk1 (shut_bool Try.underlying4 _), (trodAll_cons_mk (Below.trod laidOut (by kernel_rfl) (of_decide_eq_true (by kernel_rfl)) k0 bel lt0) (trodAll_cons_mk (Below.trod laidOut (by kernel_rfl) (of_decide_eq_true (by kernel_rfl)) k1 bel lt1) trodAll_mk0)), rfl, bel.frame _, fun h => by cases h⟩

theorem over : Rows.entryJoinsRow.holds Try.pinned (OpenSpec.ofChange Rows.entryJoinsSpec) :=
  OpenClaim.holds_of_wide 7 Try.f7 rfl rfl rfl rfl rfl rfl rfl ⟨rfl, rfl, rfl, rfl, rfl⟩ rfl rfl rfl rfl rfl (by kernel_rfl) Try.func7 (by kernel_rfl)
    (of_decide_eq_true (by kernel_rfl)) (by unfold Func.isWrapper; first | (rw [if_pos (by decide +kernel)]; kernel_rfl) | (rw [if_neg (by decide +kernel)]; exact ⟨rfl, rfl⟩))
    (fun os started H enc _ => lifted os started H enc)
/-- the statement -/
theorem proved : Rows.EntryJoinsSaid := over
#print axioms proved
end Go.Proofs.Ytfcnohhcgbebdaa.entryJoinsFrame

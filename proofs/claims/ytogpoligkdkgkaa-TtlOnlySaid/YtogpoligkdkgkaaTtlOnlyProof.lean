/- time only goes on -/
import Derived.Test.YtogpoligkdkgkaaLaw19b
import Derived.Test.YtogpoligkdkgkaaOpen
namespace Go.Proofs.Ytogpoligkdkgkaa.ttlOnlyFrame
open Go.ChangeShapes Go.WideShapes Go.ChangeAt Go.RowKit
set_option linter.unusedVariables false
theorem own : ownKnob Try.prog.godebug = none := by kernel_rfl
theorem laidOut : laidOutB Try.prog = true := by kernel_rfl
set_option maxRecDepth 100000 in
theorem lifted (os : Os) (started : os.Started) (H : Type) (enc : TypeId × Value → H) :
    ReturnsInHanded {} Try.checked os 5 .any (Rows.ttlOnlySpec.pre6 enc Try.prog Try.f5 Rows.ttlOnlyRow.domain false) (Rows.ttlOnlySpec.post enc Try.prog Try.f5 false true false false) := by
  refine returnsInHanded_of_change (C := Try.checked) own started (by kernel_rfl) Try.func5
    (ChangeSpec.witness6 (enc := enc) (C := Try.checked) false ⟨#[], #[.agg #[.int .u8 0, .int .u8 0, .bool false, .int .u8 0]], []⟩ 8 (by kernel_rfl) (by kernel_rfl) (by kernel_rfl) (by kernel_rfl)) ?_
  intro W base args ds gs before hval0 hW hcnd _
  have hval : ∀ (j : Nat) t v, Try.f5.params[j]? = some t → args[j]? = some v → Value.okWide Try.prog W .any base t v := hval0
  have hW' := hW
  obtain ⟨p, q, hA0, hV, rfl, hfz, hnd⟩ := hW
  have hA : DataW.TrodAll enc Try.prog W 0 (fun _ => true) true Try.f5.params.toList args.toList ds p := hA0
  rw [Try.params5] at hA hval
  obtain ⟨v0, vs0, d0, ds0, p0, q0, hargs, rfl, rfl, h0, r0⟩ := trodAll_cons hA
  obtain ⟨rfl, rfl, rfl⟩ := trodAll_nil r0
  obtain rfl : args = #[v0] := by cases args; simp_all
  obtain ⟨rfl, rfl⟩ := trodVars_none hV
  have k0 := h0
  have lt0 : ∀ x ∈ p0, x.block < W.heap.size := by obtain ⟨m, hm⟩ := k0; exact DataW.trod_lt m _ _ _ hm
  obtain ⟨cs0, m0, rfl, z0, g0⟩ := open_struct Try.underlying36 (hval 0 36 v0 rfl rfl) h0
  have z0_0 : cs0.length = 4 := z0.trans (show Try.prog.cellsOf 36 = 4 by kernel_rfl)
  clear z0
  obtain ⟨c0_0, cs0_0, rfl, z0_1⟩ := len_cons z0_0
  obtain ⟨c0_1, cs0_1, rfl, z0_2⟩ := len_cons z0_1
  obtain ⟨c0_2, cs0_2, rfl, z0_3⟩ := len_cons z0_2
  obtain ⟨c0_3, cs0_3, rfl, z0_4⟩ := len_cons z0_3
  obtain rfl := List.eq_nil_of_length_eq_zero z0_4
  have ncell_bool : Try.prog.cellsOf 4 = 1 := by kernel_rfl
  have ncell_u8 : Try.prog.cellsOf 5 = 1 := by kernel_rfl
  obtain ⟨b0_0, e0_0, q0_0⟩ := cell_int Try.underlying5 (g0 0 _ rfl)
  obtain ⟨b0_1, e0_1, q0_1⟩ := cell_int Try.underlying5 (g0 1 _ rfl)
  obtain ⟨b0_2, e0_2⟩ := cell_bool Try.underlying4 (g0 2 _ rfl)
  obtain ⟨b0_3, e0_3, q0_3⟩ := cell_int Try.underlying5 (g0 3 _ rfl)
  obtain ⟨rfl, rfl, rfl, rfl⟩ : c0_0 = .int .u8 b0_0 ∧ c0_1 = .int .u8 b0_1 ∧ c0_2 = .bool b0_2 ∧ c0_3 = .int .u8 b0_3 := ⟨by simpa [ncell_bool, ncell_u8] using e0_0, by simpa [ncell_bool, ncell_u8] using e0_1, by simpa [ncell_bool, ncell_u8] using e0_2, by simpa [ncell_bool, ncell_u8] using e0_3⟩
  clear hA0 hval0
  refine (walk_TtlOnly  W b0_0 (bd_u8 q0_0) b0_1 (bd_u8 q0_1) b0_2 b0_3 (bd_u8 q0_3)).mono fun e W' ⟨he, bel⟩ => ?_
  subst he
  exact ⟨_, rfl, _, _, _, [], _, [], hW', trodAll_mk1 (shut_bool Try.underlying4 _), (trodAll_cons_mk (Below.trod laidOut (by kernel_rfl) (of_decide_eq_true (by kernel_rfl)) k0 bel lt0) trodAll_mk0), rfl, bel.frame _, fun h => by cases h⟩

theorem over : Rows.ttlOnlyRow.holds Try.pinned (OpenSpec.ofChange Rows.ttlOnlySpec) :=
  OpenClaim.holds_of_wide 5 Try.f5 rfl rfl rfl rfl rfl rfl rfl ⟨rfl, rfl, rfl, rfl, rfl⟩ rfl rfl rfl rfl rfl (by kernel_rfl) Try.func5 (by kernel_rfl)
    (of_decide_eq_true (by kernel_rfl)) (by unfold Func.isWrapper; first | (rw [if_pos (by decide +kernel)]; kernel_rfl) | (rw [if_neg (by decide +kernel)]; exact ⟨rfl, rfl⟩))
    (fun os started H enc _ => lifted os started H enc)
/-- the statement -/
theorem proved : Rows.TtlOnlySaid := over
#print axioms proved
end Go.Proofs.Ytogpoligkdkgkaa.ttlOnlyFrame

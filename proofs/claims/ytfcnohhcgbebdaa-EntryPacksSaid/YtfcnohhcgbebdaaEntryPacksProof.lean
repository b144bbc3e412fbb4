/- any entry's bytes, and the entry and the stack that any bytes begin with, are the document's -/
import Derived.Test.YtfcnohhcgbebdaaLaw03
import Derived.Test.YtfcnohhcgbebdaaOpen
namespace Go.Proofs.Ytfcnohhcgbebdaa.entryPacksFrame
open Go.ChangeShapes Go.WideShapes Go.ChangeAt Go.RowKit
set_option linter.unusedVariables false
theorem own : ownKnob Try.prog.godebug = none := by kernel_rfl
theorem laidOut : laidOutB Try.prog = true := by kernel_rfl
set_option maxRecDepth 100000 in
theorem lifted (os : Os) (started : os.Started) (H : Type) (enc : TypeId × Value → H) :
    ReturnsInHanded {} Try.checked os 3 .any (Rows.entryPacksSpec.pre6 enc Try.prog Try.f3 Rows.entryPacksRow.domain false) (Rows.entryPacksSpec.post enc Try.prog Try.f3 false true false false) := by
  refine returnsInHanded_of_change (C := Try.checked) own started (by kernel_rfl) Try.func3
    (ChangeSpec.witness6 (enc := enc) (C := Try.checked) false ⟨#[], #[.agg #[.int .i64 0, .int .u8 0, .bool false, .int .u8 0], .slice none 0 0], []⟩ 8 (by kernel_rfl) (by kernel_rfl) (by kernel_rfl) (by kernel_rfl)) ?_
  intro W base args ds gs before hval0 hW hcnd _
  have hval : ∀ (j : Nat) t v, Try.f3.params[j]? = some t → args[j]? = some v → Value.okWide Try.prog W .any base t v := hval0
  have hW' := hW
  obtain ⟨p, q, hA0, hV, rfl, hfz, hnd⟩ := hW
  have hA : DataW.TrodAll enc Try.prog W 0 (fun _ => true) true Try.f3.params.toList args.toList ds p := hA0
  rw [Try.params3] at hA hval
  obtain ⟨v0, vs0, d0, ds0, p0, q0, hargs, rfl, rfl, h0, r0⟩ := trodAll_cons hA
  obtain ⟨v1, vs1, d1, ds1, p1, q1, rfl, rfl, rfl, h1, r1⟩ := trodAll_cons r0
  obtain ⟨rfl, rfl, rfl⟩ := trodAll_nil r1
  obtain rfl : args = #[v0, v1] := by cases args; simp_all
  obtain ⟨rfl, rfl⟩ := trodVars_none hV
  have k0 := h0
  have lt0 : ∀ x ∈ p0, x.block < W.heap.size := by obtain ⟨m, hm⟩ := k0; exact DataW.trod_lt m _ _ _ hm
  have k1 := h1
  have lt1 : ∀ x ∈ p1, x.block < W.heap.size := by obtain ⟨m, hm⟩ := k1; exact DataW.trod_lt m _ _ _ hm
  obtain ⟨cs0, m0, rfl, z0, g0⟩ := open_struct Try.underlying23 (hval 0 23 v0 rfl rfl) h0
  have z0_0 : cs0.length = 4 := z0.trans (show Try.prog.cellsOf 23 = 4 by kernel_rfl)
  clear z0
  obtain ⟨c0_0, cs0_0, rfl, z0_1⟩ := len_cons z0_0
  obtain ⟨c0_1, cs0_1, rfl, z0_2⟩ := len_cons z0_1
  obtain ⟨c0_2, cs0_2, rfl, z0_3⟩ := len_cons z0_2
  obtain ⟨c0_3, cs0_3, rfl, z0_4⟩ := len_cons z0_3
  obtain rfl := List.eq_nil_of_length_eq_zero z0_4
  have ncell_bool : Try.prog.cellsOf 4 = 1 := by kernel_rfl
  have ncell_i64 : Try.prog.cellsOf 3 = 1 := by kernel_rfl
  have ncell_u8 : Try.prog.cellsOf 5 = 1 := by kernel_rfl
  obtain ⟨b0_0, e0_0, q0_0⟩ := cell_int Try.underlying3 (g0 0 _ rfl)
  obtain ⟨b0_1, e0_1, q0_1⟩ := cell_int Try.underlying5 (g0 1 _ rfl)
  obtain ⟨b0_2, e0_2⟩ := cell_bool Try.underlying4 (g0 2 _ rfl)
  obtain ⟨b0_3, e0_3, q0_3⟩ := cell_int Try.underlying5 (g0 3 _ rfl)
  obtain ⟨rfl, rfl, rfl, rfl⟩ : c0_0 = .int .i64 b0_0 ∧ c0_1 = .int .u8 b0_1 ∧ c0_2 = .bool b0_2 ∧ c0_3 = .int .u8 b0_3 := ⟨by simpa [ncell_bool, ncell_i64, ncell_u8] using e0_0, by simpa [ncell_bool, ncell_i64, ncell_u8] using e0_1, by simpa [ncell_bool, ncell_i64, ncell_u8] using e0_2, by simpa [ncell_bool, ncell_i64, ncell_u8] using e0_3⟩
  obtain ⟨a1, rfl, w1⟩ := open_bytes Try.underlying24 Try.underlying5 (by kernel_rfl) (hval 1 24 v1 rfl rfl) h1
  clear hA0 hval0
  refine (walk_EntryPacks  W b0_0 (bd_i64 q0_0) b0_1 (bd_u8 q0_1) b0_2 b0_3 (bd_u8 q0_3) a1 w1).mono fun e W' ⟨he, bel⟩ => ?_
  subst he
  exact ⟨_, rfl, _, _, _, [], _, [], hW', trodAll_mk1 (shut_bool Try.underlying4 _), (trodAll_cons_mk (Below.trod laidOut (by kernel_rfl) (of_decide_eq_true (by kernel_rfl)) k0 bel lt0) (trodAll_cons_mk (Below.trod laidOut (by kernel_rfl) (of_decide_eq_true (by kernel_rfl)) k1 bel lt1) trodAll_mk0)), rfl, bel.frame _, fun h => by cases h⟩

theorem over : Rows.entryPacksRow.holds Try.pinned (OpenSpec.ofChange Rows.entryPacksSpec) :=
  OpenClaim.holds_of_wide 3 Try.f3 rfl rfl rfl rfl rfl rfl rfl ⟨rfl, rfl, rfl, rfl, rfl⟩ rfl rfl rfl rfl rfl (by kernel_rfl) Try.func3 (by kernel_rfl)
    (of_decide_eq_true (by kernel_rfl)) (by unfold Func.isWrapper; first | (rw [if_pos (by decide +kernel)]; kernel_rfl) | (rw [if_neg (by decide +kernel)]; exact ⟨rfl, rfl⟩))
    (fun os started H enc _ => lifted os started H enc)
/-- the statement -/
theorem proved : Rows.EntryPacksSaid := over
#print axioms proved
end Go.Proofs.Ytfcnohhcgbebdaa.entryPacksFrame

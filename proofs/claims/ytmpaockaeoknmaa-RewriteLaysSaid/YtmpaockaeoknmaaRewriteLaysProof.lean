/- RewriteLays: the stack that any hop lays onto any packet, and any stack with any repair above, are the document's. -/
import Derived.Test.YtmpaockaeoknmaaLaw20a
import Derived.Test.YtmpaockaeoknmaaOpen
namespace Go.Proofs.Ytmpaockaeoknmaa.rewriteLaysFrame
open Go.ChangeShapes Go.WideShapes Go.ChangeAt Go.RowKit
set_option linter.unusedVariables false
set_option maxRecDepth 20000
theorem own : ownKnob Try.prog.godebug = none := by kernel_rfl
theorem laidOut : laidOutB Try.prog = true := by kernel_rfl
set_option maxRecDepth 100000 in
theorem lifted (os : Os) (started : os.Started) (H : Type) (enc : TypeId × Value → H) :
    ReturnsInHanded {} Try.checked os 4 .any (Rows.rewriteLaysSpec.pre6 enc Try.prog Try.f4 Rows.rewriteLaysRow.domain false) (Rows.rewriteLaysSpec.post enc Try.prog Try.f4 false true false false) := by
  refine returnsInHanded_of_change (C := Try.checked) own started (by kernel_rfl) Try.func4
    (ChangeSpec.witness6 (enc := enc) (C := Try.checked) false ⟨#[], #[.slice none 0 0, .agg #[.int .i64 0, .slice none 0 0, .int .i64 0, .int .i64 0, .slice none 0 0, .bool false], .agg #[.int .u8 0, .int .u8 0, .int .u8 0]], []⟩ 8 (by kernel_rfl) (by kernel_rfl) (by kernel_rfl) (by kernel_rfl)) ?_
  intro W base args ds gs before hval0 hW hcnd _
  have hval : ∀ (j : Nat) t v, Try.f4.params[j]? = some t → args[j]? = some v → Value.okWide Try.prog W .any base t v := hval0
  have hW' := hW
  obtain ⟨p, q, hA0, hV, rfl, hfz, hnd⟩ := hW
  have hA : DataW.TrodAll enc Try.prog W 0 (fun _ => true) true Try.f4.params.toList args.toList ds p := hA0
  rw [Try.params4] at hA hval
  obtain ⟨v0, vs0, d0, ds0, p0, q0, hargs, rfl, rfl, h0, r0⟩ := trodAll_cons hA
  obtain ⟨v1, vs1, d1, ds1, p1, q1, rfl, rfl, rfl, h1, r1⟩ := trodAll_cons r0
  obtain ⟨v2, vs2, d2, ds2, p2, q2, rfl, rfl, rfl, h2, r2⟩ := trodAll_cons r1
  obtain ⟨rfl, rfl, rfl⟩ := trodAll_nil r2
  obtain rfl : args = #[v0, v1, v2] := by cases args; simp_all
  obtain ⟨rfl, rfl⟩ := trodVars_none hV
  have k0 := h0
  have lt0 : ∀ x ∈ p0, x.block < W.heap.size := by obtain ⟨m, hm⟩ := k0; exact DataW.trod_lt m _ _ _ hm
  have k1 := h1
  have lt1 : ∀ x ∈ p1, x.block < W.heap.size := by obtain ⟨m, hm⟩ := k1; exact DataW.trod_lt m _ _ _ hm
  have k2 := h2
  have lt2 : ∀ x ∈ p2, x.block < W.heap.size := by obtain ⟨m, hm⟩ := k2; exact DataW.trod_lt m _ _ _ hm
  obtain ⟨A0, n0, c0, l0, rfl, w0, u0, x0, y0⟩ := open_ents (hval 0 22 v0 rfl rfl) h0
  obtain ⟨a1, rfl, w1⟩ := open_hop (hval 1 25 v1 rfl rfl) h1
  obtain ⟨cs2, m2, rfl, z2, g2⟩ := open_struct Try.underlying40 (hval 2 40 v2 rfl rfl) h2
  have z2_0 : cs2.length = 3 := z2.trans (show Try.prog.cellsOf 40 = 3 by kernel_rfl)
  clear z2
  obtain ⟨c2_0, cs2_0, rfl, z2_1⟩ := len_cons z2_0
  obtain ⟨c2_1, cs2_1, rfl, z2_2⟩ := len_cons z2_1
  obtain ⟨c2_2, cs2_2, rfl, z2_3⟩ := len_cons z2_2
  obtain rfl := List.eq_nil_of_length_eq_zero z2_3
  have ncell_u8 : Try.prog.cellsOf 5 = 1 := by kernel_rfl
  obtain ⟨b2_0, e2_0, q2_0⟩ := cell_int Try.underlying5 (g2 0 _ rfl)
  obtain ⟨b2_1, e2_1, q2_1⟩ := cell_int Try.underlying5 (g2 1 _ rfl)
  obtain ⟨b2_2, e2_2, q2_2⟩ := cell_int Try.underlying5 (g2 2 _ rfl)
  obtain ⟨rfl, rfl, rfl⟩ : c2_0 = .int .u8 b2_0 ∧ c2_1 = .int .u8 b2_1 ∧ c2_2 = .int .u8 b2_2 := ⟨by simpa [ncell_u8] using e2_0, by simpa [ncell_u8] using e2_1, by simpa [ncell_u8] using e2_2⟩
  clear hA0 hval0
  refine (walk_RewriteLays  W A0 n0 c0 l0 w0 u0 x0 y0 a1 w1 b2_0 (bd_u8 q2_0) b2_1 (bd_u8 q2_1) b2_2 (bd_u8 q2_2)).mono fun e W' ⟨he, bel⟩ => ?_
  subst he
  exact ⟨_, rfl, _, _, _, [], _, [], hW', trodAll_mk1 (shut_bool Try.underlying4 _), (trodAll_cons_mk (Below.trod laidOut (by kernel_rfl) (of_decide_eq_true (by kernel_rfl)) k0 bel lt0) (trodAll_cons_mk (Below.trod laidOut (by kernel_rfl) (of_decide_eq_true (by kernel_rfl)) k1 bel lt1) (trodAll_cons_mk (Below.trod laidOut (by kernel_rfl) (of_decide_eq_true (by kernel_rfl)) k2 bel lt2) trodAll_mk0))), rfl, bel.frame _, fun h => by cases h⟩

theorem over : Rows.rewriteLaysRow.holds Try.pinned (OpenSpec.ofChange Rows.rewriteLaysSpec) :=
  OpenClaim.holds_of_wide 4 Try.f4 rfl rfl rfl rfl rfl rfl rfl ⟨rfl, rfl, rfl, rfl, rfl⟩ rfl rfl rfl rfl rfl (by kernel_rfl) Try.func4 (by kernel_rfl)
    (of_decide_eq_true (by kernel_rfl)) (by unfold Func.isWrapper; first | (rw [if_pos (by decide +kernel)]; kernel_rfl) | (rw [if_neg (by decide +kernel)]; exact ⟨rfl, rfl⟩))
    (fun os started H enc _ => lifted os started H enc)
/-- the statement -/
theorem proved : Rows.RewriteLaysSaid := over
#print axioms proved
end Go.Proofs.Ytmpaockaeoknmaa.rewriteLaysFrame

/- How a header of IPv6 among a law's arguments is opened. No condition. -/
import Derived.Test.YthjjcglheialfaaOpenArr
import Derived.Test.YthjjcglheialfaaIp6c
namespace Go.Proofs.Ythjjcglheialfaa
open Go.ChangeShapes Go.WideShapes Go.ChangeAt Go.RowKit
set_option linter.unusedVariables false
set_option maxRecDepth 20000

theorem open_h6 {H : Type} {enc : TypeId × Value → H} {w : World} {base : Nat} {spare : Nat → Bool} {held : Bool} {r : Reach} {b0 : Nat} {v : Value} {d : DataW H} {ps : List MemPlace}
    (hv : Value.okWide Try.prog w r b0 48 v) (h : DataW.Trod enc Try.prog w base spare held 48 v d ps) : ∃ h : H6, v = .agg h.cells.toArray ∧ h.fit := by
  obtain ⟨cs, m, rfl, hz, hg⟩ := open_struct Try.underlying48 hv h
  have g0 : cs.length = 37 := hz.trans (by kernel_rfl)
  have k8 : Try.prog.cellsOf 5 = 1 := by kernel_rfl
  have k3 : Try.prog.cellsOf 3 = 1 := by kernel_rfl
  have k16 : Try.prog.cellsOf 24 = 16 := by kernel_rfl
  obtain ⟨c0, r0, rfl, g1⟩ := len_cons g0
  obtain ⟨c1, r1, rfl, g2⟩ := len_cons g1
  obtain ⟨c2, r2, rfl, g3⟩ := len_cons g2
  obtain ⟨c3, r3, rfl, g4⟩ := len_cons g3
  obtain ⟨c4, r4, rfl, g5⟩ := len_cons g4
  obtain ⟨x0, e0, q0⟩ := cell_int Try.underlying5 (hg 0 _ rfl)
  obtain ⟨x1, e1, q1⟩ := cell_int Try.underlying3 (hg 1 _ rfl)
  obtain ⟨x2, e2, q2⟩ := cell_int Try.underlying3 (hg 2 _ rfl)
  obtain ⟨x3, e3, q3⟩ := cell_int Try.underlying5 (hg 3 _ rfl)
  obtain ⟨x4, e4, q4⟩ := cell_int Try.underlying5 (hg 4 _ rfl)
  obtain ⟨s, e5, l5⟩ := cell_bytes Try.underlying24 Try.underlying5 k8 k16 (hg 5 _ rfl)
  obtain ⟨t, e6, l6⟩ := cell_bytes Try.underlying24 Try.underlying5 k8 k16 (hg 6 _ rfl)
  obtain ⟨rfl, rfl, rfl, rfl, rfl⟩ : c0 = .int .u8 x0 ∧ c1 = .int .i64 x1 ∧ c2 = .int .i64 x2 ∧ c3 = .int .u8 x3 ∧ c4 = .int .u8 x4 := ⟨by simpa [k8] using e0, by simpa [k3] using e1, by simpa [k3] using e2, by simpa [k8] using e3, by simpa [k8] using e4⟩
  have e5' : r4.take 16 = bv s := by simpa [k16] using e5
  have e6' : (r4.drop 16).take 16 = bv t := by simpa [k16] using e6
  have hr : r4 = bv s ++ bv t := by
    rw [← e5', ← e6']
    have : (r4.drop 16).take 16 = r4.drop 16 := List.take_of_length_le (by simp; omega)
    rw [this, List.take_append_drop]
  subst hr
  exact ⟨⟨x0, x1, x2, x3, x4, s, t⟩, rfl, ⟨⟨l5, l6⟩, bd_u8 q0, bd_i64 q1, bd_i64 q2, bd_u8 q3, bd_u8 q4⟩⟩
end Go.Proofs.Ythjjcglheialfaa

/- How a header of IPv4 among a law's arguments is opened. No condition. -/
import Derived.Test.YtimkgkokidhhpaaOpenArr
import Derived.Test.YtimkgkokidhhpaaIp4d
namespace Go.Proofs.Ytimkgkokidhhpaa
open Go.ChangeShapes Go.WideShapes Go.ChangeAt Go.RowKit
set_option linter.unusedVariables false
set_option maxRecDepth 20000

theorem cell_str {H : Type} {enc : TypeId × Value → H} {P : Program} {w : World} {base : Nat} {spare : Nat → Bool} {held : Bool} {t : TypeId} {n : Nat} {cs : List Value} (ht : P.underlying t = some .string)
    (h : ∃ y, DataW.trod enc P w base spare held n t cs = some y) : ∃ l : List UInt8, cs = [str l] ∧ l.length ≤ 9223372036854775807 := by
  obtain ⟨y, h⟩ := h
  obtain ⟨⟨⟨l⟩⟩, h1, _, h2⟩ := DataW.trod_string ht h
  exact ⟨l, h1, by simpa [ByteArray.size, maxLen] using h2⟩
theorem open_h4 {H : Type} {enc : TypeId × Value → H} {w : World} {base : Nat} {spare : Nat → Bool} {held : Bool} {r : Reach} {b0 : Nat} {v : Value} {d : DataW H} {ps : List MemPlace}
    (hv : Value.okWide Try.prog w r b0 42 v) (h : DataW.Trod enc Try.prog w base spare held 42 v d ps) : ∃ h : H4, v = .agg h.cells.toArray ∧ h.fit := by
  obtain ⟨cs, m, rfl, hz, hg⟩ := open_struct Try.underlying42 hv h
  have g0 : cs.length = 17 := hz.trans (by kernel_rfl)
  have k8 : Try.prog.cellsOf 5 = 1 := by kernel_rfl
  have k3 : Try.prog.cellsOf 3 = 1 := by kernel_rfl
  have k2 : Try.prog.cellsOf 40 = 1 := by kernel_rfl
  have kb : Try.prog.cellsOf 4 = 1 := by kernel_rfl
  have ks : Try.prog.cellsOf 9 = 1 := by kernel_rfl
  have k4 : Try.prog.cellsOf 37 = 4 := by kernel_rfl
  obtain ⟨c0, r0, rfl, g1⟩ := len_cons g0
  obtain ⟨c1, r1, rfl, g2⟩ := len_cons g1
  obtain ⟨c2, r2, rfl, g3⟩ := len_cons g2
  obtain ⟨c3, r3, rfl, g4⟩ := len_cons g3
  obtain ⟨c4, r4, rfl, g5⟩ := len_cons g4
  obtain ⟨c5, r5, rfl, g6⟩ := len_cons g5
  obtain ⟨c6, r6, rfl, g7⟩ := len_cons g6
  obtain ⟨c7, r7, rfl, g8⟩ := len_cons g7
  obtain ⟨x0, e0, q0⟩ := cell_int Try.underlying5 (hg 0 _ rfl)
  obtain ⟨x1, e1, q1⟩ := cell_int Try.underlying3 (hg 1 _ rfl)
  obtain ⟨x2, e2, q2⟩ := cell_int Try.underlying40 (hg 2 _ rfl)
  obtain ⟨x3, e3⟩ := cell_bool Try.underlying4 (hg 3 _ rfl)
  obtain ⟨x4, e4⟩ := cell_bool Try.underlying4 (hg 4 _ rfl)
  obtain ⟨x5, e5, q5⟩ := cell_int Try.underlying3 (hg 5 _ rfl)
  obtain ⟨x6, e6, q6⟩ := cell_int Try.underlying5 (hg 6 _ rfl)
  obtain ⟨x7, e7, q7⟩ := cell_int Try.underlying5 (hg 7 _ rfl)
  obtain ⟨s, e8, l8⟩ := cell_bytes Try.underlying37 Try.underlying5 k8 k4 (hg 8 _ rfl)
  obtain ⟨t, e9, l9⟩ := cell_bytes Try.underlying37 Try.underlying5 k8 k4 (hg 9 _ rfl)
  obtain ⟨o, e10, z10⟩ := cell_str Try.underlying9 (hg 10 _ rfl)
  obtain ⟨rfl, rfl, rfl, rfl, rfl, rfl, rfl, rfl⟩ : c0 = .int .u8 x0 ∧ c1 = .int .i64 x1 ∧ c2 = .int .u16 x2 ∧ c3 = .bool x3 ∧ c4 = .bool x4 ∧ c5 = .int .i64 x5 ∧ c6 = .int .u8 x6 ∧ c7 = .int .u8 x7 :=
    ⟨by simpa [k8] using e0, by simpa [k3] using e1, by simpa [k2] using e2, by simpa [kb] using e3, by simpa [kb] using e4, by simpa [k3] using e5, by simpa [k8] using e6, by simpa [k8] using e7⟩
  have e8' : r7.take 4 = bv s := by simpa [k4] using e8
  have e9' : (r7.drop 4).take 4 = bv t := by simpa [k4] using e9
  have e10' : (r7.drop 8).take 1 = [str o] := by simpa [ks] using e10
  have hr : r7 = bv s ++ (bv t ++ [str o]) := by
    rw [← e8', ← e9', ← e10']
    have h1 : (r7.drop 8).take 1 = r7.drop 8 := List.take_of_length_le (by simp; omega)
    rw [h1, show (8 : Nat) = 4 + 4 from rfl, ← List.drop_drop, List.take_append_drop, List.take_append_drop]
  subst hr
  exact ⟨⟨x0, x1, x2, x3, x4, x5, x6, x7, s, t, o⟩, rfl, ⟨⟨l8, l9⟩, bd_u8 q0, bd_i64 q1, bd_u16 q2, bd_i64 q5, bd_u8 q6, bd_u8 q7, z10⟩⟩
end Go.Proofs.Ytimkgkokidhhpaa

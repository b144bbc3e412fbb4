/- How a key of flows among a law's arguments is opened. No condition. -/
import Derived.Test.YthjjcglheialfaaOpenArr
import Derived.Test.YthjjcglheialfaaFlowb
namespace Go.Proofs.Ythjjcglheialfaa
open Go.ChangeShapes Go.WideShapes Go.ChangeAt Go.RowKit
set_option linter.unusedVariables false
set_option maxRecDepth 20000

theorem open_key {H : Type} {enc : TypeId × Value → H} {w : World} {base : Nat} {spare : Nat → Bool} {held : Bool} {r : Reach} {b0 : Nat} {v : Value} {d : DataW H} {ps : List MemPlace}
    (hv : Value.okWide Try.prog w r b0 26 v) (h : DataW.Trod enc Try.prog w base spare held 26 v d ps) : ∃ k : Ky, v = .agg k.cells.toArray ∧ k.fit := by
  obtain ⟨cs, m, rfl, hz, hg⟩ := open_struct Try.underlying26 hv h
  have g0 : cs.length = 36 := hz.trans (by kernel_rfl)
  have k8 : Try.prog.cellsOf 5 = 1 := by kernel_rfl
  have k3 : Try.prog.cellsOf 3 = 1 := by kernel_rfl
  have kb : Try.prog.cellsOf 4 = 1 := by kernel_rfl
  have k16 : Try.prog.cellsOf 24 = 16 := by kernel_rfl
  obtain ⟨c0, r0, rfl, g1⟩ := len_cons g0
  obtain ⟨x0, e0⟩ := cell_bool Try.underlying4 (hg 0 _ rfl)
  obtain ⟨s, e1, l1⟩ := cell_bytes Try.underlying24 Try.underlying5 k8 k16 (hg 1 _ rfl)
  obtain ⟨t, e2, l2⟩ := cell_bytes Try.underlying24 Try.underlying5 k8 k16 (hg 2 _ rfl)
  obtain ⟨x3, e3, q3⟩ := cell_int Try.underlying5 (hg 3 _ rfl)
  obtain ⟨x4, e4, q4⟩ := cell_int Try.underlying3 (hg 4 _ rfl)
  obtain ⟨x5, e5, q5⟩ := cell_int Try.underlying3 (hg 5 _ rfl)
  obtain rfl : c0 = .bool x0 := by simpa [kb] using e0
  have e1' : r0.take 16 = bv s := by simpa [k16] using e1
  have e2' : (r0.drop 16).take 16 = bv t := by simpa [k16] using e2
  have e3' : (r0.drop 32).take 1 = [.int .u8 x3] := by simpa [k8] using e3
  have e4' : (r0.drop 33).take 1 = [.int .i64 x4] := by simpa [k3] using e4
  have e5' : (r0.drop 34).take 1 = [.int .i64 x5] := by simpa [k3] using e5
  have hr : r0 = bv s ++ (bv t ++ [.int .u8 x3, .int .i64 x4, .int .i64 x5]) := by
    have h5 : r0.drop 34 = [.int .i64 x5] := by rw [← e5']; exact (List.take_of_length_le (by simp; omega)).symm
    have h4 : r0.drop 33 = [.int .i64 x4, .int .i64 x5] := by
      have := List.take_append_drop 1 (r0.drop 33)
      rw [e4', List.drop_drop, h5] at this
      exact this.symm
    have h3 : r0.drop 32 = [.int .u8 x3, .int .i64 x4, .int .i64 x5] := by
      have := List.take_append_drop 1 (r0.drop 32)
      rw [e3', List.drop_drop, h4] at this
      exact this.symm
    rw [← h3, ← e2', ← e1', show (32 : Nat) = 16 + 16 from rfl, ← List.drop_drop, List.take_append_drop, List.take_append_drop]
  subst hr
  exact ⟨⟨x0, s, t, x3, x4, x5⟩, rfl, ⟨⟨l1, l2⟩, bd_u8 q3, bd_i64 q4, bd_i64 q5⟩⟩
end Go.Proofs.Ythjjcglheialfaa

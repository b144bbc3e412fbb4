/- How long a slice of entries among a law's arguments can be: the row's precondition bounds its bytes. No condition. -/
import Derived.Test.YtfcnohhcgbebdaaOpenEnt
import Derived.Handed
namespace Go.Proofs.Ytfcnohhcgbebdaa
open Go.ChangeShapes Go.WideShapes Go.ChangeAt Go.RowKit Go.Deep
set_option linter.unusedVariables false

theorem ents_size {H : Type} {enc : TypeId × Value → H} {w : World} {base : Nat} {spare : Nat → Bool} {held : Bool} {A : Option Addr} {n c : Nat} {d : DataW H} {ps : List MemPlace}
    (h : DataW.Trod enc Try.prog w base spare held 34 (.slice A n c) d ps) (hw : (DataW.weights Try.prog 34 d).all (· ≤ reachBytes) = true) : n ≤ 1099511627776000 := by
  obtain ⟨fuel, hf⟩ := h
  rcases open_slice Try.underlying34 hf with ⟨hcs, _⟩ | ⟨a, len, cap, m, k, D, Pl, hcs, _, _, _, _, hx, _⟩
  · simp [Value.cells] at hcs
    omega
  · simp [Value.cells] at hcs
    obtain ⟨rfl, rfl, rfl⟩ := hcs
    injection hx with hx _
    subst hx
    unfold DataW.weights at hw
    rw [Try.underlying34] at hw
    simp only [List.all_cons, Bool.and_eq_true, decide_eq_true_eq, List.length_map, List.length_range] at hw
    have h1 := hw.1
    rw [show Try.prog.bytesOf 23 = 16 by kernel_rfl, show reachBytes = 140737488351232 from rfl] at h1
    omega
end Go.Proofs.Ytfcnohhcgbebdaa

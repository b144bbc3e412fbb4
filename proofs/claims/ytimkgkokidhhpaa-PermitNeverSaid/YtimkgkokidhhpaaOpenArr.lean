/- How an array of bytes among a law's arguments is opened. No condition. -/
import Derived.Test.YtimkgkokidhhpaaOpen
namespace Go.Proofs.Ytimkgkokidhhpaa
open Go.ChangeShapes Go.WideShapes Go.ChangeAt Go.RowKit
set_option linter.unusedVariables false
set_option maxRecDepth 20000

section
variable {H : Type} {enc : TypeId × Value → H} {P : Program} {w : World} {base : Nat} {spare : Nat → Bool} {held : Bool}
def byteOf : Value → UInt8 | .int _ x => UInt8.ofNat x.toNat | _ => 0
theorem cell_bytes {t e : TypeId} {k n : Nat} {cs : List Value} (ht : P.underlying t = some (.array k e)) (he : P.underlying e = some (.int .u8)) (hc : P.cellsOf e = 1) (hl : P.cellsOf t = k)
    (h : ∃ y, DataW.trod enc P w base spare held n t cs = some y) : ∃ l : List UInt8, cs = bv l ∧ l.length = k := by
  obtain ⟨y, h⟩ := h
  obtain ⟨xs, m, _, _, hcs, hx, hi⟩ := DataW.trod_array ht h
  rw [hl] at hcs
  refine ⟨cs.map byteOf, ?_, by simp [hcs]⟩
  apply List.ext_getElem (by simp [bv])
  intro i h1 h2
  have hik : i < k := by omega
  have hp := hi i hik
  rw [hc, Nat.mul_one, List.drop_eq_getElem_cons h1, List.take_succ_cons, List.take_zero, List.getElem?_eq_getElem (by omega)] at hp
  obtain ⟨x, hv, hw⟩ := cell_int he ⟨_, hp⟩
  have hv' : cs[i] = .int .u8 x := by simpa using hv
  have hb := bd_u8 hw
  simp only [bv, List.getElem_map, hv', byteOf]
  rw [u8_of x hb.1 hb.2]
end
end Go.Proofs.Ytimkgkokidhhpaa

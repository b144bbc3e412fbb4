/- What the laid table of special's names gives the walks; the door's own run meets it. No condition. -/
import Derived.Test.YtfpieennbgmdhaaDoorLaw21
import Derived.Test.YtfpieennbgmdhaaDoorOpenEnt
import Derived.ProofKit
import Derived.LaidMore
import Derived.OpenShut
import Derived.Stop.Joined
namespace Go.Proofs.YtfpieennbgmdhaaDoor
open Go.ChangeShapes Go.WideShapes Go.ChangeAt Go.RowKit
set_option linter.unusedVariables false

theorem gNames : Tryd.prog.globalNamed "footplate/special.names" = some 0 := by kernel_rfl
theorem tNames : (Tryd.prog.globals[0]?).map (·.type) = some 36 := by kernel_rfl
theorem c36 : Tryd.prog.cellsOf 9 = 1 := by kernel_rfl
/-- the door's own heap meets the condition -/
theorem door_met (os : Os) (args : Array Value) : laidMetH Tryd.prog [("footplate/special.names", Rows.laid_footplate_special_names)] ((World.doorLaid Tryd.prog 400 os).forCall (fun _ _ => 0) ⟨#[], args, []⟩).memory :=
  laidMetH_of_parts3 (fuel := 8) (laidMet_of_run' 8 (by kernel_rfl) (by kernel_rfl)) (by kernel_rfl) (by kernel_rfl)
/-- what the condition gives the walks -/
theorem of_laid {W : World} (h : laidMetH Tryd.prog [("footplate/special.names", Rows.laid_footplate_special_names)] W) : Named W := by
  rw [MakeChecks.laidMetH_plain _ _ _ (by kernel_rfl)] at h
  obtain ⟨ps, ⟨g0, t0, cs0, f0, p0, q0, hg0, ht0, hv0, hd0, _, _⟩, _, _⟩ := h
  obtain rfl := Option.some.inj (gNames.symm.trans hg0)
  obtain rfl := Option.some.inj (tNames.symm.trans ht0)
  obtain ⟨xs, m1, rfl, hx1, hlen, hn3, hel⟩ := DataW.trod_array Tryd.underlying36 hd0
  have hD : Rows.laid_footplate_special_names (H := Unit) = .agg (nameL.map fun s => .lit (.string s)) := rfl
  rw [hD] at hx1
  simp only [Prod.mk.injEq, DataW.agg.injEq] at hx1
  have hcell : ∀ j s, nameL[j]? = some s → W.cell? ⟨0, j, none⟩ = some (str s) := by
    intro j s hj
    have hj16 : j < 16 := (List.getElem?_eq_some_iff.1 hj).1
    have he := hel j hj16
    obtain ⟨y, hy⟩ := get_ex xs (k := j) (by omega)
    rw [hy, c36, Nat.mul_one] at he
    obtain ⟨v, e1, e2, _⟩ := DataW.trod_string Tryd.underlying9 he
    have h2 := congrArg (fun l => l[j]?) hx1.1
    simp only [List.getElem?_map, hj, hy, Option.map_some, Option.some.injEq] at h2
    rw [e2] at h2
    simp only [DataW.lit.injEq, Lit.string.injEq] at h2
    have hcs : cs0[j]? = some (.string v) := by
      have h3 := congrArg (fun l => l[0]?) e1
      simpa [List.getElem?_take, List.getElem?_drop] using h3
    rw [World.var?_cell hg0 hv0 j, hcs, h2]
  exact ⟨World.block_lt_of_cell? W _ (hcell 0 _ rfl), hcell⟩

theorem walk_SpecialOfE (w : World) (hN : Named w) (A : Option Addr) (n c : Nat) (l : List Ent) (hr : Row w w.heap.size 4 A n (evs l)) (_ : n ≤ c) (_ : c ≤ maxLen) (hl : ∀ x ∈ l, x.wf) :
    Calls Tryd.prog 3 #[.slice A n c] w fun e w' => e = .returned (.bool true) ∧ Below w.heap.size w w' := walk_SpecialOf w hN A n c l hr fun x hx => (hl x hx).label
end Go.Proofs.YtfpieennbgmdhaaDoor

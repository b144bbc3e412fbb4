/-
  DERIVED. GIVEN WITH THE SEED: THE CARDS: each row of YtfpieennbgmdhaaDoorRows.lean that lists a variable, with what it lists TIED to the program's text (the seventh form; the later family's looks); each row that meets fmt, with fmt's text TOLD by the authors' own Lean function (tested against real Go, not proved from fmt's source: count such statements apart). THE CARD IS WHAT COUNTS. Prove the row's statement (the work); the ties are given (YtfpieennbgmdhaaDoorTie.lean); close each card by the builder's one call (the guide's Derived/Test/ToyasCard.lean, 'card_holds'). Laid BY PROGRAM, IN A SANDBOX (cutbox-door.mjs). By AI agents, Wed Nov 11 2026. No macro, syntax, notation, axiom, sorry.
-/
import Derived.Test.YtfpieennbgmdhaaDoorRows
import GoSem.ClaimSeven
namespace Go.Proofs.YtfpieennbgmdhaaDoor
namespace Rows

/-- THE TIED CARD OF 'footplatelaw21.SpecialOf'. -/
def specialOfCard : Claim7 := { stood := { row := specialOfRow, standIns := [], harness := (true, "a1cf68993d4f8fe959f6d685a2ab70d500c5407a00cc6636bd589d7ade390185"), looks := false }, kinds := [], alts := [], laidByText := true, laidKinds := [.widerDeep], laidTests := true, laidLooks := .later }
def SpecialOfCardSaid : Prop := Claim7.holds Tryd.pinned (.plain (OpenSpec.ofChange specialOfSpec)) specialOfCard

/-- THE TIED CARD OF 'footplatelaw21.SpecialNames'. -/
def specialNamesCard : Claim7 := { stood := { row := specialNamesRow, standIns := [], harness := (true, "a1cf68993d4f8fe959f6d685a2ab70d500c5407a00cc6636bd589d7ade390185"), looks := false }, kinds := [], alts := [], laidByText := true, laidKinds := [.widerDeep], laidTests := true, laidLooks := .later }
def SpecialNamesCardSaid : Prop := Claim7.holds Tryd.pinned (.plain (OpenSpec.ofChange specialNamesSpec)) specialNamesCard

/-- THE SECOND FORM's CARD OF 'footplatelaw21.SpecialOf'. -/
def specialOfUptoCard : Claim7 := { stood := { row := specialOfUptoRow, standIns := [], harness := (true, "a1cf68993d4f8fe959f6d685a2ab70d500c5407a00cc6636bd589d7ade390185"), looks := false }, kinds := [], alts := [], laidByText := true, laidKinds := [.widerDeep], laidTests := true, laidLooks := .later }
def SpecialOfUptoCardSaid : Prop := Claim7.holds Tryd.pinned (.plain (OpenSpec.upto specialOfSpec)) specialOfUptoCard

/-- THE SECOND FORM's CARD OF 'footplatelaw21.SpecialNames'. -/
def specialNamesUptoCard : Claim7 := { stood := { row := specialNamesUptoRow, standIns := [], harness := (true, "a1cf68993d4f8fe959f6d685a2ab70d500c5407a00cc6636bd589d7ade390185"), looks := false }, kinds := [], alts := [], laidByText := true, laidKinds := [.widerDeep], laidTests := true, laidLooks := .later }
def SpecialNamesUptoCardSaid : Prop := Claim7.holds Tryd.pinned (.plain (OpenSpec.upto specialNamesSpec)) specialNamesUptoCard
end Rows
end Go.Proofs.YtfpieennbgmdhaaDoor

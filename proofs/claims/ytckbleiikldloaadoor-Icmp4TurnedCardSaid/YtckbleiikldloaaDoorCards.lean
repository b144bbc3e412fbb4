/-
  DERIVED. GIVEN WITH THE SEED: THE CARDS: each row of YtckbleiikldloaaDoorRows.lean that lists a variable, with what it lists TIED to the program's text (the seventh form; the later family's looks); each row that meets fmt, with fmt's text TOLD by the authors' own Lean function (tested against real Go, not proved from fmt's source: count such statements apart). THE CARD IS WHAT COUNTS. Prove the row's statement (the work); the ties are given (YtckbleiikldloaaDoorTie.lean); close each card by the builder's one call (the guide's Derived/Test/ToyasCard.lean, 'card_holds'). Laid BY PROGRAM, IN A SANDBOX (cutbox-door.mjs). By AI agents, Wed Nov 11 2026. No macro, syntax, notation, axiom, sorry.
-/
import Derived.Test.YtckbleiikldloaaDoorRows
import GoSem.ClaimSeven
namespace Go.Proofs.YtckbleiikldloaaDoor
namespace Rows

/-- THE TIED CARD OF 'footplatelaw23.Icmp4Puts'. -/
def icmp4PutsCard : Claim7 := { stood := { row := icmp4PutsRow, standIns := [], harness := (true, "84820d1321d4f8c55a87cc1b1855f7323ac83f9b38b893de0886d43bbcd32ff4"), looks := false }, kinds := [], alts := [], laidByText := true, laidKinds := [.widerDeep], laidTests := true, laidLooks := .later }
def Icmp4PutsCardSaid : Prop := Claim7.holds Tryd.pinned (.plain (OpenSpec.ofChange icmp4PutsSpec)) icmp4PutsCard

/-- THE TIED CARD OF 'footplatelaw23.Icmp4Gets'. -/
def icmp4GetsCard : Claim7 := { stood := { row := icmp4GetsRow, standIns := [], harness := (true, "84820d1321d4f8c55a87cc1b1855f7323ac83f9b38b893de0886d43bbcd32ff4"), looks := false }, kinds := [], alts := [], laidByText := true, laidKinds := [.widerDeep], laidTests := true, laidLooks := .later }
def Icmp4GetsCardSaid : Prop := Claim7.holds Tryd.pinned (.plain (OpenSpec.ofChange icmp4GetsSpec)) icmp4GetsCard

/-- THE TIED CARD OF 'footplatelaw23.Icmp4Back'. -/
def icmp4BackCard : Claim7 := { stood := { row := icmp4BackRow, standIns := [], harness := (true, "84820d1321d4f8c55a87cc1b1855f7323ac83f9b38b893de0886d43bbcd32ff4"), looks := false }, kinds := [], alts := [], laidByText := true, laidKinds := [.widerDeep], laidTests := true, laidLooks := .later }
def Icmp4BackCardSaid : Prop := Claim7.holds Tryd.pinned (.plain (OpenSpec.ofChange icmp4BackSpec)) icmp4BackCard

/-- THE TIED CARD OF 'footplatelaw23.Icmp4Turned'. -/
def icmp4TurnedCard : Claim7 := { stood := { row := icmp4TurnedRow, standIns := [], harness := (true, "84820d1321d4f8c55a87cc1b1855f7323ac83f9b38b893de0886d43bbcd32ff4"), looks := false }, kinds := [], alts := [], laidByText := true, laidKinds := [.widerDeep], laidTests := true, laidLooks := .later }
def Icmp4TurnedCardSaid : Prop := Claim7.holds Tryd.pinned (.plain (OpenSpec.ofChange icmp4TurnedSpec)) icmp4TurnedCard

/-- THE SECOND FORM's CARD OF 'footplatelaw23.Icmp4Puts'. -/
def icmp4PutsUptoCard : Claim7 := { stood := { row := icmp4PutsUptoRow, standIns := [], harness := (true, "84820d1321d4f8c55a87cc1b1855f7323ac83f9b38b893de0886d43bbcd32ff4"), looks := false }, kinds := [], alts := [], laidByText := true, laidKinds := [.widerDeep], laidTests := true, laidLooks := .later }
def Icmp4PutsUptoCardSaid : Prop := Claim7.holds Tryd.pinned (.plain (OpenSpec.upto icmp4PutsSpec)) icmp4PutsUptoCard

/-- THE SECOND FORM's CARD OF 'footplatelaw23.Icmp4Gets'. -/
def icmp4GetsUptoCard : Claim7 := { stood := { row := icmp4GetsUptoRow, standIns := [], harness := (true, "84820d1321d4f8c55a87cc1b1855f7323ac83f9b38b893de0886d43bbcd32ff4"), looks := false }, kinds := [], alts := [], laidByText := true, laidKinds := [.widerDeep], laidTests := true, laidLooks := .later }
def Icmp4GetsUptoCardSaid : Prop := Claim7.holds Tryd.pinned (.plain (OpenSpec.upto icmp4GetsSpec)) icmp4GetsUptoCard

/-- THE SECOND FORM's CARD OF 'footplatelaw23.Icmp4Back'. -/
def icmp4BackUptoCard : Claim7 := { stood := { row := icmp4BackUptoRow, standIns := [], harness := (true, "84820d1321d4f8c55a87cc1b1855f7323ac83f9b38b893de0886d43bbcd32ff4"), looks := false }, kinds := [], alts := [], laidByText := true, laidKinds := [.widerDeep], laidTests := true, laidLooks := .later }
def Icmp4BackUptoCardSaid : Prop := Claim7.holds Tryd.pinned (.plain (OpenSpec.upto icmp4BackSpec)) icmp4BackUptoCard

/-- THE SECOND FORM's CARD OF 'footplatelaw23.Icmp4Turned'. -/
def icmp4TurnedUptoCard : Claim7 := { stood := { row := icmp4TurnedUptoRow, standIns := [], harness := (true, "84820d1321d4f8c55a87cc1b1855f7323ac83f9b38b893de0886d43bbcd32ff4"), looks := false }, kinds := [], alts := [], laidByText := true, laidKinds := [.widerDeep], laidTests := true, laidLooks := .later }
def Icmp4TurnedUptoCardSaid : Prop := Claim7.holds Tryd.pinned (.plain (OpenSpec.upto icmp4TurnedSpec)) icmp4TurnedUptoCard
end Rows
end Go.Proofs.YtckbleiikldloaaDoor

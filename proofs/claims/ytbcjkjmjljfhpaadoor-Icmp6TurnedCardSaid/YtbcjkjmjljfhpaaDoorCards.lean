/-
  DERIVED. GIVEN WITH THE SEED: THE CARDS: each row of YtbcjkjmjljfhpaaDoorRows.lean that lists a variable, with what it lists TIED to the program's text (the seventh form; the later family's looks); each row that meets fmt, with fmt's text TOLD by the authors' own Lean function (tested against real Go, not proved from fmt's source: count such statements apart). THE CARD IS WHAT COUNTS. Prove the row's statement (the work); the ties are given (YtbcjkjmjljfhpaaDoorTie.lean); close each card by the builder's one call (the guide's Derived/Test/ToyasCard.lean, 'card_holds'). Laid BY PROGRAM, IN A SANDBOX (cutbox-door.mjs). By AI agents, Wed Nov 11 2026. No macro, syntax, notation, axiom, sorry.
-/
import Derived.Test.YtbcjkjmjljfhpaaDoorRows
import GoSem.ClaimSeven
namespace Go.Proofs.YtbcjkjmjljfhpaaDoor
namespace Rows

/-- THE TIED CARD OF 'footplatelaw24.Icmp6Puts'. -/
def icmp6PutsCard : Claim7 := { stood := { row := icmp6PutsRow, standIns := [], harness := (true, "5e60348b26d9df11b0a15090eb500cca9723cbac535f6706f53588de33ec8303"), looks := false }, kinds := [], alts := [], laidByText := true, laidKinds := [.widerDeep], laidTests := true, laidLooks := .later }
def Icmp6PutsCardSaid : Prop := Claim7.holds Tryd.pinned (.plain (OpenSpec.ofChange icmp6PutsSpec)) icmp6PutsCard

/-- THE TIED CARD OF 'footplatelaw24.Icmp6Gets'. -/
def icmp6GetsCard : Claim7 := { stood := { row := icmp6GetsRow, standIns := [], harness := (true, "5e60348b26d9df11b0a15090eb500cca9723cbac535f6706f53588de33ec8303"), looks := false }, kinds := [], alts := [], laidByText := true, laidKinds := [.widerDeep], laidTests := true, laidLooks := .later }
def Icmp6GetsCardSaid : Prop := Claim7.holds Tryd.pinned (.plain (OpenSpec.ofChange icmp6GetsSpec)) icmp6GetsCard

/-- THE TIED CARD OF 'footplatelaw24.Icmp6Back'. -/
def icmp6BackCard : Claim7 := { stood := { row := icmp6BackRow, standIns := [], harness := (true, "5e60348b26d9df11b0a15090eb500cca9723cbac535f6706f53588de33ec8303"), looks := false }, kinds := [], alts := [], laidByText := true, laidKinds := [.widerDeep], laidTests := true, laidLooks := .later }
def Icmp6BackCardSaid : Prop := Claim7.holds Tryd.pinned (.plain (OpenSpec.ofChange icmp6BackSpec)) icmp6BackCard

/-- THE TIED CARD OF 'footplatelaw24.Icmp6Turned'. -/
def icmp6TurnedCard : Claim7 := { stood := { row := icmp6TurnedRow, standIns := [], harness := (true, "5e60348b26d9df11b0a15090eb500cca9723cbac535f6706f53588de33ec8303"), looks := false }, kinds := [], alts := [], laidByText := true, laidKinds := [.widerDeep], laidTests := true, laidLooks := .later }
def Icmp6TurnedCardSaid : Prop := Claim7.holds Tryd.pinned (.plain (OpenSpec.ofChange icmp6TurnedSpec)) icmp6TurnedCard

/-- THE SECOND FORM's CARD OF 'footplatelaw24.Icmp6Puts'. -/
def icmp6PutsUptoCard : Claim7 := { stood := { row := icmp6PutsUptoRow, standIns := [], harness := (true, "5e60348b26d9df11b0a15090eb500cca9723cbac535f6706f53588de33ec8303"), looks := false }, kinds := [], alts := [], laidByText := true, laidKinds := [.widerDeep], laidTests := true, laidLooks := .later }
def Icmp6PutsUptoCardSaid : Prop := Claim7.holds Tryd.pinned (.plain (OpenSpec.upto icmp6PutsSpec)) icmp6PutsUptoCard

/-- THE SECOND FORM's CARD OF 'footplatelaw24.Icmp6Gets'. -/
def icmp6GetsUptoCard : Claim7 := { stood := { row := icmp6GetsUptoRow, standIns := [], harness := (true, "5e60348b26d9df11b0a15090eb500cca9723cbac535f6706f53588de33ec8303"), looks := false }, kinds := [], alts := [], laidByText := true, laidKinds := [.widerDeep], laidTests := true, laidLooks := .later }
def Icmp6GetsUptoCardSaid : Prop := Claim7.holds Tryd.pinned (.plain (OpenSpec.upto icmp6GetsSpec)) icmp6GetsUptoCard

/-- THE SECOND FORM's CARD OF 'footplatelaw24.Icmp6Back'. -/
def icmp6BackUptoCard : Claim7 := { stood := { row := icmp6BackUptoRow, standIns := [], harness := (true, "5e60348b26d9df11b0a15090eb500cca9723cbac535f6706f53588de33ec8303"), looks := false }, kinds := [], alts := [], laidByText := true, laidKinds := [.widerDeep], laidTests := true, laidLooks := .later }
def Icmp6BackUptoCardSaid : Prop := Claim7.holds Tryd.pinned (.plain (OpenSpec.upto icmp6BackSpec)) icmp6BackUptoCard

/-- THE SECOND FORM's CARD OF 'footplatelaw24.Icmp6Turned'. -/
def icmp6TurnedUptoCard : Claim7 := { stood := { row := icmp6TurnedUptoRow, standIns := [], harness := (true, "5e60348b26d9df11b0a15090eb500cca9723cbac535f6706f53588de33ec8303"), looks := false }, kinds := [], alts := [], laidByText := true, laidKinds := [.widerDeep], laidTests := true, laidLooks := .later }
def Icmp6TurnedUptoCardSaid : Prop := Claim7.holds Tryd.pinned (.plain (OpenSpec.upto icmp6TurnedSpec)) icmp6TurnedUptoCard
end Rows
end Go.Proofs.YtbcjkjmjljfhpaaDoor

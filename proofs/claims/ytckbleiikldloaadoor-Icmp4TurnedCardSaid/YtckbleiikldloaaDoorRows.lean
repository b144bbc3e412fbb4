/-
  NARROWER THAN 'FOR EVERY INPUT', by the rows' own cells (each row's printed sentence says how): Icmp4Puts: laid · Icmp4Gets: laid · Icmp4Back: laid · Icmp4Turned: laid.
  DERIVED. THE GIVEN ROWS OF THIS SEAT. 4 by the template 'for every input the law returns true; each argument reads behind the call as it read before'; 0 by the template 'total and deterministic' (their statements: YtckbleiikldloaaDoorTotals.lean).
  GIVEN WITH THE SEED: the statements are not yours to turn. If you find one false, say at which input.
  Laid BY PROGRAM, IN A SANDBOX (cutbox-rows.mjs): the forced cells as the released guide's own fill.sh prints them over the translation cd3e28f079d69844… (all of the seat's roots in one cut). By AI agents, Wed Nov 11 2026. No macro, syntax, notation, axiom, sorry.
-/
import Derived.Test.YtckbleiikldloaaDoorChecked
import GoSem.Claim
import GoSem.ClaimJoined
import GoSem.ClaimMapViews
import Derived.JoinedTies
import Derived.KernelRfl
namespace Go.Proofs.YtckbleiikldloaaDoor
/- THE CELL 'sum', in the pinned program and in every row, IS THE sha256 OF THE DUMP (.gsa) THAT YtckbleiikldloaaDoorProg.lean LOADS. Nothing in Lean hashes anything: it is a label: what it is worth is what the hold of that sum in a sandbox is worth. -/
noncomputable def Tryd.pinned : Pinned := { name := "ytckbleiikldloaadoor", sum := "cd3e28f079d69844f6dccc6eb2584dcbe77147704761d4f9110e896e89faf053", checked := Tryd.checked }
namespace Rows
def none {H : Type} : Left H := { results := [], args := [] }

/- WHAT THE LISTED PACKAGE-LEVEL VARIABLES READ AS WHEN THE CALL BEGINS. Each datum BY PROGRAM (the guide's laid-datum.mjs) off the statement by which the dump's own 'gosem.cut.vars' lays the variable. In a bare row this is a premise. The card (YtckbleiikldloaaDoorCards.lean) ties it to the program's text. -/
def laid_footplate_icmp4_types {H : Type} : DataW H := .agg [.agg [.lit (.int .u8 11), .lit (.int .u8 0)], .agg [.lit (.int .u8 3), .lit (.int .u8 4)], .agg [.lit (.int .u8 3), .lit (.int .u8 0)]]

/-- 'footplatelaw23.Icmp4Puts': WHATEVER THE INPUT: true; the input reads as it did. -/
def icmp4PutsSpec : ChangeSpec := { name := "icmp4Puts", fn := fun _ => fun
  | [d1, d2, d3] => { results := [.lit (.bool true)], args := [d1, d2, d3] }
  | _ => none }
def icmp4PutsRow : OpenClaim := { program := "ytckbleiikldloaadoor", sum := "cd3e28f079d69844f6dccc6eb2584dcbe77147704761d4f9110e896e89faf053", func := "footplate/footplatelaw23.Icmp4Puts", spec := "icmp4Puts", unfollowed := true, recurses := true, named := ["footplate/icmp4.types"], apart := false, laid := [("footplate/icmp4.types", laid_footplate_icmp4_types)] }
def Icmp4PutsSaid : Prop := icmp4PutsRow.holds Tryd.pinned (OpenSpec.ofChange icmp4PutsSpec)

/-- ITS FALSE NEIGHBOUR: 'it returns false'. Refute it at one input. -/
def icmp4PutsWrong : ChangeSpec := { name := "icmp4Puts", fn := fun _ => fun
  | [d1, d2, d3] => { results := [.lit (.bool false)], args := [d1, d2, d3] }
  | _ => none }
def Icmp4PutsWrongFalsely : Prop := icmp4PutsRow.holds Tryd.pinned (OpenSpec.ofChange icmp4PutsWrong)

/-- 'footplatelaw23.Icmp4Gets': WHATEVER THE INPUT: true; the input reads as it did. -/
def icmp4GetsSpec : ChangeSpec := { name := "icmp4Gets", fn := fun _ => fun
  | [d] => { results := [.lit (.bool true)], args := [d] }
  | _ => none }
def icmp4GetsRow : OpenClaim := { program := "ytckbleiikldloaadoor", sum := "cd3e28f079d69844f6dccc6eb2584dcbe77147704761d4f9110e896e89faf053", func := "footplate/footplatelaw23.Icmp4Gets", spec := "icmp4Gets", unfollowed := true, recurses := true, named := ["footplate/icmp4.types"], apart := false, laid := [("footplate/icmp4.types", laid_footplate_icmp4_types)] }
def Icmp4GetsSaid : Prop := icmp4GetsRow.holds Tryd.pinned (OpenSpec.ofChange icmp4GetsSpec)

/-- ITS FALSE NEIGHBOUR: 'it returns false'. Refute it at one input. -/
def icmp4GetsWrong : ChangeSpec := { name := "icmp4Gets", fn := fun _ => fun
  | [d] => { results := [.lit (.bool false)], args := [d] }
  | _ => none }
def Icmp4GetsWrongFalsely : Prop := icmp4GetsRow.holds Tryd.pinned (OpenSpec.ofChange icmp4GetsWrong)

/-- 'footplatelaw23.Icmp4Back': WHATEVER THE INPUT: true; the input reads as it did. -/
def icmp4BackSpec : ChangeSpec := { name := "icmp4Back", fn := fun _ => fun
  | [d1, d2, d3] => { results := [.lit (.bool true)], args := [d1, d2, d3] }
  | _ => none }
def icmp4BackRow : OpenClaim := { program := "ytckbleiikldloaadoor", sum := "cd3e28f079d69844f6dccc6eb2584dcbe77147704761d4f9110e896e89faf053", func := "footplate/footplatelaw23.Icmp4Back", spec := "icmp4Back", unfollowed := true, recurses := true, named := ["footplate/icmp4.types"], apart := false, laid := [("footplate/icmp4.types", laid_footplate_icmp4_types)] }
def Icmp4BackSaid : Prop := icmp4BackRow.holds Tryd.pinned (OpenSpec.ofChange icmp4BackSpec)

/-- ITS FALSE NEIGHBOUR: 'it returns false'. Refute it at one input. -/
def icmp4BackWrong : ChangeSpec := { name := "icmp4Back", fn := fun _ => fun
  | [d1, d2, d3] => { results := [.lit (.bool false)], args := [d1, d2, d3] }
  | _ => none }
def Icmp4BackWrongFalsely : Prop := icmp4BackRow.holds Tryd.pinned (OpenSpec.ofChange icmp4BackWrong)

/-- 'footplatelaw23.Icmp4Turned': WHATEVER THE INPUT: true; the input reads as it did. -/
def icmp4TurnedSpec : ChangeSpec := { name := "icmp4Turned", fn := fun _ => fun
  | [d1, d2, d3] => { results := [.lit (.bool true)], args := [d1, d2, d3] }
  | _ => none }
def icmp4TurnedRow : OpenClaim := { program := "ytckbleiikldloaadoor", sum := "cd3e28f079d69844f6dccc6eb2584dcbe77147704761d4f9110e896e89faf053", func := "footplate/footplatelaw23.Icmp4Turned", spec := "icmp4Turned", unfollowed := true, recurses := true, named := ["footplate/icmp4.types"], apart := false, laid := [("footplate/icmp4.types", laid_footplate_icmp4_types)] }
def Icmp4TurnedSaid : Prop := icmp4TurnedRow.holds Tryd.pinned (OpenSpec.ofChange icmp4TurnedSpec)

/-- ITS FALSE NEIGHBOUR: 'it returns false'. Refute it at one input. -/
def icmp4TurnedWrong : ChangeSpec := { name := "icmp4Turned", fn := fun _ => fun
  | [d1, d2, d3] => { results := [.lit (.bool false)], args := [d1, d2, d3] }
  | _ => none }
def Icmp4TurnedWrongFalsely : Prop := icmp4TurnedRow.holds Tryd.pinned (OpenSpec.ofChange icmp4TurnedWrong)

/- THE SECOND FORM. 'bulk': how many values and letters a reading holds, each counted each time it is reached (what is shared counts as often as it is met; a slice's spare places count too). A statement '..UptoSaid' is the law's where the arguments, and the package variables that the reading takes, are together of bulk at most 1048576: NARROWER than '..Said'. Prove '..Said' where nothing that the law and all that it calls make is longer than what came in: it says more and counts as full. Else prove '..UptoSaid'. A law counts once. -/
mutual
def uptoBulk {H : Type} : DataW H → Nat
  | .lit (.string bytes) => bytes.length + 1
  | .lit _ => 1
  | .nil => 1
  | .ptr d => uptoBulk d + 1
  | .slice elems spare => uptoBulkAll elems + uptoBulkAll spare + 1
  | .agg parts => uptoBulkAll parts + 1
  | .iface _ d => uptoBulk d + 1
  | .map entries => uptoBulkEntries entries + 1
  | .held _ => 1
def uptoBulkAll {H : Type} : List (DataW H) → Nat
  | [] => 0
  | d :: r => uptoBulk d + uptoBulkAll r
def uptoBulkEntries {H : Type} : List (Lit × DataW H) → Nat
  | [] => 0
  | x :: r => uptoBulkEntry x + uptoBulkEntries r
def uptoBulkEntry {H : Type} : Lit × DataW H → Nat
  | (.string bytes, d) => bytes.length + uptoBulk d + 1
  | (_, d) => uptoBulk d + 1
 end
def uptoSmall : (H : Type) → List (DataW H) → Bool := fun _ ds => decide (uptoBulkAll ds ≤ 1048576)
def OpenSpec.upto (s : _root_.Go.ChangeSpec) : _root_.Go.OpenSpec := { _root_.Go.OpenSpec.ofChange s with cond := some uptoSmall }

/-- 'footplatelaw23.Icmp4Puts', WHERE WHAT IT READS IS OF BULK AT MOST 1048576: true; the input reads as it did. -/
def icmp4PutsUptoRow : OpenClaim := { program := "ytckbleiikldloaadoor", sum := "cd3e28f079d69844f6dccc6eb2584dcbe77147704761d4f9110e896e89faf053", func := "footplate/footplatelaw23.Icmp4Puts", spec := "icmp4Puts", unfollowed := true, recurses := true, named := ["footplate/icmp4.types"], apart := false, laid := [("footplate/icmp4.types", laid_footplate_icmp4_types)], narrowed := true }
def Icmp4PutsUptoSaid : Prop := icmp4PutsUptoRow.holds Tryd.pinned (OpenSpec.upto icmp4PutsSpec)

/-- 'footplatelaw23.Icmp4Gets', WHERE WHAT IT READS IS OF BULK AT MOST 1048576: true; the input reads as it did. -/
def icmp4GetsUptoRow : OpenClaim := { program := "ytckbleiikldloaadoor", sum := "cd3e28f079d69844f6dccc6eb2584dcbe77147704761d4f9110e896e89faf053", func := "footplate/footplatelaw23.Icmp4Gets", spec := "icmp4Gets", unfollowed := true, recurses := true, named := ["footplate/icmp4.types"], apart := false, laid := [("footplate/icmp4.types", laid_footplate_icmp4_types)], narrowed := true }
def Icmp4GetsUptoSaid : Prop := icmp4GetsUptoRow.holds Tryd.pinned (OpenSpec.upto icmp4GetsSpec)

/-- 'footplatelaw23.Icmp4Back', WHERE WHAT IT READS IS OF BULK AT MOST 1048576: true; the input reads as it did. -/
def icmp4BackUptoRow : OpenClaim := { program := "ytckbleiikldloaadoor", sum := "cd3e28f079d69844f6dccc6eb2584dcbe77147704761d4f9110e896e89faf053", func := "footplate/footplatelaw23.Icmp4Back", spec := "icmp4Back", unfollowed := true, recurses := true, named := ["footplate/icmp4.types"], apart := false, laid := [("footplate/icmp4.types", laid_footplate_icmp4_types)], narrowed := true }
def Icmp4BackUptoSaid : Prop := icmp4BackUptoRow.holds Tryd.pinned (OpenSpec.upto icmp4BackSpec)

/-- 'footplatelaw23.Icmp4Turned', WHERE WHAT IT READS IS OF BULK AT MOST 1048576: true; the input reads as it did. -/
def icmp4TurnedUptoRow : OpenClaim := { program := "ytckbleiikldloaadoor", sum := "cd3e28f079d69844f6dccc6eb2584dcbe77147704761d4f9110e896e89faf053", func := "footplate/footplatelaw23.Icmp4Turned", spec := "icmp4Turned", unfollowed := true, recurses := true, named := ["footplate/icmp4.types"], apart := false, laid := [("footplate/icmp4.types", laid_footplate_icmp4_types)], narrowed := true }
def Icmp4TurnedUptoSaid : Prop := icmp4TurnedUptoRow.holds Tryd.pinned (OpenSpec.upto icmp4TurnedSpec)

end Rows
end Go.Proofs.YtckbleiikldloaaDoor

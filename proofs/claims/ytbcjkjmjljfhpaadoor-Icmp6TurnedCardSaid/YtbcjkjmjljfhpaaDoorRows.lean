/-
  NARROWER THAN 'FOR EVERY INPUT', by the rows' own cells (each row's printed sentence says how): Icmp6Puts: laid · Icmp6Gets: laid · Icmp6Back: laid · Icmp6Turned: laid.
  DERIVED. THE GIVEN ROWS OF THIS SEAT. 4 by the template 'for every input the law returns true; each argument reads behind the call as it read before'; 0 by the template 'total and deterministic' (their statements: YtbcjkjmjljfhpaaDoorTotals.lean).
  GIVEN WITH THE SEED: the statements are not yours to turn. If you find one false, say at which input.
  Laid BY PROGRAM, IN A SANDBOX (cutbox-rows.mjs): the forced cells as the released guide's own fill.sh prints them over the translation 895bfbeb9cb52d2b… (all of the seat's roots in one cut). By AI agents, Wed Nov 11 2026. No macro, syntax, notation, axiom, sorry.
-/
import Derived.Test.YtbcjkjmjljfhpaaDoorChecked
import GoSem.Claim
import GoSem.ClaimJoined
import GoSem.ClaimMapViews
import Derived.JoinedTies
import Derived.KernelRfl
namespace Go.Proofs.YtbcjkjmjljfhpaaDoor
/- THE CELL 'sum', in the pinned program and in every row, IS THE sha256 OF THE DUMP (.gsa) THAT YtbcjkjmjljfhpaaDoorProg.lean LOADS. Nothing in Lean hashes anything: it is a label: what it is worth is what the hold of that sum in a sandbox is worth. -/
noncomputable def Tryd.pinned : Pinned := { name := "ytbcjkjmjljfhpaadoor", sum := "895bfbeb9cb52d2b7db4e7307ee68044c50744c0fcbf43812f990f6041aaca88", checked := Tryd.checked }
namespace Rows
def none {H : Type} : Left H := { results := [], args := [] }

/- WHAT THE LISTED PACKAGE-LEVEL VARIABLES READ AS WHEN THE CALL BEGINS. Each datum BY PROGRAM (the guide's laid-datum.mjs) off the statement by which the dump's own 'gosem.cut.vars' lays the variable. In a bare row this is a premise. The card (YtbcjkjmjljfhpaaDoorCards.lean) ties it to the program's text. -/
def laid_footplate_icmp6_types {H : Type} : DataW H := .agg [.lit (.int .u8 3), .lit (.int .u8 2), .lit (.int .u8 1)]

/-- 'footplatelaw24.Icmp6Puts': WHATEVER THE INPUT: true; the input reads as it did. -/
def icmp6PutsSpec : ChangeSpec := { name := "icmp6Puts", fn := fun _ => fun
  | [d1, d2, d3] => { results := [.lit (.bool true)], args := [d1, d2, d3] }
  | _ => none }
def icmp6PutsRow : OpenClaim := { program := "ytbcjkjmjljfhpaadoor", sum := "895bfbeb9cb52d2b7db4e7307ee68044c50744c0fcbf43812f990f6041aaca88", func := "footplate/footplatelaw24.Icmp6Puts", spec := "icmp6Puts", unfollowed := true, recurses := true, named := ["footplate/icmp6.types"], apart := false, laid := [("footplate/icmp6.types", laid_footplate_icmp6_types)] }
def Icmp6PutsSaid : Prop := icmp6PutsRow.holds Tryd.pinned (OpenSpec.ofChange icmp6PutsSpec)

/-- ITS FALSE NEIGHBOUR: 'it returns false'. Refute it at one input. -/
def icmp6PutsWrong : ChangeSpec := { name := "icmp6Puts", fn := fun _ => fun
  | [d1, d2, d3] => { results := [.lit (.bool false)], args := [d1, d2, d3] }
  | _ => none }
def Icmp6PutsWrongFalsely : Prop := icmp6PutsRow.holds Tryd.pinned (OpenSpec.ofChange icmp6PutsWrong)

/-- 'footplatelaw24.Icmp6Gets': WHATEVER THE INPUT: true; the input reads as it did. -/
def icmp6GetsSpec : ChangeSpec := { name := "icmp6Gets", fn := fun _ => fun
  | [d] => { results := [.lit (.bool true)], args := [d] }
  | _ => none }
def icmp6GetsRow : OpenClaim := { program := "ytbcjkjmjljfhpaadoor", sum := "895bfbeb9cb52d2b7db4e7307ee68044c50744c0fcbf43812f990f6041aaca88", func := "footplate/footplatelaw24.Icmp6Gets", spec := "icmp6Gets", unfollowed := true, recurses := true, named := ["footplate/icmp6.types"], apart := false, laid := [("footplate/icmp6.types", laid_footplate_icmp6_types)] }
def Icmp6GetsSaid : Prop := icmp6GetsRow.holds Tryd.pinned (OpenSpec.ofChange icmp6GetsSpec)

/-- ITS FALSE NEIGHBOUR: 'it returns false'. Refute it at one input. -/
def icmp6GetsWrong : ChangeSpec := { name := "icmp6Gets", fn := fun _ => fun
  | [d] => { results := [.lit (.bool false)], args := [d] }
  | _ => none }
def Icmp6GetsWrongFalsely : Prop := icmp6GetsRow.holds Tryd.pinned (OpenSpec.ofChange icmp6GetsWrong)

/-- 'footplatelaw24.Icmp6Back': WHATEVER THE INPUT: true; the input reads as it did. -/
def icmp6BackSpec : ChangeSpec := { name := "icmp6Back", fn := fun _ => fun
  | [d1, d2, d3] => { results := [.lit (.bool true)], args := [d1, d2, d3] }
  | _ => none }
def icmp6BackRow : OpenClaim := { program := "ytbcjkjmjljfhpaadoor", sum := "895bfbeb9cb52d2b7db4e7307ee68044c50744c0fcbf43812f990f6041aaca88", func := "footplate/footplatelaw24.Icmp6Back", spec := "icmp6Back", unfollowed := true, recurses := true, named := ["footplate/icmp6.types"], apart := false, laid := [("footplate/icmp6.types", laid_footplate_icmp6_types)] }
def Icmp6BackSaid : Prop := icmp6BackRow.holds Tryd.pinned (OpenSpec.ofChange icmp6BackSpec)

/-- ITS FALSE NEIGHBOUR: 'it returns false'. Refute it at one input. -/
def icmp6BackWrong : ChangeSpec := { name := "icmp6Back", fn := fun _ => fun
  | [d1, d2, d3] => { results := [.lit (.bool false)], args := [d1, d2, d3] }
  | _ => none }
def Icmp6BackWrongFalsely : Prop := icmp6BackRow.holds Tryd.pinned (OpenSpec.ofChange icmp6BackWrong)

/-- 'footplatelaw24.Icmp6Turned': WHATEVER THE INPUT: true; the input reads as it did. -/
def icmp6TurnedSpec : ChangeSpec := { name := "icmp6Turned", fn := fun _ => fun
  | [d1, d2, d3] => { results := [.lit (.bool true)], args := [d1, d2, d3] }
  | _ => none }
def icmp6TurnedRow : OpenClaim := { program := "ytbcjkjmjljfhpaadoor", sum := "895bfbeb9cb52d2b7db4e7307ee68044c50744c0fcbf43812f990f6041aaca88", func := "footplate/footplatelaw24.Icmp6Turned", spec := "icmp6Turned", unfollowed := true, recurses := true, named := ["footplate/icmp6.types"], apart := false, laid := [("footplate/icmp6.types", laid_footplate_icmp6_types)] }
def Icmp6TurnedSaid : Prop := icmp6TurnedRow.holds Tryd.pinned (OpenSpec.ofChange icmp6TurnedSpec)

/-- ITS FALSE NEIGHBOUR: 'it returns false'. Refute it at one input. -/
def icmp6TurnedWrong : ChangeSpec := { name := "icmp6Turned", fn := fun _ => fun
  | [d1, d2, d3] => { results := [.lit (.bool false)], args := [d1, d2, d3] }
  | _ => none }
def Icmp6TurnedWrongFalsely : Prop := icmp6TurnedRow.holds Tryd.pinned (OpenSpec.ofChange icmp6TurnedWrong)

/- THE SECOND FORM. 'bulk': how many values and letters a reading holds, each counted each time it is reached (what is shared counts as often as it is met; a slice's spare places count too). A statement '..UptoSaid' is the law's where the arguments, and the package variables that the reading takes, are together of bulk at most 1048576: NARROWER than '..Said'. Prove '..Said' where nothing that the law and all that it calls make is longer than what came in: it says more and counts as full. Else prove '..UptoSaid'. A law counts once. -/
mutual
def uptoBulk {H : Type} : DataW H → Nat
  | .lit (.string bytes) => bytes.length + 1
  | .lit _ => 1
  | .nil => 1
  | .ptr d => uptoBulk d + 1
  | .slice elems spare => uptoBulkAll elems + uptoBulkAll spare + 1
  | .agg parts => uptoBulkAll parts + 1
  | .iface _ d => uptoBulk d + 1
  | .map entries => uptoBulkEntries entries + 1
  | .held _ => 1
def uptoBulkAll {H : Type} : List (DataW H) → Nat
  | [] => 0
  | d :: r => uptoBulk d + uptoBulkAll r
def uptoBulkEntries {H : Type} : List (Lit × DataW H) → Nat
  | [] => 0
  | x :: r => uptoBulkEntry x + uptoBulkEntries r
def uptoBulkEntry {H : Type} : Lit × DataW H → Nat
  | (.string bytes, d) => bytes.length + uptoBulk d + 1
  | (_, d) => uptoBulk d + 1
 end
def uptoSmall : (H : Type) → List (DataW H) → Bool := fun _ ds => decide (uptoBulkAll ds ≤ 1048576)
def OpenSpec.upto (s : _root_.Go.ChangeSpec) : _root_.Go.OpenSpec := { _root_.Go.OpenSpec.ofChange s with cond := some uptoSmall }

/-- 'footplatelaw24.Icmp6Puts', WHERE WHAT IT READS IS OF BULK AT MOST 1048576: true; the input reads as it did. -/
def icmp6PutsUptoRow : OpenClaim := { program := "ytbcjkjmjljfhpaadoor", sum := "895bfbeb9cb52d2b7db4e7307ee68044c50744c0fcbf43812f990f6041aaca88", func := "footplate/footplatelaw24.Icmp6Puts", spec := "icmp6Puts", unfollowed := true, recurses := true, named := ["footplate/icmp6.types"], apart := false, laid := [("footplate/icmp6.types", laid_footplate_icmp6_types)], narrowed := true }
def Icmp6PutsUptoSaid : Prop := icmp6PutsUptoRow.holds Tryd.pinned (OpenSpec.upto icmp6PutsSpec)

/-- 'footplatelaw24.Icmp6Gets', WHERE WHAT IT READS IS OF BULK AT MOST 1048576: true; the input reads as it did. -/
def icmp6GetsUptoRow : OpenClaim := { program := "ytbcjkjmjljfhpaadoor", sum := "895bfbeb9cb52d2b7db4e7307ee68044c50744c0fcbf43812f990f6041aaca88", func := "footplate/footplatelaw24.Icmp6Gets", spec := "icmp6Gets", unfollowed := true, recurses := true, named := ["footplate/icmp6.types"], apart := false, laid := [("footplate/icmp6.types", laid_footplate_icmp6_types)], narrowed := true }
def Icmp6GetsUptoSaid : Prop := icmp6GetsUptoRow.holds Tryd.pinned (OpenSpec.upto icmp6GetsSpec)

/-- 'footplatelaw24.Icmp6Back', WHERE WHAT IT READS IS OF BULK AT MOST 1048576: true; the input reads as it did. -/
def icmp6BackUptoRow : OpenClaim := { program := "ytbcjkjmjljfhpaadoor", sum := "895bfbeb9cb52d2b7db4e7307ee68044c50744c0fcbf43812f990f6041aaca88", func := "footplate/footplatelaw24.Icmp6Back", spec := "icmp6Back", unfollowed := true, recurses := true, named := ["footplate/icmp6.types"], apart := false, laid := [("footplate/icmp6.types", laid_footplate_icmp6_types)], narrowed := true }
def Icmp6BackUptoSaid : Prop := icmp6BackUptoRow.holds Tryd.pinned (OpenSpec.upto icmp6BackSpec)

/-- 'footplatelaw24.Icmp6Turned', WHERE WHAT IT READS IS OF BULK AT MOST 1048576: true; the input reads as it did. -/
def icmp6TurnedUptoRow : OpenClaim := { program := "ytbcjkjmjljfhpaadoor", sum := "895bfbeb9cb52d2b7db4e7307ee68044c50744c0fcbf43812f990f6041aaca88", func := "footplate/footplatelaw24.Icmp6Turned", spec := "icmp6Turned", unfollowed := true, recurses := true, named := ["footplate/icmp6.types"], apart := false, laid := [("footplate/icmp6.types", laid_footplate_icmp6_types)], narrowed := true }
def Icmp6TurnedUptoSaid : Prop := icmp6TurnedUptoRow.holds Tryd.pinned (OpenSpec.upto icmp6TurnedSpec)

end Rows
end Go.Proofs.YtbcjkjmjljfhpaaDoor

/-
  No cell of these rows narrows 'for every input' (looked for: loops, veiled, ifaces, maps, wideKeys, modest, calm, conditions, laid).
  DERIVED. THE GIVEN ROWS OF THIS SEAT. 3 by the template 'for every input the law returns true; each argument reads behind the call as it read before'; 0 by the template 'total and deterministic' (their statements: YtdmgomknamdcfaaTotals.lean).
  GIVEN WITH THE SEED: the statements are not yours to turn. If you find one false, say at which input.
  Laid BY PROGRAM, IN A SANDBOX (cutbox-rows.mjs): the forced cells as the released guide's own fill.sh prints them over the translation 3dd618ccad14a1e7… (all of the seat's roots in one cut). By AI agents, Wed Nov 11 2026. No macro, syntax, notation, axiom, sorry.
-/
import Derived.Test.YtdmgomknamdcfaaChecked
import GoSem.Claim
import GoSem.ClaimJoined
import GoSem.ClaimMapViews
import Derived.JoinedTies
import Derived.KernelRfl
namespace Go.Proofs.Ytdmgomknamdcfaa
/- THE CELL 'sum', in the pinned program and in every row, IS THE sha256 OF THE DUMP (.gsa) THAT YtdmgomknamdcfaaProg.lean LOADS. Nothing in Lean hashes anything: it is a label: what it is worth is what the hold of that sum in a sandbox is worth. -/
noncomputable def Try.pinned : Pinned := { name := "ytdmgomknamdcfaa", sum := "3dd618ccad14a1e7375a329d3d4d841377ee334d334288e5aaa81aa31eddd859", checked := Try.checked }
namespace Rows
def none {H : Type} : Left H := { results := [], args := [] }

/-- 'footplatelaw10.FibLooks': WHATEVER THE INPUT: true; the input reads as it did. -/
def fibLooksSpec : ChangeSpec := { name := "fibLooks", fn := fun _ => fun
  | [d1, d2, d3] => { results := [.lit (.bool true)], args := [d1, d2, d3] }
  | _ => none }
def fibLooksRow : OpenClaim := { program := "ytdmgomknamdcfaa", sum := "3dd618ccad14a1e7375a329d3d4d841377ee334d334288e5aaa81aa31eddd859", func := "footplate/footplatelaw10.FibLooks", spec := "fibLooks", unfollowed := true, recurses := true, apart := false }
def FibLooksSaid : Prop := fibLooksRow.holds Try.pinned (OpenSpec.ofChange fibLooksSpec)

/-- ITS FALSE NEIGHBOUR: 'it returns false'. Refute it at one input. -/
def fibLooksWrong : ChangeSpec := { name := "fibLooks", fn := fun _ => fun
  | [d1, d2, d3] => { results := [.lit (.bool false)], args := [d1, d2, d3] }
  | _ => none }
def FibLooksWrongFalsely : Prop := fibLooksRow.holds Try.pinned (OpenSpec.ofChange fibLooksWrong)

/-- 'footplatelaw10.FibApart': WHATEVER THE INPUT: true; the input reads as it did. -/
def fibApartSpec : ChangeSpec := { name := "fibApart", fn := fun _ => fun
  | [d1, d2] => { results := [.lit (.bool true)], args := [d1, d2] }
  | _ => none }
def fibApartRow : OpenClaim := { program := "ytdmgomknamdcfaa", sum := "3dd618ccad14a1e7375a329d3d4d841377ee334d334288e5aaa81aa31eddd859", func := "footplate/footplatelaw10.FibApart", spec := "fibApart", unfollowed := true, recurses := true, apart := false }
def FibApartSaid : Prop := fibApartRow.holds Try.pinned (OpenSpec.ofChange fibApartSpec)

/-- ITS FALSE NEIGHBOUR: 'it returns false'. Refute it at one input. -/
def fibApartWrong : ChangeSpec := { name := "fibApart", fn := fun _ => fun
  | [d1, d2] => { results := [.lit (.bool false)], args := [d1, d2] }
  | _ => none }
def FibApartWrongFalsely : Prop := fibApartRow.holds Try.pinned (OpenSpec.ofChange fibApartWrong)

/-- 'footplatelaw10.FibRuns': WHATEVER THE INPUT: true; the input reads as it did. -/
def fibRunsSpec : ChangeSpec := { name := "fibRuns", fn := fun _ => fun
  | [d1, d2, d3] => { results := [.lit (.bool true)], args := [d1, d2, d3] }
  | _ => none }
def fibRunsRow : OpenClaim := { program := "ytdmgomknamdcfaa", sum := "3dd618ccad14a1e7375a329d3d4d841377ee334d334288e5aaa81aa31eddd859", func := "footplate/footplatelaw10.FibRuns", spec := "fibRuns", unfollowed := true, recurses := true, apart := false }
def FibRunsSaid : Prop := fibRunsRow.holds Try.pinned (OpenSpec.ofChange fibRunsSpec)

/-- ITS FALSE NEIGHBOUR: 'it returns false'. Refute it at one input. -/
def fibRunsWrong : ChangeSpec := { name := "fibRuns", fn := fun _ => fun
  | [d1, d2, d3] => { results := [.lit (.bool false)], args := [d1, d2, d3] }
  | _ => none }
def FibRunsWrongFalsely : Prop := fibRunsRow.holds Try.pinned (OpenSpec.ofChange fibRunsWrong)

/- THE SECOND FORM. 'bulk': how many values and letters a reading holds, each counted each time it is reached (what is shared counts as often as it is met; a slice's spare places count too). A statement '..UptoSaid' is the law's where the arguments, and the package variables that the reading takes, are together of bulk at most 1048576: NARROWER than '..Said'. Prove '..Said' where nothing that the law and all that it calls make is longer than what came in: it says more and counts as full. Else prove '..UptoSaid'. A law counts once. -/
mutual
def uptoBulk {H : Type} : DataW H → Nat
  | .lit (.string bytes) => bytes.length + 1
  | .lit _ => 1
  | .nil => 1
  | .ptr d => uptoBulk d + 1
  | .slice elems spare => uptoBulkAll elems + uptoBulkAll spare + 1
  | .agg parts => uptoBulkAll parts + 1
  | .iface _ d => uptoBulk d + 1
  | .map entries => uptoBulkEntries entries + 1
  | .held _ => 1
def uptoBulkAll {H : Type} : List (DataW H) → Nat
  | [] => 0
  | d :: r => uptoBulk d + uptoBulkAll r
def uptoBulkEntries {H : Type} : List (Lit × DataW H) → Nat
  | [] => 0
  | x :: r => uptoBulkEntry x + uptoBulkEntries r
def uptoBulkEntry {H : Type} : Lit × DataW H → Nat
  | (.string bytes, d) => bytes.length + uptoBulk d + 1
  | (_, d) => uptoBulk d + 1
 end
def uptoSmall : (H : Type) → List (DataW H) → Bool := fun _ ds => decide (uptoBulkAll ds ≤ 1048576)
def OpenSpec.upto (s : _root_.Go.ChangeSpec) : _root_.Go.OpenSpec := { _root_.Go.OpenSpec.ofChange s with cond := some uptoSmall }

/-- 'footplatelaw10.FibLooks', WHERE WHAT IT READS IS OF BULK AT MOST 1048576: true; the input reads as it did. -/
def fibLooksUptoRow : OpenClaim := { program := "ytdmgomknamdcfaa", sum := "3dd618ccad14a1e7375a329d3d4d841377ee334d334288e5aaa81aa31eddd859", func := "footplate/footplatelaw10.FibLooks", spec := "fibLooks", unfollowed := true, recurses := true, apart := false, narrowed := true }
def FibLooksUptoSaid : Prop := fibLooksUptoRow.holds Try.pinned (OpenSpec.upto fibLooksSpec)

/-- 'footplatelaw10.FibApart', WHERE WHAT IT READS IS OF BULK AT MOST 1048576: true; the input reads as it did. -/
def fibApartUptoRow : OpenClaim := { program := "ytdmgomknamdcfaa", sum := "3dd618ccad14a1e7375a329d3d4d841377ee334d334288e5aaa81aa31eddd859", func := "footplate/footplatelaw10.FibApart", spec := "fibApart", unfollowed := true, recurses := true, apart := false, narrowed := true }
def FibApartUptoSaid : Prop := fibApartUptoRow.holds Try.pinned (OpenSpec.upto fibApartSpec)

/-- 'footplatelaw10.FibRuns', WHERE WHAT IT READS IS OF BULK AT MOST 1048576: true; the input reads as it did. -/
def fibRunsUptoRow : OpenClaim := { program := "ytdmgomknamdcfaa", sum := "3dd618ccad14a1e7375a329d3d4d841377ee334d334288e5aaa81aa31eddd859", func := "footplate/footplatelaw10.FibRuns", spec := "fibRuns", unfollowed := true, recurses := true, apart := false, narrowed := true }
def FibRunsUptoSaid : Prop := fibRunsUptoRow.holds Try.pinned (OpenSpec.upto fibRunsSpec)

end Rows
end Go.Proofs.Ytdmgomknamdcfaa

/-
  No cell of these rows narrows 'for every input' (looked for: loops, veiled, ifaces, maps, wideKeys, modest, calm, conditions, laid).
  DERIVED. THE GIVEN ROWS OF THIS SEAT. 4 by the template 'for every input the law returns true; each argument reads behind the call as it read before'; 0 by the template 'total and deterministic' (their statements: YthjjcglheialfaaTotals.lean).
  GIVEN WITH THE SEED: the statements are not yours to turn. If you find one false, say at which input.
  Laid BY PROGRAM, IN A SANDBOX (cutbox-rows.mjs): the forced cells as the released guide's own fill.sh prints them over the translation 08ed9eb55b3e9d51… (all of the seat's roots in one cut). By AI agents, Wed Nov 11 2026. No macro, syntax, notation, axiom, sorry.
-/
import Derived.Test.YthjjcglheialfaaChecked
import GoSem.Claim
import GoSem.ClaimJoined
import GoSem.ClaimMapViews
import Derived.JoinedTies
import Derived.KernelRfl
namespace Go.Proofs.Ythjjcglheialfaa
/- THE CELL 'sum', in the pinned program and in every row, IS THE sha256 OF THE DUMP (.gsa) THAT YthjjcglheialfaaProg.lean LOADS. Nothing in Lean hashes anything: it is a label: what it is worth is what the hold of that sum in a sandbox is worth. -/
noncomputable def Try.pinned : Pinned := { name := "ythjjcglheialfaa", sum := "08ed9eb55b3e9d5119a7524b071e3fe7560f5807bcd620063087f84f35a2867c", checked := Try.checked }
namespace Rows
def none {H : Type} : Left H := { results := [], args := [] }

/-- 'footplatelaw17.FlowOf': WHATEVER THE INPUT: true; the input reads as it did. -/
def flowOfSpec : ChangeSpec := { name := "flowOf", fn := fun _ => fun
  | [d] => { results := [.lit (.bool true)], args := [d] }
  | _ => none }
def flowOfRow : OpenClaim := { program := "ythjjcglheialfaa", sum := "08ed9eb55b3e9d5119a7524b071e3fe7560f5807bcd620063087f84f35a2867c", func := "footplate/footplatelaw17.FlowOf", spec := "flowOf", unfollowed := true, recurses := true, apart := false }
def FlowOfSaid : Prop := flowOfRow.holds Try.pinned (OpenSpec.ofChange flowOfSpec)

/-- ITS FALSE NEIGHBOUR: 'it returns false'. Refute it at one input. -/
def flowOfWrong : ChangeSpec := { name := "flowOf", fn := fun _ => fun
  | [d] => { results := [.lit (.bool false)], args := [d] }
  | _ => none }
def FlowOfWrongFalsely : Prop := flowOfRow.holds Try.pinned (OpenSpec.ofChange flowOfWrong)

/-- 'footplatelaw17.FlowMixes': WHATEVER THE INPUT: true; the input reads as it did. -/
def flowMixesSpec : ChangeSpec := { name := "flowMixes", fn := fun _ => fun
  | [d1, d2, d3] => { results := [.lit (.bool true)], args := [d1, d2, d3] }
  | _ => none }
def flowMixesRow : OpenClaim := { program := "ythjjcglheialfaa", sum := "08ed9eb55b3e9d5119a7524b071e3fe7560f5807bcd620063087f84f35a2867c", func := "footplate/footplatelaw17.FlowMixes", spec := "flowMixes", unfollowed := true, recurses := true, apart := false }
def FlowMixesSaid : Prop := flowMixesRow.holds Try.pinned (OpenSpec.ofChange flowMixesSpec)

/-- ITS FALSE NEIGHBOUR: 'it returns false'. Refute it at one input. -/
def flowMixesWrong : ChangeSpec := { name := "flowMixes", fn := fun _ => fun
  | [d1, d2, d3] => { results := [.lit (.bool false)], args := [d1, d2, d3] }
  | _ => none }
def FlowMixesWrongFalsely : Prop := flowMixesRow.holds Try.pinned (OpenSpec.ofChange flowMixesWrong)

/-- 'footplatelaw17.FlowSame': WHATEVER THE INPUT: true; the input reads as it did. -/
def flowSameSpec : ChangeSpec := { name := "flowSame", fn := fun _ => fun
  | [d1, d2, d3] => { results := [.lit (.bool true)], args := [d1, d2, d3] }
  | _ => none }
def flowSameRow : OpenClaim := { program := "ythjjcglheialfaa", sum := "08ed9eb55b3e9d5119a7524b071e3fe7560f5807bcd620063087f84f35a2867c", func := "footplate/footplatelaw17.FlowSame", spec := "flowSame", unfollowed := true, recurses := true, apart := false }
def FlowSameSaid : Prop := flowSameRow.holds Try.pinned (OpenSpec.ofChange flowSameSpec)

/-- ITS FALSE NEIGHBOUR: 'it returns false'. Refute it at one input. -/
def flowSameWrong : ChangeSpec := { name := "flowSame", fn := fun _ => fun
  | [d1, d2, d3] => { results := [.lit (.bool false)], args := [d1, d2, d3] }
  | _ => none }
def FlowSameWrongFalsely : Prop := flowSameRow.holds Try.pinned (OpenSpec.ofChange flowSameWrong)

/-- 'footplatelaw17.FlowApart': WHATEVER THE INPUT: true; the input reads as it did. -/
def flowApartSpec : ChangeSpec := { name := "flowApart", fn := fun _ => fun
  | [d1, d2] => { results := [.lit (.bool true)], args := [d1, d2] }
  | _ => none }
def flowApartRow : OpenClaim := { program := "ythjjcglheialfaa", sum := "08ed9eb55b3e9d5119a7524b071e3fe7560f5807bcd620063087f84f35a2867c", func := "footplate/footplatelaw17.FlowApart", spec := "flowApart", unfollowed := true, recurses := true, apart := false }
def FlowApartSaid : Prop := flowApartRow.holds Try.pinned (OpenSpec.ofChange flowApartSpec)

/-- ITS FALSE NEIGHBOUR: 'it returns false'. Refute it at one input. -/
def flowApartWrong : ChangeSpec := { name := "flowApart", fn := fun _ => fun
  | [d1, d2] => { results := [.lit (.bool false)], args := [d1, d2] }
  | _ => none }
def FlowApartWrongFalsely : Prop := flowApartRow.holds Try.pinned (OpenSpec.ofChange flowApartWrong)

/- THE SECOND FORM. 'bulk': how many values and letters a reading holds, each counted each time it is reached (what is shared counts as often as it is met; a slice's spare places count too). A statement '..UptoSaid' is the law's where the arguments, and the package variables that the reading takes, are together of bulk at most 1048576: NARROWER than '..Said'. Prove '..Said' where nothing that the law and all that it calls make is longer than what came in: it says more and counts as full. Else prove '..UptoSaid'. A law counts once. -/
mutual
def uptoBulk {H : Type} : DataW H → Nat
  | .lit (.string bytes) => bytes.length + 1
  | .lit _ => 1
  | .nil => 1
  | .ptr d => uptoBulk d + 1
  | .slice elems spare => uptoBulkAll elems + uptoBulkAll spare + 1
  | .agg parts => uptoBulkAll parts + 1
  | .iface _ d => uptoBulk d + 1
  | .map entries => uptoBulkEntries entries + 1
  | .held _ => 1
def uptoBulkAll {H : Type} : List (DataW H) → Nat
  | [] => 0
  | d :: r => uptoBulk d + uptoBulkAll r
def uptoBulkEntries {H : Type} : List (Lit × DataW H) → Nat
  | [] => 0
  | x :: r => uptoBulkEntry x + uptoBulkEntries r
def uptoBulkEntry {H : Type} : Lit × DataW H → Nat
  | (.string bytes, d) => bytes.length + uptoBulk d + 1
  | (_, d) => uptoBulk d + 1
 end
def uptoSmall : (H : Type) → List (DataW H) → Bool := fun _ ds => decide (uptoBulkAll ds ≤ 1048576)
def OpenSpec.upto (s : _root_.Go.ChangeSpec) : _root_.Go.OpenSpec := { _root_.Go.OpenSpec.ofChange s with cond := some uptoSmall }

/-- 'footplatelaw17.FlowOf', WHERE WHAT IT READS IS OF BULK AT MOST 1048576: true; the input reads as it did. -/
def flowOfUptoRow : OpenClaim := { program := "ythjjcglheialfaa", sum := "08ed9eb55b3e9d5119a7524b071e3fe7560f5807bcd620063087f84f35a2867c", func := "footplate/footplatelaw17.FlowOf", spec := "flowOf", unfollowed := true, recurses := true, apart := false, narrowed := true }
def FlowOfUptoSaid : Prop := flowOfUptoRow.holds Try.pinned (OpenSpec.upto flowOfSpec)

/-- 'footplatelaw17.FlowMixes', WHERE WHAT IT READS IS OF BULK AT MOST 1048576: true; the input reads as it did. -/
def flowMixesUptoRow : OpenClaim := { program := "ythjjcglheialfaa", sum := "08ed9eb55b3e9d5119a7524b071e3fe7560f5807bcd620063087f84f35a2867c", func := "footplate/footplatelaw17.FlowMixes", spec := "flowMixes", unfollowed := true, recurses := true, apart := false, narrowed := true }
def FlowMixesUptoSaid : Prop := flowMixesUptoRow.holds Try.pinned (OpenSpec.upto flowMixesSpec)

/-- 'footplatelaw17.FlowSame', WHERE WHAT IT READS IS OF BULK AT MOST 1048576: true; the input reads as it did. -/
def flowSameUptoRow : OpenClaim := { program := "ythjjcglheialfaa", sum := "08ed9eb55b3e9d5119a7524b071e3fe7560f5807bcd620063087f84f35a2867c", func := "footplate/footplatelaw17.FlowSame", spec := "flowSame", unfollowed := true, recurses := true, apart := false, narrowed := true }
def FlowSameUptoSaid : Prop := flowSameUptoRow.holds Try.pinned (OpenSpec.upto flowSameSpec)

/-- 'footplatelaw17.FlowApart', WHERE WHAT IT READS IS OF BULK AT MOST 1048576: true; the input reads as it did. -/
def flowApartUptoRow : OpenClaim := { program := "ythjjcglheialfaa", sum := "08ed9eb55b3e9d5119a7524b071e3fe7560f5807bcd620063087f84f35a2867c", func := "footplate/footplatelaw17.FlowApart", spec := "flowApart", unfollowed := true, recurses := true, apart := false, narrowed := true }
def FlowApartUptoSaid : Prop := flowApartUptoRow.holds Try.pinned (OpenSpec.upto flowApartSpec)

end Rows
end Go.Proofs.Ythjjcglheialfaa

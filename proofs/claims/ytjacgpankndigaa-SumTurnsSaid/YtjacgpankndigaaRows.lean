/-
  No cell of these rows narrows 'for every input' (looked for: loops, veiled, ifaces, maps, wideKeys, modest, calm, conditions, laid).
  DERIVED. THE GIVEN ROWS OF THIS SEAT. 5 by the template 'for every input the law returns true; each argument reads behind the call as it read before'; 0 by the template 'total and deterministic' (their statements: YtjacgpankndigaaTotals.lean).
  GIVEN WITH THE SEED: the statements are not yours to turn. If you find one false, say at which input.
  Laid BY PROGRAM, IN A SANDBOX (cutbox-rows.mjs): the forced cells as the released guide's own fill.sh prints them over the translation 44750fa105e2bba9… (all of the seat's roots in one cut). By AI agents, Wed Nov 11 2026. No macro, syntax, notation, axiom, sorry.
-/
import Derived.Test.YtjacgpankndigaaChecked
import GoSem.Claim
import GoSem.ClaimJoined
import GoSem.ClaimMapViews
import Derived.JoinedTies
import Derived.KernelRfl
namespace Go.Proofs.Ytjacgpankndigaa
/- THE CELL 'sum', in the pinned program and in every row, IS THE sha256 OF THE DUMP (.gsa) THAT YtjacgpankndigaaProg.lean LOADS. Nothing in Lean hashes anything: it is a label: what it is worth is what the hold of that sum in a sandbox is worth. -/
noncomputable def Try.pinned : Pinned := { name := "ytjacgpankndigaa", sum := "44750fa105e2bba9f002234f27aa7de743f280b9526a40cd8ebb48ab0b030263", checked := Try.checked }
namespace Rows
def none {H : Type} : Left H := { results := [], args := [] }

/-- 'footplatelaw02.SumOf': WHATEVER THE INPUT: true; the input reads as it did. -/
def sumOfSpec : ChangeSpec := { name := "sumOf", fn := fun _ => fun
  | [d1, d2, d3] => { results := [.lit (.bool true)], args := [d1, d2, d3] }
  | _ => none }
def sumOfRow : OpenClaim := { program := "ytjacgpankndigaa", sum := "44750fa105e2bba9f002234f27aa7de743f280b9526a40cd8ebb48ab0b030263", func := "footplate/footplatelaw02.SumOf", spec := "sumOf", unfollowed := true, recurses := true, apart := false }
def SumOfSaid : Prop := sumOfRow.holds Try.pinned (OpenSpec.ofChange sumOfSpec)

/-- ITS FALSE NEIGHBOUR: 'it returns false'. Refute it at one input. -/
def sumOfWrong : ChangeSpec := { name := "sumOf", fn := fun _ => fun
  | [d1, d2, d3] => { results := [.lit (.bool false)], args := [d1, d2, d3] }
  | _ => none }
def SumOfWrongFalsely : Prop := sumOfRow.holds Try.pinned (OpenSpec.ofChange sumOfWrong)

/-- 'footplatelaw02.SumTurns': WHATEVER THE INPUT: true; the input reads as it did. -/
def sumTurnsSpec : ChangeSpec := { name := "sumTurns", fn := fun _ => fun
  | [d1, d2, d3] => { results := [.lit (.bool true)], args := [d1, d2, d3] }
  | _ => none }
def sumTurnsRow : OpenClaim := { program := "ytjacgpankndigaa", sum := "44750fa105e2bba9f002234f27aa7de743f280b9526a40cd8ebb48ab0b030263", func := "footplate/footplatelaw02.SumTurns", spec := "sumTurns", unfollowed := true, recurses := true, apart := false }
def SumTurnsSaid : Prop := sumTurnsRow.holds Try.pinned (OpenSpec.ofChange sumTurnsSpec)

/-- ITS FALSE NEIGHBOUR: 'it returns false'. Refute it at one input. -/
def sumTurnsWrong : ChangeSpec := { name := "sumTurns", fn := fun _ => fun
  | [d1, d2, d3] => { results := [.lit (.bool false)], args := [d1, d2, d3] }
  | _ => none }
def SumTurnsWrongFalsely : Prop := sumTurnsRow.holds Try.pinned (OpenSpec.ofChange sumTurnsWrong)

/-- 'footplatelaw02.SumRight': WHATEVER THE INPUT: true; the input reads as it did. -/
def sumRightSpec : ChangeSpec := { name := "sumRight", fn := fun _ => fun
  | [d1, d2] => { results := [.lit (.bool true)], args := [d1, d2] }
  | _ => none }
def sumRightRow : OpenClaim := { program := "ytjacgpankndigaa", sum := "44750fa105e2bba9f002234f27aa7de743f280b9526a40cd8ebb48ab0b030263", func := "footplate/footplatelaw02.SumRight", spec := "sumRight", unfollowed := true, recurses := true, apart := false }
def SumRightSaid : Prop := sumRightRow.holds Try.pinned (OpenSpec.ofChange sumRightSpec)

/-- ITS FALSE NEIGHBOUR: 'it returns false'. Refute it at one input. -/
def sumRightWrong : ChangeSpec := { name := "sumRight", fn := fun _ => fun
  | [d1, d2] => { results := [.lit (.bool false)], args := [d1, d2] }
  | _ => none }
def SumRightWrongFalsely : Prop := sumRightRow.holds Try.pinned (OpenSpec.ofChange sumRightWrong)

/-- 'footplatelaw02.SumAnew': WHATEVER THE INPUT: true; the input reads as it did. -/
def sumAnewSpec : ChangeSpec := { name := "sumAnew", fn := fun _ => fun
  | [d1, d2, d3] => { results := [.lit (.bool true)], args := [d1, d2, d3] }
  | _ => none }
def sumAnewRow : OpenClaim := { program := "ytjacgpankndigaa", sum := "44750fa105e2bba9f002234f27aa7de743f280b9526a40cd8ebb48ab0b030263", func := "footplate/footplatelaw02.SumAnew", spec := "sumAnew", unfollowed := true, recurses := true, apart := false }
def SumAnewSaid : Prop := sumAnewRow.holds Try.pinned (OpenSpec.ofChange sumAnewSpec)

/-- ITS FALSE NEIGHBOUR: 'it returns false'. Refute it at one input. -/
def sumAnewWrong : ChangeSpec := { name := "sumAnew", fn := fun _ => fun
  | [d1, d2, d3] => { results := [.lit (.bool false)], args := [d1, d2, d3] }
  | _ => none }
def SumAnewWrongFalsely : Prop := sumAnewRow.holds Try.pinned (OpenSpec.ofChange sumAnewWrong)

/-- 'footplatelaw02.SumParts': WHATEVER THE INPUT: true; the input reads as it did. -/
def sumPartsSpec : ChangeSpec := { name := "sumParts", fn := fun _ => fun
  | [d1, d2] => { results := [.lit (.bool true)], args := [d1, d2] }
  | _ => none }
def sumPartsRow : OpenClaim := { program := "ytjacgpankndigaa", sum := "44750fa105e2bba9f002234f27aa7de743f280b9526a40cd8ebb48ab0b030263", func := "footplate/footplatelaw02.SumParts", spec := "sumParts", unfollowed := true, recurses := true, apart := false }
def SumPartsSaid : Prop := sumPartsRow.holds Try.pinned (OpenSpec.ofChange sumPartsSpec)

/-- ITS FALSE NEIGHBOUR: 'it returns false'. Refute it at one input. -/
def sumPartsWrong : ChangeSpec := { name := "sumParts", fn := fun _ => fun
  | [d1, d2] => { results := [.lit (.bool false)], args := [d1, d2] }
  | _ => none }
def SumPartsWrongFalsely : Prop := sumPartsRow.holds Try.pinned (OpenSpec.ofChange sumPartsWrong)

/- THE SECOND FORM. 'bulk': how many values and letters a reading holds, each counted each time it is reached (what is shared counts as often as it is met; a slice's spare places count too). A statement '..UptoSaid' is the law's where the arguments, and the package variables that the reading takes, are together of bulk at most 1048576: NARROWER than '..Said'. Prove '..Said' where nothing that the law and all that it calls make is longer than what came in: it says more and counts as full. Else prove '..UptoSaid'. A law counts once. -/
mutual
def uptoBulk {H : Type} : DataW H → Nat
  | .lit (.string bytes) => bytes.length + 1
  | .lit _ => 1
  | .nil => 1
  | .ptr d => uptoBulk d + 1
  | .slice elems spare => uptoBulkAll elems + uptoBulkAll spare + 1
  | .agg parts => uptoBulkAll parts + 1
  | .iface _ d => uptoBulk d + 1
  | .map entries => uptoBulkEntries entries + 1
  | .held _ => 1
def uptoBulkAll {H : Type} : List (DataW H) → Nat
  | [] => 0
  | d :: r => uptoBulk d + uptoBulkAll r
def uptoBulkEntries {H : Type} : List (Lit × DataW H) → Nat
  | [] => 0
  | x :: r => uptoBulkEntry x + uptoBulkEntries r
def uptoBulkEntry {H : Type} : Lit × DataW H → Nat
  | (.string bytes, d) => bytes.length + uptoBulk d + 1
  | (_, d) => uptoBulk d + 1
 end
def uptoSmall : (H : Type) → List (DataW H) → Bool := fun _ ds => decide (uptoBulkAll ds ≤ 1048576)
def OpenSpec.upto (s : _root_.Go.ChangeSpec) : _root_.Go.OpenSpec := { _root_.Go.OpenSpec.ofChange s with cond := some uptoSmall }

/-- 'footplatelaw02.SumOf', WHERE WHAT IT READS IS OF BULK AT MOST 1048576: true; the input reads as it did. -/
def sumOfUptoRow : OpenClaim := { program := "ytjacgpankndigaa", sum := "44750fa105e2bba9f002234f27aa7de743f280b9526a40cd8ebb48ab0b030263", func := "footplate/footplatelaw02.SumOf", spec := "sumOf", unfollowed := true, recurses := true, apart := false, narrowed := true }
def SumOfUptoSaid : Prop := sumOfUptoRow.holds Try.pinned (OpenSpec.upto sumOfSpec)

/-- 'footplatelaw02.SumTurns', WHERE WHAT IT READS IS OF BULK AT MOST 1048576: true; the input reads as it did. -/
def sumTurnsUptoRow : OpenClaim := { program := "ytjacgpankndigaa", sum := "44750fa105e2bba9f002234f27aa7de743f280b9526a40cd8ebb48ab0b030263", func := "footplate/footplatelaw02.SumTurns", spec := "sumTurns", unfollowed := true, recurses := true, apart := false, narrowed := true }
def SumTurnsUptoSaid : Prop := sumTurnsUptoRow.holds Try.pinned (OpenSpec.upto sumTurnsSpec)

/-- 'footplatelaw02.SumRight', WHERE WHAT IT READS IS OF BULK AT MOST 1048576: true; the input reads as it did. -/
def sumRightUptoRow : OpenClaim := { program := "ytjacgpankndigaa", sum := "44750fa105e2bba9f002234f27aa7de743f280b9526a40cd8ebb48ab0b030263", func := "footplate/footplatelaw02.SumRight", spec := "sumRight", unfollowed := true, recurses := true, apart := false, narrowed := true }
def SumRightUptoSaid : Prop := sumRightUptoRow.holds Try.pinned (OpenSpec.upto sumRightSpec)

/-- 'footplatelaw02.SumAnew', WHERE WHAT IT READS IS OF BULK AT MOST 1048576: true; the input reads as it did. -/
def sumAnewUptoRow : OpenClaim := { program := "ytjacgpankndigaa", sum := "44750fa105e2bba9f002234f27aa7de743f280b9526a40cd8ebb48ab0b030263", func := "footplate/footplatelaw02.SumAnew", spec := "sumAnew", unfollowed := true, recurses := true, apart := false, narrowed := true }
def SumAnewUptoSaid : Prop := sumAnewUptoRow.holds Try.pinned (OpenSpec.upto sumAnewSpec)

/-- 'footplatelaw02.SumParts', WHERE WHAT IT READS IS OF BULK AT MOST 1048576: true; the input reads as it did. -/
def sumPartsUptoRow : OpenClaim := { program := "ytjacgpankndigaa", sum := "44750fa105e2bba9f002234f27aa7de743f280b9526a40cd8ebb48ab0b030263", func := "footplate/footplatelaw02.SumParts", spec := "sumParts", unfollowed := true, recurses := true, apart := false, narrowed := true }
def SumPartsUptoSaid : Prop := sumPartsUptoRow.holds Try.pinned (OpenSpec.upto sumPartsSpec)

end Rows
end Go.Proofs.Ytjacgpankndigaa

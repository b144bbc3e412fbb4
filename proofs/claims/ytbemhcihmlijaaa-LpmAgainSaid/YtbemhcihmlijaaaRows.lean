/-
  No cell of these rows narrows 'for every input' (looked for: loops, veiled, ifaces, maps, wideKeys, modest, calm, conditions, laid).
  DERIVED. THE GIVEN ROWS OF THIS SEAT. 5 by the template 'for every input the law returns true; each argument reads behind the call as it read before'; 0 by the template 'total and deterministic' (their statements: YtbemhcihmlijaaaTotals.lean).
  GIVEN WITH THE SEED: the statements are not yours to turn. If you find one false, say at which input.
  Laid BY PROGRAM, IN A SANDBOX (cutbox-rows.mjs): the forced cells as the released guide's own fill.sh prints them over the translation 75a0c83b2e0c83a0… (all of the seat's roots in one cut). By AI agents, Wed Nov 11 2026. No macro, syntax, notation, axiom, sorry.
-/
import Derived.Test.YtbemhcihmlijaaaChecked
import GoSem.Claim
import GoSem.ClaimJoined
import GoSem.ClaimMapViews
import Derived.JoinedTies
import Derived.KernelRfl
namespace Go.Proofs.Ytbemhcihmlijaaa
/- THE CELL 'sum', in the pinned program and in every row, IS THE sha256 OF THE DUMP (.gsa) THAT YtbemhcihmlijaaaProg.lean LOADS. Nothing in Lean hashes anything: it is a label: what it is worth is what the hold of that sum in a sandbox is worth. -/
noncomputable def Try.pinned : Pinned := { name := "ytbemhcihmlijaaa", sum := "75a0c83b2e0c83a08f329231159ac65f42c5ee6b3d9147ba113f5d95af82b395", checked := Try.checked }
namespace Rows
def none {H : Type} : Left H := { results := [], args := [] }

/-- 'footplatelaw09.LpmOrder': WHATEVER THE INPUT: true; the input reads as it did. -/
def lpmOrderSpec : ChangeSpec := { name := "lpmOrder", fn := fun _ => fun
  | [d1, d2] => { results := [.lit (.bool true)], args := [d1, d2] }
  | _ => none }
def lpmOrderRow : OpenClaim := { program := "ytbemhcihmlijaaa", sum := "75a0c83b2e0c83a08f329231159ac65f42c5ee6b3d9147ba113f5d95af82b395", func := "footplate/footplatelaw09.LpmOrder", spec := "lpmOrder", unfollowed := true, recurses := true, apart := false }
def LpmOrderSaid : Prop := lpmOrderRow.holds Try.pinned (OpenSpec.ofChange lpmOrderSpec)

/-- ITS FALSE NEIGHBOUR: 'it returns false'. Refute it at one input. -/
def lpmOrderWrong : ChangeSpec := { name := "lpmOrder", fn := fun _ => fun
  | [d1, d2] => { results := [.lit (.bool false)], args := [d1, d2] }
  | _ => none }
def LpmOrderWrongFalsely : Prop := lpmOrderRow.holds Try.pinned (OpenSpec.ofChange lpmOrderWrong)

/-- 'footplatelaw09.LpmLongest': WHATEVER THE INPUT: true; the input reads as it did. -/
def lpmLongestSpec : ChangeSpec := { name := "lpmLongest", fn := fun _ => fun
  | [d1, d2, d3] => { results := [.lit (.bool true)], args := [d1, d2, d3] }
  | _ => none }
def lpmLongestRow : OpenClaim := { program := "ytbemhcihmlijaaa", sum := "75a0c83b2e0c83a08f329231159ac65f42c5ee6b3d9147ba113f5d95af82b395", func := "footplate/footplatelaw09.LpmLongest", spec := "lpmLongest", unfollowed := true, recurses := true, apart := false }
def LpmLongestSaid : Prop := lpmLongestRow.holds Try.pinned (OpenSpec.ofChange lpmLongestSpec)

/-- ITS FALSE NEIGHBOUR: 'it returns false'. Refute it at one input. -/
def lpmLongestWrong : ChangeSpec := { name := "lpmLongest", fn := fun _ => fun
  | [d1, d2, d3] => { results := [.lit (.bool false)], args := [d1, d2, d3] }
  | _ => none }
def LpmLongestWrongFalsely : Prop := lpmLongestRow.holds Try.pinned (OpenSpec.ofChange lpmLongestWrong)

/-- 'footplatelaw09.LpmRuns': WHATEVER THE INPUT: true; the input reads as it did. -/
def lpmRunsSpec : ChangeSpec := { name := "lpmRuns", fn := fun _ => fun
  | [d1, d2, d3] => { results := [.lit (.bool true)], args := [d1, d2, d3] }
  | _ => none }
def lpmRunsRow : OpenClaim := { program := "ytbemhcihmlijaaa", sum := "75a0c83b2e0c83a08f329231159ac65f42c5ee6b3d9147ba113f5d95af82b395", func := "footplate/footplatelaw09.LpmRuns", spec := "lpmRuns", unfollowed := true, recurses := true, apart := false }
def LpmRunsSaid : Prop := lpmRunsRow.holds Try.pinned (OpenSpec.ofChange lpmRunsSpec)

/-- ITS FALSE NEIGHBOUR: 'it returns false'. Refute it at one input. -/
def lpmRunsWrong : ChangeSpec := { name := "lpmRuns", fn := fun _ => fun
  | [d1, d2, d3] => { results := [.lit (.bool false)], args := [d1, d2, d3] }
  | _ => none }
def LpmRunsWrongFalsely : Prop := lpmRunsRow.holds Try.pinned (OpenSpec.ofChange lpmRunsWrong)

/-- 'footplatelaw09.LpmAgain': WHATEVER THE INPUT: true; the input reads as it did. -/
def lpmAgainSpec : ChangeSpec := { name := "lpmAgain", fn := fun _ => fun
  | [d1, d2, d3] => { results := [.lit (.bool true)], args := [d1, d2, d3] }
  | _ => none }
def lpmAgainRow : OpenClaim := { program := "ytbemhcihmlijaaa", sum := "75a0c83b2e0c83a08f329231159ac65f42c5ee6b3d9147ba113f5d95af82b395", func := "footplate/footplatelaw09.LpmAgain", spec := "lpmAgain", unfollowed := true, recurses := true, apart := false }
def LpmAgainSaid : Prop := lpmAgainRow.holds Try.pinned (OpenSpec.ofChange lpmAgainSpec)

/-- ITS FALSE NEIGHBOUR: 'it returns false'. Refute it at one input. -/
def lpmAgainWrong : ChangeSpec := { name := "lpmAgain", fn := fun _ => fun
  | [d1, d2, d3] => { results := [.lit (.bool false)], args := [d1, d2, d3] }
  | _ => none }
def LpmAgainWrongFalsely : Prop := lpmAgainRow.holds Try.pinned (OpenSpec.ofChange lpmAgainWrong)

/-- 'footplatelaw09.LpmNone': WHATEVER THE INPUT: true; the input reads as it did. -/
def lpmNoneSpec : ChangeSpec := { name := "lpmNone", fn := fun _ => fun
  | [d1, d2] => { results := [.lit (.bool true)], args := [d1, d2] }
  | _ => none }
def lpmNoneRow : OpenClaim := { program := "ytbemhcihmlijaaa", sum := "75a0c83b2e0c83a08f329231159ac65f42c5ee6b3d9147ba113f5d95af82b395", func := "footplate/footplatelaw09.LpmNone", spec := "lpmNone", unfollowed := true, recurses := true, apart := false }
def LpmNoneSaid : Prop := lpmNoneRow.holds Try.pinned (OpenSpec.ofChange lpmNoneSpec)

/-- ITS FALSE NEIGHBOUR: 'it returns false'. Refute it at one input. -/
def lpmNoneWrong : ChangeSpec := { name := "lpmNone", fn := fun _ => fun
  | [d1, d2] => { results := [.lit (.bool false)], args := [d1, d2] }
  | _ => none }
def LpmNoneWrongFalsely : Prop := lpmNoneRow.holds Try.pinned (OpenSpec.ofChange lpmNoneWrong)

/- THE SECOND FORM. 'bulk': how many values and letters a reading holds, each counted each time it is reached (what is shared counts as often as it is met; a slice's spare places count too). A statement '..UptoSaid' is the law's where the arguments, and the package variables that the reading takes, are together of bulk at most 1048576: NARROWER than '..Said'. Prove '..Said' where nothing that the law and all that it calls make is longer than what came in: it says more and counts as full. Else prove '..UptoSaid'. A law counts once. -/
mutual
def uptoBulk {H : Type} : DataW H → Nat
  | .lit (.string bytes) => bytes.length + 1
  | .lit _ => 1
  | .nil => 1
  | .ptr d => uptoBulk d + 1
  | .slice elems spare => uptoBulkAll elems + uptoBulkAll spare + 1
  | .agg parts => uptoBulkAll parts + 1
  | .iface _ d => uptoBulk d + 1
  | .map entries => uptoBulkEntries entries + 1
  | .held _ => 1
def uptoBulkAll {H : Type} : List (DataW H) → Nat
  | [] => 0
  | d :: r => uptoBulk d + uptoBulkAll r
def uptoBulkEntries {H : Type} : List (Lit × DataW H) → Nat
  | [] => 0
  | x :: r => uptoBulkEntry x + uptoBulkEntries r
def uptoBulkEntry {H : Type} : Lit × DataW H → Nat
  | (.string bytes, d) => bytes.length + uptoBulk d + 1
  | (_, d) => uptoBulk d + 1
 end
def uptoSmall : (H : Type) → List (DataW H) → Bool := fun _ ds => decide (uptoBulkAll ds ≤ 1048576)
def OpenSpec.upto (s : _root_.Go.ChangeSpec) : _root_.Go.OpenSpec := { _root_.Go.OpenSpec.ofChange s with cond := some uptoSmall }

/-- 'footplatelaw09.LpmOrder', WHERE WHAT IT READS IS OF BULK AT MOST 1048576: true; the input reads as it did. -/
def lpmOrderUptoRow : OpenClaim := { program := "ytbemhcihmlijaaa", sum := "75a0c83b2e0c83a08f329231159ac65f42c5ee6b3d9147ba113f5d95af82b395", func := "footplate/footplatelaw09.LpmOrder", spec := "lpmOrder", unfollowed := true, recurses := true, apart := false, narrowed := true }
def LpmOrderUptoSaid : Prop := lpmOrderUptoRow.holds Try.pinned (OpenSpec.upto lpmOrderSpec)

/-- 'footplatelaw09.LpmLongest', WHERE WHAT IT READS IS OF BULK AT MOST 1048576: true; the input reads as it did. -/
def lpmLongestUptoRow : OpenClaim := { program := "ytbemhcihmlijaaa", sum := "75a0c83b2e0c83a08f329231159ac65f42c5ee6b3d9147ba113f5d95af82b395", func := "footplate/footplatelaw09.LpmLongest", spec := "lpmLongest", unfollowed := true, recurses := true, apart := false, narrowed := true }
def LpmLongestUptoSaid : Prop := lpmLongestUptoRow.holds Try.pinned (OpenSpec.upto lpmLongestSpec)

/-- 'footplatelaw09.LpmRuns', WHERE WHAT IT READS IS OF BULK AT MOST 1048576: true; the input reads as it did. -/
def lpmRunsUptoRow : OpenClaim := { program := "ytbemhcihmlijaaa", sum := "75a0c83b2e0c83a08f329231159ac65f42c5ee6b3d9147ba113f5d95af82b395", func := "footplate/footplatelaw09.LpmRuns", spec := "lpmRuns", unfollowed := true, recurses := true, apart := false, narrowed := true }
def LpmRunsUptoSaid : Prop := lpmRunsUptoRow.holds Try.pinned (OpenSpec.upto lpmRunsSpec)

/-- 'footplatelaw09.LpmAgain', WHERE WHAT IT READS IS OF BULK AT MOST 1048576: true; the input reads as it did. -/
def lpmAgainUptoRow : OpenClaim := { program := "ytbemhcihmlijaaa", sum := "75a0c83b2e0c83a08f329231159ac65f42c5ee6b3d9147ba113f5d95af82b395", func := "footplate/footplatelaw09.LpmAgain", spec := "lpmAgain", unfollowed := true, recurses := true, apart := false, narrowed := true }
def LpmAgainUptoSaid : Prop := lpmAgainUptoRow.holds Try.pinned (OpenSpec.upto lpmAgainSpec)

/-- 'footplatelaw09.LpmNone', WHERE WHAT IT READS IS OF BULK AT MOST 1048576: true; the input reads as it did. -/
def lpmNoneUptoRow : OpenClaim := { program := "ytbemhcihmlijaaa", sum := "75a0c83b2e0c83a08f329231159ac65f42c5ee6b3d9147ba113f5d95af82b395", func := "footplate/footplatelaw09.LpmNone", spec := "lpmNone", unfollowed := true, recurses := true, apart := false, narrowed := true }
def LpmNoneUptoSaid : Prop := lpmNoneUptoRow.holds Try.pinned (OpenSpec.upto lpmNoneSpec)

end Rows
end Go.Proofs.Ytbemhcihmlijaaa

/-
  No cell of these rows narrows 'for every input' (looked for: loops, veiled, ifaces, maps, wideKeys, modest, calm, conditions, laid).
  DERIVED. THE GIVEN ROWS OF THIS SEAT. 5 by the template 'for every input the law returns true; each argument reads behind the call as it read before'; 0 by the template 'total and deterministic' (their statements: YtfcnohhcgbebdaaTotals.lean).
  GIVEN WITH THE SEED: the statements are not yours to turn. If you find one false, say at which input.
  Laid BY PROGRAM, IN A SANDBOX (cutbox-rows.mjs): the forced cells as the released guide's own fill.sh prints them over the translation b8ea275d613ee33c… (all of the seat's roots in one cut). By AI agents, Wed Nov 11 2026. No macro, syntax, notation, axiom, sorry.
-/
import Derived.Test.YtfcnohhcgbebdaaChecked
import GoSem.Claim
import GoSem.ClaimJoined
import GoSem.ClaimMapViews
import Derived.JoinedTies
import Derived.KernelRfl
namespace Go.Proofs.Ytfcnohhcgbebdaa
/- THE CELL 'sum', in the pinned program and in every row, IS THE sha256 OF THE DUMP (.gsa) THAT YtfcnohhcgbebdaaProg.lean LOADS. Nothing in Lean hashes anything: it is a label: what it is worth is what the hold of that sum in a sandbox is worth. -/
noncomputable def Try.pinned : Pinned := { name := "ytfcnohhcgbebdaa", sum := "b8ea275d613ee33cb9de63fe6b46aca8f732cf29c2d2df85a7985fd494950dc8", checked := Try.checked }
namespace Rows
def none {H : Type} : Left H := { results := [], args := [] }

/-- 'footplatelaw03.EntryPacks': WHATEVER THE INPUT: true; the input reads as it did. -/
def entryPacksSpec : ChangeSpec := { name := "entryPacks", fn := fun _ => fun
  | [d1, d2] => { results := [.lit (.bool true)], args := [d1, d2] }
  | _ => none }
def entryPacksRow : OpenClaim := { program := "ytfcnohhcgbebdaa", sum := "b8ea275d613ee33cb9de63fe6b46aca8f732cf29c2d2df85a7985fd494950dc8", func := "footplate/footplatelaw03.EntryPacks", spec := "entryPacks", unfollowed := true, recurses := true, apart := false }
def EntryPacksSaid : Prop := entryPacksRow.holds Try.pinned (OpenSpec.ofChange entryPacksSpec)

/-- ITS FALSE NEIGHBOUR: 'it returns false'. Refute it at one input. -/
def entryPacksWrong : ChangeSpec := { name := "entryPacks", fn := fun _ => fun
  | [d1, d2] => { results := [.lit (.bool false)], args := [d1, d2] }
  | _ => none }
def EntryPacksWrongFalsely : Prop := entryPacksRow.holds Try.pinned (OpenSpec.ofChange entryPacksWrong)

/-- 'footplatelaw03.EntryFour': WHATEVER THE INPUT: true; the input reads as it did. -/
def entryFourSpec : ChangeSpec := { name := "entryFour", fn := fun _ => fun
  | [d] => { results := [.lit (.bool true)], args := [d] }
  | _ => none }
def entryFourRow : OpenClaim := { program := "ytfcnohhcgbebdaa", sum := "b8ea275d613ee33cb9de63fe6b46aca8f732cf29c2d2df85a7985fd494950dc8", func := "footplate/footplatelaw03.EntryFour", spec := "entryFour", unfollowed := true, recurses := true, apart := false }
def EntryFourSaid : Prop := entryFourRow.holds Try.pinned (OpenSpec.ofChange entryFourSpec)

/-- ITS FALSE NEIGHBOUR: 'it returns false'. Refute it at one input. -/
def entryFourWrong : ChangeSpec := { name := "entryFour", fn := fun _ => fun
  | [d] => { results := [.lit (.bool false)], args := [d] }
  | _ => none }
def EntryFourWrongFalsely : Prop := entryFourRow.holds Try.pinned (OpenSpec.ofChange entryFourWrong)

/-- 'footplatelaw03.EntryPuts': WHATEVER THE INPUT: true; the input reads as it did. -/
def entryPutsSpec : ChangeSpec := { name := "entryPuts", fn := fun _ => fun
  | [d1, d2] => { results := [.lit (.bool true)], args := [d1, d2] }
  | _ => none }
def entryPutsRow : OpenClaim := { program := "ytfcnohhcgbebdaa", sum := "b8ea275d613ee33cb9de63fe6b46aca8f732cf29c2d2df85a7985fd494950dc8", func := "footplate/footplatelaw03.EntryPuts", spec := "entryPuts", unfollowed := true, recurses := true, apart := false }
def EntryPutsSaid : Prop := entryPutsRow.holds Try.pinned (OpenSpec.ofChange entryPutsSpec)

/-- ITS FALSE NEIGHBOUR: 'it returns false'. Refute it at one input. -/
def entryPutsWrong : ChangeSpec := { name := "entryPuts", fn := fun _ => fun
  | [d1, d2] => { results := [.lit (.bool false)], args := [d1, d2] }
  | _ => none }
def EntryPutsWrongFalsely : Prop := entryPutsRow.holds Try.pinned (OpenSpec.ofChange entryPutsWrong)

/-- 'footplatelaw03.EntryBack': WHATEVER THE INPUT: true; the input reads as it did. -/
def entryBackSpec : ChangeSpec := { name := "entryBack", fn := fun _ => fun
  | [d1, d2] => { results := [.lit (.bool true)], args := [d1, d2] }
  | _ => none }
def entryBackRow : OpenClaim := { program := "ytfcnohhcgbebdaa", sum := "b8ea275d613ee33cb9de63fe6b46aca8f732cf29c2d2df85a7985fd494950dc8", func := "footplate/footplatelaw03.EntryBack", spec := "entryBack", unfollowed := true, recurses := true, apart := false }
def EntryBackSaid : Prop := entryBackRow.holds Try.pinned (OpenSpec.ofChange entryBackSpec)

/-- ITS FALSE NEIGHBOUR: 'it returns false'. Refute it at one input. -/
def entryBackWrong : ChangeSpec := { name := "entryBack", fn := fun _ => fun
  | [d1, d2] => { results := [.lit (.bool false)], args := [d1, d2] }
  | _ => none }
def EntryBackWrongFalsely : Prop := entryBackRow.holds Try.pinned (OpenSpec.ofChange entryBackWrong)

/-- 'footplatelaw03.EntryJoins': WHATEVER THE INPUT: true; the input reads as it did. -/
def entryJoinsSpec : ChangeSpec := { name := "entryJoins", fn := fun _ => fun
  | [d1, d2] => { results := [.lit (.bool true)], args := [d1, d2] }
  | _ => none }
def entryJoinsRow : OpenClaim := { program := "ytfcnohhcgbebdaa", sum := "b8ea275d613ee33cb9de63fe6b46aca8f732cf29c2d2df85a7985fd494950dc8", func := "footplate/footplatelaw03.EntryJoins", spec := "entryJoins", unfollowed := true, recurses := true, apart := false }
def EntryJoinsSaid : Prop := entryJoinsRow.holds Try.pinned (OpenSpec.ofChange entryJoinsSpec)

/-- ITS FALSE NEIGHBOUR: 'it returns false'. Refute it at one input. -/
def entryJoinsWrong : ChangeSpec := { name := "entryJoins", fn := fun _ => fun
  | [d1, d2] => { results := [.lit (.bool false)], args := [d1, d2] }
  | _ => none }
def EntryJoinsWrongFalsely : Prop := entryJoinsRow.holds Try.pinned (OpenSpec.ofChange entryJoinsWrong)

/- THE SECOND FORM. 'bulk': how many values and letters a reading holds, each counted each time it is reached (what is shared counts as often as it is met; a slice's spare places count too). A statement '..UptoSaid' is the law's where the arguments, and the package variables that the reading takes, are together of bulk at most 1048576: NARROWER than '..Said'. Prove '..Said' where nothing that the law and all that it calls make is longer than what came in: it says more and counts as full. Else prove '..UptoSaid'. A law counts once. -/
mutual
def uptoBulk {H : Type} : DataW H → Nat
  | .lit (.string bytes) => bytes.length + 1
  | .lit _ => 1
  | .nil => 1
  | .ptr d => uptoBulk d + 1
  | .slice elems spare => uptoBulkAll elems + uptoBulkAll spare + 1
  | .agg parts => uptoBulkAll parts + 1
  | .iface _ d => uptoBulk d + 1
  | .map entries => uptoBulkEntries entries + 1
  | .held _ => 1
def uptoBulkAll {H : Type} : List (DataW H) → Nat
  | [] => 0
  | d :: r => uptoBulk d + uptoBulkAll r
def uptoBulkEntries {H : Type} : List (Lit × DataW H) → Nat
  | [] => 0
  | x :: r => uptoBulkEntry x + uptoBulkEntries r
def uptoBulkEntry {H : Type} : Lit × DataW H → Nat
  | (.string bytes, d) => bytes.length + uptoBulk d + 1
  | (_, d) => uptoBulk d + 1
 end
def uptoSmall : (H : Type) → List (DataW H) → Bool := fun _ ds => decide (uptoBulkAll ds ≤ 1048576)
def OpenSpec.upto (s : _root_.Go.ChangeSpec) : _root_.Go.OpenSpec := { _root_.Go.OpenSpec.ofChange s with cond := some uptoSmall }

/-- 'footplatelaw03.EntryPacks', WHERE WHAT IT READS IS OF BULK AT MOST 1048576: true; the input reads as it did. -/
def entryPacksUptoRow : OpenClaim := { program := "ytfcnohhcgbebdaa", sum := "b8ea275d613ee33cb9de63fe6b46aca8f732cf29c2d2df85a7985fd494950dc8", func := "footplate/footplatelaw03.EntryPacks", spec := "entryPacks", unfollowed := true, recurses := true, apart := false, narrowed := true }
def EntryPacksUptoSaid : Prop := entryPacksUptoRow.holds Try.pinned (OpenSpec.upto entryPacksSpec)

/-- 'footplatelaw03.EntryFour', WHERE WHAT IT READS IS OF BULK AT MOST 1048576: true; the input reads as it did. -/
def entryFourUptoRow : OpenClaim := { program := "ytfcnohhcgbebdaa", sum := "b8ea275d613ee33cb9de63fe6b46aca8f732cf29c2d2df85a7985fd494950dc8", func := "footplate/footplatelaw03.EntryFour", spec := "entryFour", unfollowed := true, recurses := true, apart := false, narrowed := true }
def EntryFourUptoSaid : Prop := entryFourUptoRow.holds Try.pinned (OpenSpec.upto entryFourSpec)

/-- 'footplatelaw03.EntryPuts', WHERE WHAT IT READS IS OF BULK AT MOST 1048576: true; the input reads as it did. -/
def entryPutsUptoRow : OpenClaim := { program := "ytfcnohhcgbebdaa", sum := "b8ea275d613ee33cb9de63fe6b46aca8f732cf29c2d2df85a7985fd494950dc8", func := "footplate/footplatelaw03.EntryPuts", spec := "entryPuts", unfollowed := true, recurses := true, apart := false, narrowed := true }
def EntryPutsUptoSaid : Prop := entryPutsUptoRow.holds Try.pinned (OpenSpec.upto entryPutsSpec)

/-- 'footplatelaw03.EntryBack', WHERE WHAT IT READS IS OF BULK AT MOST 1048576: true; the input reads as it did. -/
def entryBackUptoRow : OpenClaim := { program := "ytfcnohhcgbebdaa", sum := "b8ea275d613ee33cb9de63fe6b46aca8f732cf29c2d2df85a7985fd494950dc8", func := "footplate/footplatelaw03.EntryBack", spec := "entryBack", unfollowed := true, recurses := true, apart := false, narrowed := true }
def EntryBackUptoSaid : Prop := entryBackUptoRow.holds Try.pinned (OpenSpec.upto entryBackSpec)

/-- 'footplatelaw03.EntryJoins', WHERE WHAT IT READS IS OF BULK AT MOST 1048576: true; the input reads as it did. -/
def entryJoinsUptoRow : OpenClaim := { program := "ytfcnohhcgbebdaa", sum := "b8ea275d613ee33cb9de63fe6b46aca8f732cf29c2d2df85a7985fd494950dc8", func := "footplate/footplatelaw03.EntryJoins", spec := "entryJoins", unfollowed := true, recurses := true, apart := false, narrowed := true }
def EntryJoinsUptoSaid : Prop := entryJoinsUptoRow.holds Try.pinned (OpenSpec.upto entryJoinsSpec)

end Rows
end Go.Proofs.Ytfcnohhcgbebdaa

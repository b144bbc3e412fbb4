/-
  No cell of these rows narrows 'for every input' (looked for: loops, veiled, ifaces, maps, wideKeys, modest, calm, conditions, laid).
  DERIVED. THE GIVEN ROWS OF THIS SEAT. 4 by the template 'for every input the law returns true; each argument reads behind the call as it read before'; 0 by the template 'total and deterministic' (their statements: YtogpoligkdkgkaaTotals.lean).
  GIVEN WITH THE SEED: the statements are not yours to turn. If you find one false, say at which input.
  Laid BY PROGRAM, IN A SANDBOX (cutbox-rows.mjs): the forced cells as the released guide's own fill.sh prints them over the translation 2eba9c3558bb42c5… (all of the seat's roots in one cut). By AI agents, Wed Nov 11 2026. No macro, syntax, notation, axiom, sorry.
-/
import Derived.Test.YtogpoligkdkgkaaChecked
import GoSem.Claim
import GoSem.ClaimJoined
import GoSem.ClaimMapViews
import Derived.JoinedTies
import Derived.KernelRfl
namespace Go.Proofs.Ytogpoligkdkgkaa
/- THE CELL 'sum', in the pinned program and in every row, IS THE sha256 OF THE DUMP (.gsa) THAT YtogpoligkdkgkaaProg.lean LOADS. Nothing in Lean hashes anything: it is a label: what it is worth is what the hold of that sum in a sandbox is worth. -/
noncomputable def Try.pinned : Pinned := { name := "ytogpoligkdkgkaa", sum := "2eba9c3558bb42c56fdd3396860550d250965c939cc92f1d85db75404236677d", checked := Try.checked }
namespace Rows
def none {H : Type} : Left H := { results := [], args := [] }

/-- 'footplatelaw19.TtlTells': WHATEVER THE INPUT: true; the input reads as it did. -/
def ttlTellsSpec : ChangeSpec := { name := "ttlTells", fn := fun _ => fun
  | [d1, d2, d3] => { results := [.lit (.bool true)], args := [d1, d2, d3] }
  | _ => none }
def ttlTellsRow : OpenClaim := { program := "ytogpoligkdkgkaa", sum := "2eba9c3558bb42c56fdd3396860550d250965c939cc92f1d85db75404236677d", func := "footplate/footplatelaw19.TtlTells", spec := "ttlTells", unfollowed := true, recurses := true, apart := false }
def TtlTellsSaid : Prop := ttlTellsRow.holds Try.pinned (OpenSpec.ofChange ttlTellsSpec)

/-- ITS FALSE NEIGHBOUR: 'it returns false'. Refute it at one input. -/
def ttlTellsWrong : ChangeSpec := { name := "ttlTells", fn := fun _ => fun
  | [d1, d2, d3] => { results := [.lit (.bool false)], args := [d1, d2, d3] }
  | _ => none }
def TtlTellsWrongFalsely : Prop := ttlTellsRow.holds Try.pinned (OpenSpec.ofChange ttlTellsWrong)

/-- 'footplatelaw19.TtlFresh': WHATEVER THE INPUT: true; the input reads as it did. -/
def ttlFreshSpec : ChangeSpec := { name := "ttlFresh", fn := fun _ => fun
  | [d1, d2, d3] => { results := [.lit (.bool true)], args := [d1, d2, d3] }
  | _ => none }
def ttlFreshRow : OpenClaim := { program := "ytogpoligkdkgkaa", sum := "2eba9c3558bb42c56fdd3396860550d250965c939cc92f1d85db75404236677d", func := "footplate/footplatelaw19.TtlFresh", spec := "ttlFresh", unfollowed := true, recurses := true, apart := false }
def TtlFreshSaid : Prop := ttlFreshRow.holds Try.pinned (OpenSpec.ofChange ttlFreshSpec)

/-- ITS FALSE NEIGHBOUR: 'it returns false'. Refute it at one input. -/
def ttlFreshWrong : ChangeSpec := { name := "ttlFresh", fn := fun _ => fun
  | [d1, d2, d3] => { results := [.lit (.bool false)], args := [d1, d2, d3] }
  | _ => none }
def TtlFreshWrongFalsely : Prop := ttlFreshRow.holds Try.pinned (OpenSpec.ofChange ttlFreshWrong)

/-- 'footplatelaw19.TtlOnly': WHATEVER THE INPUT: true; the input reads as it did. -/
def ttlOnlySpec : ChangeSpec := { name := "ttlOnly", fn := fun _ => fun
  | [d] => { results := [.lit (.bool true)], args := [d] }
  | _ => none }
def ttlOnlyRow : OpenClaim := { program := "ytogpoligkdkgkaa", sum := "2eba9c3558bb42c56fdd3396860550d250965c939cc92f1d85db75404236677d", func := "footplate/footplatelaw19.TtlOnly", spec := "ttlOnly", unfollowed := true, recurses := true, apart := false }
def TtlOnlySaid : Prop := ttlOnlyRow.holds Try.pinned (OpenSpec.ofChange ttlOnlySpec)

/-- ITS FALSE NEIGHBOUR: 'it returns false'. Refute it at one input. -/
def ttlOnlyWrong : ChangeSpec := { name := "ttlOnly", fn := fun _ => fun
  | [d] => { results := [.lit (.bool false)], args := [d] }
  | _ => none }
def TtlOnlyWrongFalsely : Prop := ttlOnlyRow.holds Try.pinned (OpenSpec.ofChange ttlOnlyWrong)

/-- 'footplatelaw19.TtlRows': WHATEVER THE INPUT: true; the input reads as it did. -/
def ttlRowsSpec : ChangeSpec := { name := "ttlRows", fn := fun _ => fun
  | [d1, d2, d3] => { results := [.lit (.bool true)], args := [d1, d2, d3] }
  | _ => none }
def ttlRowsRow : OpenClaim := { program := "ytogpoligkdkgkaa", sum := "2eba9c3558bb42c56fdd3396860550d250965c939cc92f1d85db75404236677d", func := "footplate/footplatelaw19.TtlRows", spec := "ttlRows", unfollowed := true, recurses := true, apart := false }
def TtlRowsSaid : Prop := ttlRowsRow.holds Try.pinned (OpenSpec.ofChange ttlRowsSpec)

/-- ITS FALSE NEIGHBOUR: 'it returns false'. Refute it at one input. -/
def ttlRowsWrong : ChangeSpec := { name := "ttlRows", fn := fun _ => fun
  | [d1, d2, d3] => { results := [.lit (.bool false)], args := [d1, d2, d3] }
  | _ => none }
def TtlRowsWrongFalsely : Prop := ttlRowsRow.holds Try.pinned (OpenSpec.ofChange ttlRowsWrong)

/- THE SECOND FORM. 'bulk': how many values and letters a reading holds, each counted each time it is reached (what is shared counts as often as it is met; a slice's spare places count too). A statement '..UptoSaid' is the law's where the arguments, and the package variables that the reading takes, are together of bulk at most 1048576: NARROWER than '..Said'. Prove '..Said' where nothing that the law and all that it calls make is longer than what came in: it says more and counts as full. Else prove '..UptoSaid'. A law counts once. -/
mutual
def uptoBulk {H : Type} : DataW H → Nat
  | .lit (.string bytes) => bytes.length + 1
  | .lit _ => 1
  | .nil => 1
  | .ptr d => uptoBulk d + 1
  | .slice elems spare => uptoBulkAll elems + uptoBulkAll spare + 1
  | .agg parts => uptoBulkAll parts + 1
  | .iface _ d => uptoBulk d + 1
  | .map entries => uptoBulkEntries entries + 1
  | .held _ => 1
def uptoBulkAll {H : Type} : List (DataW H) → Nat
  | [] => 0
  | d :: r => uptoBulk d + uptoBulkAll r
def uptoBulkEntries {H : Type} : List (Lit × DataW H) → Nat
  | [] => 0
  | x :: r => uptoBulkEntry x + uptoBulkEntries r
def uptoBulkEntry {H : Type} : Lit × DataW H → Nat
  | (.string bytes, d) => bytes.length + uptoBulk d + 1
  | (_, d) => uptoBulk d + 1
 end
def uptoSmall : (H : Type) → List (DataW H) → Bool := fun _ ds => decide (uptoBulkAll ds ≤ 1048576)
def OpenSpec.upto (s : _root_.Go.ChangeSpec) : _root_.Go.OpenSpec := { _root_.Go.OpenSpec.ofChange s with cond := some uptoSmall }

/-- 'footplatelaw19.TtlTells', WHERE WHAT IT READS IS OF BULK AT MOST 1048576: true; the input reads as it did. -/
def ttlTellsUptoRow : OpenClaim := { program := "ytogpoligkdkgkaa", sum := "2eba9c3558bb42c56fdd3396860550d250965c939cc92f1d85db75404236677d", func := "footplate/footplatelaw19.TtlTells", spec := "ttlTells", unfollowed := true, recurses := true, apart := false, narrowed := true }
def TtlTellsUptoSaid : Prop := ttlTellsUptoRow.holds Try.pinned (OpenSpec.upto ttlTellsSpec)

/-- 'footplatelaw19.TtlFresh', WHERE WHAT IT READS IS OF BULK AT MOST 1048576: true; the input reads as it did. -/
def ttlFreshUptoRow : OpenClaim := { program := "ytogpoligkdkgkaa", sum := "2eba9c3558bb42c56fdd3396860550d250965c939cc92f1d85db75404236677d", func := "footplate/footplatelaw19.TtlFresh", spec := "ttlFresh", unfollowed := true, recurses := true, apart := false, narrowed := true }
def TtlFreshUptoSaid : Prop := ttlFreshUptoRow.holds Try.pinned (OpenSpec.upto ttlFreshSpec)

/-- 'footplatelaw19.TtlOnly', WHERE WHAT IT READS IS OF BULK AT MOST 1048576: true; the input reads as it did. -/
def ttlOnlyUptoRow : OpenClaim := { program := "ytogpoligkdkgkaa", sum := "2eba9c3558bb42c56fdd3396860550d250965c939cc92f1d85db75404236677d", func := "footplate/footplatelaw19.TtlOnly", spec := "ttlOnly", unfollowed := true, recurses := true, apart := false, narrowed := true }
def TtlOnlyUptoSaid : Prop := ttlOnlyUptoRow.holds Try.pinned (OpenSpec.upto ttlOnlySpec)

/-- 'footplatelaw19.TtlRows', WHERE WHAT IT READS IS OF BULK AT MOST 1048576: true; the input reads as it did. -/
def ttlRowsUptoRow : OpenClaim := { program := "ytogpoligkdkgkaa", sum := "2eba9c3558bb42c56fdd3396860550d250965c939cc92f1d85db75404236677d", func := "footplate/footplatelaw19.TtlRows", spec := "ttlRows", unfollowed := true, recurses := true, apart := false, narrowed := true }
def TtlRowsUptoSaid : Prop := ttlRowsUptoRow.holds Try.pinned (OpenSpec.upto ttlRowsSpec)

end Rows
end Go.Proofs.Ytogpoligkdkgkaa

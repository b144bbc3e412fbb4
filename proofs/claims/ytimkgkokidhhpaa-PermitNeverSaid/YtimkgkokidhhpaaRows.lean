/-
  No cell of these rows narrows 'for every input' (looked for: loops, veiled, ifaces, maps, wideKeys, modest, calm, conditions, laid).
  DERIVED. THE GIVEN ROWS OF THIS SEAT. 4 by the template 'for every input the law returns true; each argument reads behind the call as it read before'; 0 by the template 'total and deterministic' (their statements: YtimkgkokidhhpaaTotals.lean).
  GIVEN WITH THE SEED: the statements are not yours to turn. If you find one false, say at which input.
  Laid BY PROGRAM, IN A SANDBOX (cutbox-rows.mjs): the forced cells as the released guide's own fill.sh prints them over the translation 4961358448652eea… (all of the seat's roots in one cut). By AI agents, Wed Nov 11 2026. No macro, syntax, notation, axiom, sorry.
-/
import Derived.Test.YtimkgkokidhhpaaChecked
import GoSem.Claim
import GoSem.ClaimJoined
import GoSem.ClaimMapViews
import Derived.JoinedTies
import Derived.KernelRfl
namespace Go.Proofs.Ytimkgkokidhhpaa
/- THE CELL 'sum', in the pinned program and in every row, IS THE sha256 OF THE DUMP (.gsa) THAT YtimkgkokidhhpaaProg.lean LOADS. Nothing in Lean hashes anything: it is a label: what it is worth is what the hold of that sum in a sandbox is worth. -/
noncomputable def Try.pinned : Pinned := { name := "ytimkgkokidhhpaa", sum := "4961358448652eea8e0a2d52f3f312f1653cc68b12af9667c4285217cd9899fb", checked := Try.checked }
namespace Rows
def none {H : Type} : Left H := { results := [], args := [] }

/-- 'footplatelaw25.PermitTells': WHATEVER THE INPUT: true; the input reads as it did. -/
def permitTellsSpec : ChangeSpec := { name := "permitTells", fn := fun _ => fun
  | [d1, d2] => { results := [.lit (.bool true)], args := [d1, d2] }
  | _ => none }
def permitTellsRow : OpenClaim := { program := "ytimkgkokidhhpaa", sum := "4961358448652eea8e0a2d52f3f312f1653cc68b12af9667c4285217cd9899fb", func := "footplate/footplatelaw25.PermitTells", spec := "permitTells", unfollowed := true, recurses := true, apart := false }
def PermitTellsSaid : Prop := permitTellsRow.holds Try.pinned (OpenSpec.ofChange permitTellsSpec)

/-- ITS FALSE NEIGHBOUR: 'it returns false'. Refute it at one input. -/
def permitTellsWrong : ChangeSpec := { name := "permitTells", fn := fun _ => fun
  | [d1, d2] => { results := [.lit (.bool false)], args := [d1, d2] }
  | _ => none }
def PermitTellsWrongFalsely : Prop := permitTellsRow.holds Try.pinned (OpenSpec.ofChange permitTellsWrong)

/-- 'footplatelaw25.PermitNever': WHATEVER THE INPUT: true; the input reads as it did. -/
def permitNeverSpec : ChangeSpec := { name := "permitNever", fn := fun _ => fun
  | [d1, d2, d3] => { results := [.lit (.bool true)], args := [d1, d2, d3] }
  | _ => none }
def permitNeverRow : OpenClaim := { program := "ytimkgkokidhhpaa", sum := "4961358448652eea8e0a2d52f3f312f1653cc68b12af9667c4285217cd9899fb", func := "footplate/footplatelaw25.PermitNever", spec := "permitNever", unfollowed := true, recurses := true, apart := false }
def PermitNeverSaid : Prop := permitNeverRow.holds Try.pinned (OpenSpec.ofChange permitNeverSpec)

/-- ITS FALSE NEIGHBOUR: 'it returns false'. Refute it at one input. -/
def permitNeverWrong : ChangeSpec := { name := "permitNever", fn := fun _ => fun
  | [d1, d2, d3] => { results := [.lit (.bool false)], args := [d1, d2, d3] }
  | _ => none }
def PermitNeverWrongFalsely : Prop := permitNeverRow.holds Try.pinned (OpenSpec.ofChange permitNeverWrong)

/-- 'footplatelaw25.PermitBody': WHATEVER THE INPUT: true; the input reads as it did. -/
def permitBodySpec : ChangeSpec := { name := "permitBody", fn := fun _ => fun
  | [d1, d2, d3] => { results := [.lit (.bool true)], args := [d1, d2, d3] }
  | _ => none }
def permitBodyRow : OpenClaim := { program := "ytimkgkokidhhpaa", sum := "4961358448652eea8e0a2d52f3f312f1653cc68b12af9667c4285217cd9899fb", func := "footplate/footplatelaw25.PermitBody", spec := "permitBody", unfollowed := true, recurses := true, apart := false }
def PermitBodySaid : Prop := permitBodyRow.holds Try.pinned (OpenSpec.ofChange permitBodySpec)

/-- ITS FALSE NEIGHBOUR: 'it returns false'. Refute it at one input. -/
def permitBodyWrong : ChangeSpec := { name := "permitBody", fn := fun _ => fun
  | [d1, d2, d3] => { results := [.lit (.bool false)], args := [d1, d2, d3] }
  | _ => none }
def PermitBodyWrongFalsely : Prop := permitBodyRow.holds Try.pinned (OpenSpec.ofChange permitBodyWrong)

/-- 'footplatelaw25.PermitKinds': WHATEVER THE INPUT: true; the input reads as it did. -/
def permitKindsSpec : ChangeSpec := { name := "permitKinds", fn := fun _ => fun
  | [d] => { results := [.lit (.bool true)], args := [d] }
  | _ => none }
def permitKindsRow : OpenClaim := { program := "ytimkgkokidhhpaa", sum := "4961358448652eea8e0a2d52f3f312f1653cc68b12af9667c4285217cd9899fb", func := "footplate/footplatelaw25.PermitKinds", spec := "permitKinds", unfollowed := true, recurses := true, apart := false }
def PermitKindsSaid : Prop := permitKindsRow.holds Try.pinned (OpenSpec.ofChange permitKindsSpec)

/-- ITS FALSE NEIGHBOUR: 'it returns false'. Refute it at one input. -/
def permitKindsWrong : ChangeSpec := { name := "permitKinds", fn := fun _ => fun
  | [d] => { results := [.lit (.bool false)], args := [d] }
  | _ => none }
def PermitKindsWrongFalsely : Prop := permitKindsRow.holds Try.pinned (OpenSpec.ofChange permitKindsWrong)

/- THE SECOND FORM. 'bulk': how many values and letters a reading holds, each counted each time it is reached (what is shared counts as often as it is met; a slice's spare places count too). A statement '..UptoSaid' is the law's where the arguments, and the package variables that the reading takes, are together of bulk at most 1048576: NARROWER than '..Said'. Prove '..Said' where nothing that the law and all that it calls make is longer than what came in: it says more and counts as full. Else prove '..UptoSaid'. A law counts once. -/
mutual
def uptoBulk {H : Type} : DataW H → Nat
  | .lit (.string bytes) => bytes.length + 1
  | .lit _ => 1
  | .nil => 1
  | .ptr d => uptoBulk d + 1
  | .slice elems spare => uptoBulkAll elems + uptoBulkAll spare + 1
  | .agg parts => uptoBulkAll parts + 1
  | .iface _ d => uptoBulk d + 1
  | .map entries => uptoBulkEntries entries + 1
  | .held _ => 1
def uptoBulkAll {H : Type} : List (DataW H) → Nat
  | [] => 0
  | d :: r => uptoBulk d + uptoBulkAll r
def uptoBulkEntries {H : Type} : List (Lit × DataW H) → Nat
  | [] => 0
  | x :: r => uptoBulkEntry x + uptoBulkEntries r
def uptoBulkEntry {H : Type} : Lit × DataW H → Nat
  | (.string bytes, d) => bytes.length + uptoBulk d + 1
  | (_, d) => uptoBulk d + 1
 end
def uptoSmall : (H : Type) → List (DataW H) → Bool := fun _ ds => decide (uptoBulkAll ds ≤ 1048576)
def OpenSpec.upto (s : _root_.Go.ChangeSpec) : _root_.Go.OpenSpec := { _root_.Go.OpenSpec.ofChange s with cond := some uptoSmall }

/-- 'footplatelaw25.PermitTells', WHERE WHAT IT READS IS OF BULK AT MOST 1048576: true; the input reads as it did. -/
def permitTellsUptoRow : OpenClaim := { program := "ytimkgkokidhhpaa", sum := "4961358448652eea8e0a2d52f3f312f1653cc68b12af9667c4285217cd9899fb", func := "footplate/footplatelaw25.PermitTells", spec := "permitTells", unfollowed := true, recurses := true, apart := false, narrowed := true }
def PermitTellsUptoSaid : Prop := permitTellsUptoRow.holds Try.pinned (OpenSpec.upto permitTellsSpec)

/-- 'footplatelaw25.PermitNever', WHERE WHAT IT READS IS OF BULK AT MOST 1048576: true; the input reads as it did. -/
def permitNeverUptoRow : OpenClaim := { program := "ytimkgkokidhhpaa", sum := "4961358448652eea8e0a2d52f3f312f1653cc68b12af9667c4285217cd9899fb", func := "footplate/footplatelaw25.PermitNever", spec := "permitNever", unfollowed := true, recurses := true, apart := false, narrowed := true }
def PermitNeverUptoSaid : Prop := permitNeverUptoRow.holds Try.pinned (OpenSpec.upto permitNeverSpec)

/-- 'footplatelaw25.PermitBody', WHERE WHAT IT READS IS OF BULK AT MOST 1048576: true; the input reads as it did. -/
def permitBodyUptoRow : OpenClaim := { program := "ytimkgkokidhhpaa", sum := "4961358448652eea8e0a2d52f3f312f1653cc68b12af9667c4285217cd9899fb", func := "footplate/footplatelaw25.PermitBody", spec := "permitBody", unfollowed := true, recurses := true, apart := false, narrowed := true }
def PermitBodyUptoSaid : Prop := permitBodyUptoRow.holds Try.pinned (OpenSpec.upto permitBodySpec)

/-- 'footplatelaw25.PermitKinds', WHERE WHAT IT READS IS OF BULK AT MOST 1048576: true; the input reads as it did. -/
def permitKindsUptoRow : OpenClaim := { program := "ytimkgkokidhhpaa", sum := "4961358448652eea8e0a2d52f3f312f1653cc68b12af9667c4285217cd9899fb", func := "footplate/footplatelaw25.PermitKinds", spec := "permitKinds", unfollowed := true, recurses := true, apart := false, narrowed := true }
def PermitKindsUptoSaid : Prop := permitKindsUptoRow.holds Try.pinned (OpenSpec.upto permitKindsSpec)

end Rows
end Go.Proofs.Ytimkgkokidhhpaa

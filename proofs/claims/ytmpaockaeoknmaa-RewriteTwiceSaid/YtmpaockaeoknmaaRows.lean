/-
  No cell of these rows narrows 'for every input' (looked for: loops, veiled, ifaces, maps, wideKeys, modest, calm, conditions, laid).
  DERIVED. THE GIVEN ROWS OF THIS SEAT. 4 by the template 'for every input the law returns true; each argument reads behind the call as it read before'; 0 by the template 'total and deterministic' (their statements: YtmpaockaeoknmaaTotals.lean).
  GIVEN WITH THE SEED: the statements are not yours to turn. If you find one false, say at which input.
  Laid BY PROGRAM, IN A SANDBOX (cutbox-rows.mjs): the forced cells as the released guide's own fill.sh prints them over the translation 9e9e1113397911a8… (all of the seat's roots in one cut). By AI agents, Wed Nov 11 2026. No macro, syntax, notation, axiom, sorry.
-/
import Derived.Test.YtmpaockaeoknmaaChecked
import GoSem.Claim
import GoSem.ClaimJoined
import GoSem.ClaimMapViews
import Derived.JoinedTies
import Derived.KernelRfl
namespace Go.Proofs.Ytmpaockaeoknmaa
/- THE CELL 'sum', in the pinned program and in every row, IS THE sha256 OF THE DUMP (.gsa) THAT YtmpaockaeoknmaaProg.lean LOADS. Nothing in Lean hashes anything: it is a label: what it is worth is what the hold of that sum in a sandbox is worth. -/
noncomputable def Try.pinned : Pinned := { name := "ytmpaockaeoknmaa", sum := "9e9e1113397911a87dca8cf8d44bc6e7c54b5748c411ed9632c36850b1a7a011", checked := Try.checked }
namespace Rows
def none {H : Type} : Left H := { results := [], args := [] }

/-- 'footplatelaw20.RewriteDoes': WHATEVER THE INPUT: true; the input reads as it did. -/
def rewriteDoesSpec : ChangeSpec := { name := "rewriteDoes", fn := fun _ => fun
  | [d1, d2] => { results := [.lit (.bool true)], args := [d1, d2] }
  | _ => none }
def rewriteDoesRow : OpenClaim := { program := "ytmpaockaeoknmaa", sum := "9e9e1113397911a87dca8cf8d44bc6e7c54b5748c411ed9632c36850b1a7a011", func := "footplate/footplatelaw20.RewriteDoes", spec := "rewriteDoes", unfollowed := true, recurses := true, apart := false }
def RewriteDoesSaid : Prop := rewriteDoesRow.holds Try.pinned (OpenSpec.ofChange rewriteDoesSpec)

/-- ITS FALSE NEIGHBOUR: 'it returns false'. Refute it at one input. -/
def rewriteDoesWrong : ChangeSpec := { name := "rewriteDoes", fn := fun _ => fun
  | [d1, d2] => { results := [.lit (.bool false)], args := [d1, d2] }
  | _ => none }
def RewriteDoesWrongFalsely : Prop := rewriteDoesRow.holds Try.pinned (OpenSpec.ofChange rewriteDoesWrong)

/-- 'footplatelaw20.RewriteLays': WHATEVER THE INPUT: true; the input reads as it did. -/
def rewriteLaysSpec : ChangeSpec := { name := "rewriteLays", fn := fun _ => fun
  | [d1, d2, d3] => { results := [.lit (.bool true)], args := [d1, d2, d3] }
  | _ => none }
def rewriteLaysRow : OpenClaim := { program := "ytmpaockaeoknmaa", sum := "9e9e1113397911a87dca8cf8d44bc6e7c54b5748c411ed9632c36850b1a7a011", func := "footplate/footplatelaw20.RewriteLays", spec := "rewriteLays", unfollowed := true, recurses := true, apart := false }
def RewriteLaysSaid : Prop := rewriteLaysRow.holds Try.pinned (OpenSpec.ofChange rewriteLaysSpec)

/-- ITS FALSE NEIGHBOUR: 'it returns false'. Refute it at one input. -/
def rewriteLaysWrong : ChangeSpec := { name := "rewriteLays", fn := fun _ => fun
  | [d1, d2, d3] => { results := [.lit (.bool false)], args := [d1, d2, d3] }
  | _ => none }
def RewriteLaysWrongFalsely : Prop := rewriteLaysRow.holds Try.pinned (OpenSpec.ofChange rewriteLaysWrong)

/-- 'footplatelaw20.RewriteOnly': WHATEVER THE INPUT: true; the input reads as it did. -/
def rewriteOnlySpec : ChangeSpec := { name := "rewriteOnly", fn := fun _ => fun
  | [d1, d2] => { results := [.lit (.bool true)], args := [d1, d2] }
  | _ => none }
def rewriteOnlyRow : OpenClaim := { program := "ytmpaockaeoknmaa", sum := "9e9e1113397911a87dca8cf8d44bc6e7c54b5748c411ed9632c36850b1a7a011", func := "footplate/footplatelaw20.RewriteOnly", spec := "rewriteOnly", unfollowed := true, recurses := true, apart := false }
def RewriteOnlySaid : Prop := rewriteOnlyRow.holds Try.pinned (OpenSpec.ofChange rewriteOnlySpec)

/-- ITS FALSE NEIGHBOUR: 'it returns false'. Refute it at one input. -/
def rewriteOnlyWrong : ChangeSpec := { name := "rewriteOnly", fn := fun _ => fun
  | [d1, d2] => { results := [.lit (.bool false)], args := [d1, d2] }
  | _ => none }
def RewriteOnlyWrongFalsely : Prop := rewriteOnlyRow.holds Try.pinned (OpenSpec.ofChange rewriteOnlyWrong)

/-- 'footplatelaw20.RewriteTwice': WHATEVER THE INPUT: true; the input reads as it did. -/
def rewriteTwiceSpec : ChangeSpec := { name := "rewriteTwice", fn := fun _ => fun
  | [d1, d2, d3] => { results := [.lit (.bool true)], args := [d1, d2, d3] }
  | _ => none }
def rewriteTwiceRow : OpenClaim := { program := "ytmpaockaeoknmaa", sum := "9e9e1113397911a87dca8cf8d44bc6e7c54b5748c411ed9632c36850b1a7a011", func := "footplate/footplatelaw20.RewriteTwice", spec := "rewriteTwice", unfollowed := true, recurses := true, apart := false }
def RewriteTwiceSaid : Prop := rewriteTwiceRow.holds Try.pinned (OpenSpec.ofChange rewriteTwiceSpec)

/-- ITS FALSE NEIGHBOUR: 'it returns false'. Refute it at one input. -/
def rewriteTwiceWrong : ChangeSpec := { name := "rewriteTwice", fn := fun _ => fun
  | [d1, d2, d3] => { results := [.lit (.bool false)], args := [d1, d2, d3] }
  | _ => none }
def RewriteTwiceWrongFalsely : Prop := rewriteTwiceRow.holds Try.pinned (OpenSpec.ofChange rewriteTwiceWrong)

/- THE SECOND FORM. 'bulk': how many values and letters a reading holds, each counted each time it is reached (what is shared counts as often as it is met; a slice's spare places count too). A statement '..UptoSaid' is the law's where the arguments, and the package variables that the reading takes, are together of bulk at most 1048576: NARROWER than '..Said'. Prove '..Said' where nothing that the law and all that it calls make is longer than what came in: it says more and counts as full. Else prove '..UptoSaid'. A law counts once. -/
mutual
def uptoBulk {H : Type} : DataW H → Nat
  | .lit (.string bytes) => bytes.length + 1
  | .lit _ => 1
  | .nil => 1
  | .ptr d => uptoBulk d + 1
  | .slice elems spare => uptoBulkAll elems + uptoBulkAll spare + 1
  | .agg parts => uptoBulkAll parts + 1
  | .iface _ d => uptoBulk d + 1
  | .map entries => uptoBulkEntries entries + 1
  | .held _ => 1
def uptoBulkAll {H : Type} : List (DataW H) → Nat
  | [] => 0
  | d :: r => uptoBulk d + uptoBulkAll r
def uptoBulkEntries {H : Type} : List (Lit × DataW H) → Nat
  | [] => 0
  | x :: r => uptoBulkEntry x + uptoBulkEntries r
def uptoBulkEntry {H : Type} : Lit × DataW H → Nat
  | (.string bytes, d) => bytes.length + uptoBulk d + 1
  | (_, d) => uptoBulk d + 1
 end
def uptoSmall : (H : Type) → List (DataW H) → Bool := fun _ ds => decide (uptoBulkAll ds ≤ 1048576)
def OpenSpec.upto (s : _root_.Go.ChangeSpec) : _root_.Go.OpenSpec := { _root_.Go.OpenSpec.ofChange s with cond := some uptoSmall }

/-- 'footplatelaw20.RewriteDoes', WHERE WHAT IT READS IS OF BULK AT MOST 1048576: true; the input reads as it did. -/
def rewriteDoesUptoRow : OpenClaim := { program := "ytmpaockaeoknmaa", sum := "9e9e1113397911a87dca8cf8d44bc6e7c54b5748c411ed9632c36850b1a7a011", func := "footplate/footplatelaw20.RewriteDoes", spec := "rewriteDoes", unfollowed := true, recurses := true, apart := false, narrowed := true }
def RewriteDoesUptoSaid : Prop := rewriteDoesUptoRow.holds Try.pinned (OpenSpec.upto rewriteDoesSpec)

/-- 'footplatelaw20.RewriteLays', WHERE WHAT IT READS IS OF BULK AT MOST 1048576: true; the input reads as it did. -/
def rewriteLaysUptoRow : OpenClaim := { program := "ytmpaockaeoknmaa", sum := "9e9e1113397911a87dca8cf8d44bc6e7c54b5748c411ed9632c36850b1a7a011", func := "footplate/footplatelaw20.RewriteLays", spec := "rewriteLays", unfollowed := true, recurses := true, apart := false, narrowed := true }
def RewriteLaysUptoSaid : Prop := rewriteLaysUptoRow.holds Try.pinned (OpenSpec.upto rewriteLaysSpec)

/-- 'footplatelaw20.RewriteOnly', WHERE WHAT IT READS IS OF BULK AT MOST 1048576: true; the input reads as it did. -/
def rewriteOnlyUptoRow : OpenClaim := { program := "ytmpaockaeoknmaa", sum := "9e9e1113397911a87dca8cf8d44bc6e7c54b5748c411ed9632c36850b1a7a011", func := "footplate/footplatelaw20.RewriteOnly", spec := "rewriteOnly", unfollowed := true, recurses := true, apart := false, narrowed := true }
def RewriteOnlyUptoSaid : Prop := rewriteOnlyUptoRow.holds Try.pinned (OpenSpec.upto rewriteOnlySpec)

/-- 'footplatelaw20.RewriteTwice', WHERE WHAT IT READS IS OF BULK AT MOST 1048576: true; the input reads as it did. -/
def rewriteTwiceUptoRow : OpenClaim := { program := "ytmpaockaeoknmaa", sum := "9e9e1113397911a87dca8cf8d44bc6e7c54b5748c411ed9632c36850b1a7a011", func := "footplate/footplatelaw20.RewriteTwice", spec := "rewriteTwice", unfollowed := true, recurses := true, apart := false, narrowed := true }
def RewriteTwiceUptoSaid : Prop := rewriteTwiceUptoRow.holds Try.pinned (OpenSpec.upto rewriteTwiceSpec)

end Rows
end Go.Proofs.Ytmpaockaeoknmaa

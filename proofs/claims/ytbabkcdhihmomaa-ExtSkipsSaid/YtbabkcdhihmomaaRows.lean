/-
  No cell of these rows narrows 'for every input' (looked for: loops, veiled, ifaces, maps, wideKeys, modest, calm, conditions, laid).
  DERIVED. THE GIVEN ROWS OF THIS SEAT. 4 by the template 'for every input the law returns true; each argument reads behind the call as it read before'; 0 by the template 'total and deterministic' (their statements: YtbabkcdhihmomaaTotals.lean).
  GIVEN WITH THE SEED: the statements are not yours to turn. If you find one false, say at which input.
  Laid BY PROGRAM, IN A SANDBOX (cutbox-rows.mjs): the forced cells as the released guide's own fill.sh prints them over the translation caceecf07de730c2… (all of the seat's roots in one cut). By AI agents, Wed Nov 11 2026. No macro, syntax, notation, axiom, sorry.
-/
import Derived.Test.YtbabkcdhihmomaaChecked
import GoSem.Claim
import GoSem.ClaimJoined
import GoSem.ClaimMapViews
import Derived.JoinedTies
import Derived.KernelRfl
namespace Go.Proofs.Ytbabkcdhihmomaa
/- THE CELL 'sum', in the pinned program and in every row, IS THE sha256 OF THE DUMP (.gsa) THAT YtbabkcdhihmomaaProg.lean LOADS. Nothing in Lean hashes anything: it is a label: what it is worth is what the hold of that sum in a sandbox is worth. -/
noncomputable def Try.pinned : Pinned := { name := "ytbabkcdhihmomaa", sum := "caceecf07de730c2a903eaa9c0600c1c045307f19c2a575294377cbf8d7656dc", checked := Try.checked }
namespace Rows
def none {H : Type} : Left H := { results := [], args := [] }

/-- 'footplatelaw22.ExtPuts': WHATEVER THE INPUT: true; the input reads as it did. -/
def extPutsSpec : ChangeSpec := { name := "extPuts", fn := fun _ => fun
  | [d1, d2] => { results := [.lit (.bool true)], args := [d1, d2] }
  | _ => none }
def extPutsRow : OpenClaim := { program := "ytbabkcdhihmomaa", sum := "caceecf07de730c2a903eaa9c0600c1c045307f19c2a575294377cbf8d7656dc", func := "footplate/footplatelaw22.ExtPuts", spec := "extPuts", unfollowed := true, recurses := true, apart := false }
def ExtPutsSaid : Prop := extPutsRow.holds Try.pinned (OpenSpec.ofChange extPutsSpec)

/-- ITS FALSE NEIGHBOUR: 'it returns false'. Refute it at one input. -/
def extPutsWrong : ChangeSpec := { name := "extPuts", fn := fun _ => fun
  | [d1, d2] => { results := [.lit (.bool false)], args := [d1, d2] }
  | _ => none }
def ExtPutsWrongFalsely : Prop := extPutsRow.holds Try.pinned (OpenSpec.ofChange extPutsWrong)

/-- 'footplatelaw22.ExtGets': WHATEVER THE INPUT: true; the input reads as it did. -/
def extGetsSpec : ChangeSpec := { name := "extGets", fn := fun _ => fun
  | [d] => { results := [.lit (.bool true)], args := [d] }
  | _ => none }
def extGetsRow : OpenClaim := { program := "ytbabkcdhihmomaa", sum := "caceecf07de730c2a903eaa9c0600c1c045307f19c2a575294377cbf8d7656dc", func := "footplate/footplatelaw22.ExtGets", spec := "extGets", unfollowed := true, recurses := true, apart := false }
def ExtGetsSaid : Prop := extGetsRow.holds Try.pinned (OpenSpec.ofChange extGetsSpec)

/-- ITS FALSE NEIGHBOUR: 'it returns false'. Refute it at one input. -/
def extGetsWrong : ChangeSpec := { name := "extGets", fn := fun _ => fun
  | [d] => { results := [.lit (.bool false)], args := [d] }
  | _ => none }
def ExtGetsWrongFalsely : Prop := extGetsRow.holds Try.pinned (OpenSpec.ofChange extGetsWrong)

/-- 'footplatelaw22.ExtBack': WHATEVER THE INPUT: true; the input reads as it did. -/
def extBackSpec : ChangeSpec := { name := "extBack", fn := fun _ => fun
  | [d1, d2, d3] => { results := [.lit (.bool true)], args := [d1, d2, d3] }
  | _ => none }
def extBackRow : OpenClaim := { program := "ytbabkcdhihmomaa", sum := "caceecf07de730c2a903eaa9c0600c1c045307f19c2a575294377cbf8d7656dc", func := "footplate/footplatelaw22.ExtBack", spec := "extBack", unfollowed := true, recurses := true, apart := false }
def ExtBackSaid : Prop := extBackRow.holds Try.pinned (OpenSpec.ofChange extBackSpec)

/-- ITS FALSE NEIGHBOUR: 'it returns false'. Refute it at one input. -/
def extBackWrong : ChangeSpec := { name := "extBack", fn := fun _ => fun
  | [d1, d2, d3] => { results := [.lit (.bool false)], args := [d1, d2, d3] }
  | _ => none }
def ExtBackWrongFalsely : Prop := extBackRow.holds Try.pinned (OpenSpec.ofChange extBackWrong)

/-- 'footplatelaw22.ExtSkips': WHATEVER THE INPUT: true; the input reads as it did. -/
def extSkipsSpec : ChangeSpec := { name := "extSkips", fn := fun _ => fun
  | [d1, d2, d3] => { results := [.lit (.bool true)], args := [d1, d2, d3] }
  | _ => none }
def extSkipsRow : OpenClaim := { program := "ytbabkcdhihmomaa", sum := "caceecf07de730c2a903eaa9c0600c1c045307f19c2a575294377cbf8d7656dc", func := "footplate/footplatelaw22.ExtSkips", spec := "extSkips", unfollowed := true, recurses := true, apart := false }
def ExtSkipsSaid : Prop := extSkipsRow.holds Try.pinned (OpenSpec.ofChange extSkipsSpec)

/-- ITS FALSE NEIGHBOUR: 'it returns false'. Refute it at one input. -/
def extSkipsWrong : ChangeSpec := { name := "extSkips", fn := fun _ => fun
  | [d1, d2, d3] => { results := [.lit (.bool false)], args := [d1, d2, d3] }
  | _ => none }
def ExtSkipsWrongFalsely : Prop := extSkipsRow.holds Try.pinned (OpenSpec.ofChange extSkipsWrong)

/- THE SECOND FORM. 'bulk': how many values and letters a reading holds, each counted each time it is reached (what is shared counts as often as it is met; a slice's spare places count too). A statement '..UptoSaid' is the law's where the arguments, and the package variables that the reading takes, are together of bulk at most 1048576: NARROWER than '..Said'. Prove '..Said' where nothing that the law and all that it calls make is longer than what came in: it says more and counts as full. Else prove '..UptoSaid'. A law counts once. -/
mutual
def uptoBulk {H : Type} : DataW H → Nat
  | .lit (.string bytes) => bytes.length + 1
  | .lit _ => 1
  | .nil => 1
  | .ptr d => uptoBulk d + 1
  | .slice elems spare => uptoBulkAll elems + uptoBulkAll spare + 1
  | .agg parts => uptoBulkAll parts + 1
  | .iface _ d => uptoBulk d + 1
  | .map entries => uptoBulkEntries entries + 1
  | .held _ => 1
def uptoBulkAll {H : Type} : List (DataW H) → Nat
  | [] => 0
  | d :: r => uptoBulk d + uptoBulkAll r
def uptoBulkEntries {H : Type} : List (Lit × DataW H) → Nat
  | [] => 0
  | x :: r => uptoBulkEntry x + uptoBulkEntries r
def uptoBulkEntry {H : Type} : Lit × DataW H → Nat
  | (.string bytes, d) => bytes.length + uptoBulk d + 1
  | (_, d) => uptoBulk d + 1
 end
def uptoSmall : (H : Type) → List (DataW H) → Bool := fun _ ds => decide (uptoBulkAll ds ≤ 1048576)
def OpenSpec.upto (s : _root_.Go.ChangeSpec) : _root_.Go.OpenSpec := { _root_.Go.OpenSpec.ofChange s with cond := some uptoSmall }

/-- 'footplatelaw22.ExtPuts', WHERE WHAT IT READS IS OF BULK AT MOST 1048576: true; the input reads as it did. -/
def extPutsUptoRow : OpenClaim := { program := "ytbabkcdhihmomaa", sum := "caceecf07de730c2a903eaa9c0600c1c045307f19c2a575294377cbf8d7656dc", func := "footplate/footplatelaw22.ExtPuts", spec := "extPuts", unfollowed := true, recurses := true, apart := false, narrowed := true }
def ExtPutsUptoSaid : Prop := extPutsUptoRow.holds Try.pinned (OpenSpec.upto extPutsSpec)

/-- 'footplatelaw22.ExtGets', WHERE WHAT IT READS IS OF BULK AT MOST 1048576: true; the input reads as it did. -/
def extGetsUptoRow : OpenClaim := { program := "ytbabkcdhihmomaa", sum := "caceecf07de730c2a903eaa9c0600c1c045307f19c2a575294377cbf8d7656dc", func := "footplate/footplatelaw22.ExtGets", spec := "extGets", unfollowed := true, recurses := true, apart := false, narrowed := true }
def ExtGetsUptoSaid : Prop := extGetsUptoRow.holds Try.pinned (OpenSpec.upto extGetsSpec)

/-- 'footplatelaw22.ExtBack', WHERE WHAT IT READS IS OF BULK AT MOST 1048576: true; the input reads as it did. -/
def extBackUptoRow : OpenClaim := { program := "ytbabkcdhihmomaa", sum := "caceecf07de730c2a903eaa9c0600c1c045307f19c2a575294377cbf8d7656dc", func := "footplate/footplatelaw22.ExtBack", spec := "extBack", unfollowed := true, recurses := true, apart := false, narrowed := true }
def ExtBackUptoSaid : Prop := extBackUptoRow.holds Try.pinned (OpenSpec.upto extBackSpec)

/-- 'footplatelaw22.ExtSkips', WHERE WHAT IT READS IS OF BULK AT MOST 1048576: true; the input reads as it did. -/
def extSkipsUptoRow : OpenClaim := { program := "ytbabkcdhihmomaa", sum := "caceecf07de730c2a903eaa9c0600c1c045307f19c2a575294377cbf8d7656dc", func := "footplate/footplatelaw22.ExtSkips", spec := "extSkips", unfollowed := true, recurses := true, apart := false, narrowed := true }
def ExtSkipsUptoSaid : Prop := extSkipsUptoRow.holds Try.pinned (OpenSpec.upto extSkipsSpec)

end Rows
end Go.Proofs.Ytbabkcdhihmomaa

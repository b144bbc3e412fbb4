/-
  No cell of these rows narrows 'for every input' (looked for: loops, veiled, ifaces, maps, wideKeys, modest, calm, conditions, laid).
  DERIVED. THE GIVEN ROWS OF THIS SEAT. 4 by the template 'for every input the law returns true; each argument reads behind the call as it read before'; 0 by the template 'total and deterministic' (their statements: YtaakcecjdmdhbaaTotals.lean).
  GIVEN WITH THE SEED: the statements are not yours to turn. If you find one false, say at which input.
  Laid BY PROGRAM, IN A SANDBOX (cutbox-rows.mjs): the forced cells as the released guide's own fill.sh prints them over the translation 41b04d22a065b581… (all of the seat's roots in one cut). By AI agents, Wed Nov 11 2026. No macro, syntax, notation, axiom, sorry.
-/
import Derived.Test.YtaakcecjdmdhbaaChecked
import GoSem.Claim
import GoSem.ClaimJoined
import GoSem.ClaimMapViews
import Derived.JoinedTies
import Derived.KernelRfl
namespace Go.Proofs.Ytaakcecjdmdhbaa
/- THE CELL 'sum', in the pinned program and in every row, IS THE sha256 OF THE DUMP (.gsa) THAT YtaakcecjdmdhbaaProg.lean LOADS. Nothing in Lean hashes anything: it is a label: what it is worth is what the hold of that sum in a sandbox is worth. -/
noncomputable def Try.pinned : Pinned := { name := "ytaakcecjdmdhbaa", sum := "41b04d22a065b581da9d6ecd585312516a81bba59c2fc43306cf28de1ce9455d", checked := Try.checked }
namespace Rows
def none {H : Type} : Left H := { results := [], args := [] }

/-- 'footplatelaw05.Ip6Parses': WHATEVER THE INPUT: true; the input reads as it did. -/
def ip6ParsesSpec : ChangeSpec := { name := "ip6Parses", fn := fun _ => fun
  | [d] => { results := [.lit (.bool true)], args := [d] }
  | _ => none }
def ip6ParsesRow : OpenClaim := { program := "ytaakcecjdmdhbaa", sum := "41b04d22a065b581da9d6ecd585312516a81bba59c2fc43306cf28de1ce9455d", func := "footplate/footplatelaw05.Ip6Parses", spec := "ip6Parses", unfollowed := true, recurses := true, apart := false }
def Ip6ParsesSaid : Prop := ip6ParsesRow.holds Try.pinned (OpenSpec.ofChange ip6ParsesSpec)

/-- ITS FALSE NEIGHBOUR: 'it returns false'. Refute it at one input. -/
def ip6ParsesWrong : ChangeSpec := { name := "ip6Parses", fn := fun _ => fun
  | [d] => { results := [.lit (.bool false)], args := [d] }
  | _ => none }
def Ip6ParsesWrongFalsely : Prop := ip6ParsesRow.holds Try.pinned (OpenSpec.ofChange ip6ParsesWrong)

/-- 'footplatelaw05.Ip6Puts': WHATEVER THE INPUT: true; the input reads as it did. -/
def ip6PutsSpec : ChangeSpec := { name := "ip6Puts", fn := fun _ => fun
  | [d1, d2, d3] => { results := [.lit (.bool true)], args := [d1, d2, d3] }
  | _ => none }
def ip6PutsRow : OpenClaim := { program := "ytaakcecjdmdhbaa", sum := "41b04d22a065b581da9d6ecd585312516a81bba59c2fc43306cf28de1ce9455d", func := "footplate/footplatelaw05.Ip6Puts", spec := "ip6Puts", unfollowed := true, recurses := true, apart := false }
def Ip6PutsSaid : Prop := ip6PutsRow.holds Try.pinned (OpenSpec.ofChange ip6PutsSpec)

/-- ITS FALSE NEIGHBOUR: 'it returns false'. Refute it at one input. -/
def ip6PutsWrong : ChangeSpec := { name := "ip6Puts", fn := fun _ => fun
  | [d1, d2, d3] => { results := [.lit (.bool false)], args := [d1, d2, d3] }
  | _ => none }
def Ip6PutsWrongFalsely : Prop := ip6PutsRow.holds Try.pinned (OpenSpec.ofChange ip6PutsWrong)

/-- 'footplatelaw05.Ip6Back': WHATEVER THE INPUT: true; the input reads as it did. -/
def ip6BackSpec : ChangeSpec := { name := "ip6Back", fn := fun _ => fun
  | [d1, d2, d3] => { results := [.lit (.bool true)], args := [d1, d2, d3] }
  | _ => none }
def ip6BackRow : OpenClaim := { program := "ytaakcecjdmdhbaa", sum := "41b04d22a065b581da9d6ecd585312516a81bba59c2fc43306cf28de1ce9455d", func := "footplate/footplatelaw05.Ip6Back", spec := "ip6Back", unfollowed := true, recurses := true, apart := false }
def Ip6BackSaid : Prop := ip6BackRow.holds Try.pinned (OpenSpec.ofChange ip6BackSpec)

/-- ITS FALSE NEIGHBOUR: 'it returns false'. Refute it at one input. -/
def ip6BackWrong : ChangeSpec := { name := "ip6Back", fn := fun _ => fun
  | [d1, d2, d3] => { results := [.lit (.bool false)], args := [d1, d2, d3] }
  | _ => none }
def Ip6BackWrongFalsely : Prop := ip6BackRow.holds Try.pinned (OpenSpec.ofChange ip6BackWrong)

/-- 'footplatelaw05.Ip6Chain': WHATEVER THE INPUT: true; the input reads as it did. -/
def ip6ChainSpec : ChangeSpec := { name := "ip6Chain", fn := fun _ => fun
  | [d1, d2, d3] => { results := [.lit (.bool true)], args := [d1, d2, d3] }
  | _ => none }
def ip6ChainRow : OpenClaim := { program := "ytaakcecjdmdhbaa", sum := "41b04d22a065b581da9d6ecd585312516a81bba59c2fc43306cf28de1ce9455d", func := "footplate/footplatelaw05.Ip6Chain", spec := "ip6Chain", unfollowed := true, recurses := true, apart := false }
def Ip6ChainSaid : Prop := ip6ChainRow.holds Try.pinned (OpenSpec.ofChange ip6ChainSpec)

/-- ITS FALSE NEIGHBOUR: 'it returns false'. Refute it at one input. -/
def ip6ChainWrong : ChangeSpec := { name := "ip6Chain", fn := fun _ => fun
  | [d1, d2, d3] => { results := [.lit (.bool false)], args := [d1, d2, d3] }
  | _ => none }
def Ip6ChainWrongFalsely : Prop := ip6ChainRow.holds Try.pinned (OpenSpec.ofChange ip6ChainWrong)

/- THE SECOND FORM. 'bulk': how many values and letters a reading holds, each counted each time it is reached (what is shared counts as often as it is met; a slice's spare places count too). A statement '..UptoSaid' is the law's where the arguments, and the package variables that the reading takes, are together of bulk at most 1048576: NARROWER than '..Said'. Prove '..Said' where nothing that the law and all that it calls make is longer than what came in: it says more and counts as full. Else prove '..UptoSaid'. A law counts once. -/
mutual
def uptoBulk {H : Type} : DataW H → Nat
  | .lit (.string bytes) => bytes.length + 1
  | .lit _ => 1
  | .nil => 1
  | .ptr d => uptoBulk d + 1
  | .slice elems spare => uptoBulkAll elems + uptoBulkAll spare + 1
  | .agg parts => uptoBulkAll parts + 1
  | .iface _ d => uptoBulk d + 1
  | .map entries => uptoBulkEntries entries + 1
  | .held _ => 1
def uptoBulkAll {H : Type} : List (DataW H) → Nat
  | [] => 0
  | d :: r => uptoBulk d + uptoBulkAll r
def uptoBulkEntries {H : Type} : List (Lit × DataW H) → Nat
  | [] => 0
  | x :: r => uptoBulkEntry x + uptoBulkEntries r
def uptoBulkEntry {H : Type} : Lit × DataW H → Nat
  | (.string bytes, d) => bytes.length + uptoBulk d + 1
  | (_, d) => uptoBulk d + 1
 end
def uptoSmall : (H : Type) → List (DataW H) → Bool := fun _ ds => decide (uptoBulkAll ds ≤ 1048576)
def OpenSpec.upto (s : _root_.Go.ChangeSpec) : _root_.Go.OpenSpec := { _root_.Go.OpenSpec.ofChange s with cond := some uptoSmall }

/-- 'footplatelaw05.Ip6Parses', WHERE WHAT IT READS IS OF BULK AT MOST 1048576: true; the input reads as it did. -/
def ip6ParsesUptoRow : OpenClaim := { program := "ytaakcecjdmdhbaa", sum := "41b04d22a065b581da9d6ecd585312516a81bba59c2fc43306cf28de1ce9455d", func := "footplate/footplatelaw05.Ip6Parses", spec := "ip6Parses", unfollowed := true, recurses := true, apart := false, narrowed := true }
def Ip6ParsesUptoSaid : Prop := ip6ParsesUptoRow.holds Try.pinned (OpenSpec.upto ip6ParsesSpec)

/-- 'footplatelaw05.Ip6Puts', WHERE WHAT IT READS IS OF BULK AT MOST 1048576: true; the input reads as it did. -/
def ip6PutsUptoRow : OpenClaim := { program := "ytaakcecjdmdhbaa", sum := "41b04d22a065b581da9d6ecd585312516a81bba59c2fc43306cf28de1ce9455d", func := "footplate/footplatelaw05.Ip6Puts", spec := "ip6Puts", unfollowed := true, recurses := true, apart := false, narrowed := true }
def Ip6PutsUptoSaid : Prop := ip6PutsUptoRow.holds Try.pinned (OpenSpec.upto ip6PutsSpec)

/-- 'footplatelaw05.Ip6Back', WHERE WHAT IT READS IS OF BULK AT MOST 1048576: true; the input reads as it did. -/
def ip6BackUptoRow : OpenClaim := { program := "ytaakcecjdmdhbaa", sum := "41b04d22a065b581da9d6ecd585312516a81bba59c2fc43306cf28de1ce9455d", func := "footplate/footplatelaw05.Ip6Back", spec := "ip6Back", unfollowed := true, recurses := true, apart := false, narrowed := true }
def Ip6BackUptoSaid : Prop := ip6BackUptoRow.holds Try.pinned (OpenSpec.upto ip6BackSpec)

/-- 'footplatelaw05.Ip6Chain', WHERE WHAT IT READS IS OF BULK AT MOST 1048576: true; the input reads as it did. -/
def ip6ChainUptoRow : OpenClaim := { program := "ytaakcecjdmdhbaa", sum := "41b04d22a065b581da9d6ecd585312516a81bba59c2fc43306cf28de1ce9455d", func := "footplate/footplatelaw05.Ip6Chain", spec := "ip6Chain", unfollowed := true, recurses := true, apart := false, narrowed := true }
def Ip6ChainUptoSaid : Prop := ip6ChainUptoRow.holds Try.pinned (OpenSpec.upto ip6ChainSpec)

end Rows
end Go.Proofs.Ytaakcecjdmdhbaa

/-
  No cell of these rows narrows 'for every input' (looked for: loops, veiled, ifaces, maps, wideKeys, modest, calm, conditions, laid).
  DERIVED. THE GIVEN ROWS OF THIS SEAT. 6 by the template 'for every input the law returns true; each argument reads behind the call as it read before'; 0 by the template 'total and deterministic' (their statements: YtehidnfkogfaoaaTotals.lean).
  GIVEN WITH THE SEED: the statements are not yours to turn. If you find one false, say at which input.
  Laid BY PROGRAM, IN A SANDBOX (cutbox-rows.mjs): the forced cells as the released guide's own fill.sh prints them over the translation fa72231bfff27a21… (all of the seat's roots in one cut). By AI agents, Wed Nov 11 2026. No macro, syntax, notation, axiom, sorry.
-/
import Derived.Test.YtehidnfkogfaoaaChecked
import GoSem.Claim
import GoSem.ClaimJoined
import GoSem.ClaimMapViews
import Derived.JoinedTies
import Derived.KernelRfl
namespace Go.Proofs.Ytehidnfkogfaoaa
/- THE CELL 'sum', in the pinned program and in every row, IS THE sha256 OF THE DUMP (.gsa) THAT YtehidnfkogfaoaaProg.lean LOADS. Nothing in Lean hashes anything: it is a label: what it is worth is what the hold of that sum in a sandbox is worth. -/
noncomputable def Try.pinned : Pinned := { name := "ytehidnfkogfaoaa", sum := "fa72231bfff27a212ee105348cbd8149e4a3252a52409281a4a121dddde28351", checked := Try.checked }
namespace Rows
def none {H : Type} : Left H := { results := [], args := [] }

/-- 'footplatelaw04.Ip4Parses': WHATEVER THE INPUT: true; the input reads as it did. -/
def ip4ParsesSpec : ChangeSpec := { name := "ip4Parses", fn := fun _ => fun
  | [d] => { results := [.lit (.bool true)], args := [d] }
  | _ => none }
def ip4ParsesRow : OpenClaim := { program := "ytehidnfkogfaoaa", sum := "fa72231bfff27a212ee105348cbd8149e4a3252a52409281a4a121dddde28351", func := "footplate/footplatelaw04.Ip4Parses", spec := "ip4Parses", unfollowed := true, recurses := true, apart := false }
def Ip4ParsesSaid : Prop := ip4ParsesRow.holds Try.pinned (OpenSpec.ofChange ip4ParsesSpec)

/-- ITS FALSE NEIGHBOUR: 'it returns false'. Refute it at one input. -/
def ip4ParsesWrong : ChangeSpec := { name := "ip4Parses", fn := fun _ => fun
  | [d] => { results := [.lit (.bool false)], args := [d] }
  | _ => none }
def Ip4ParsesWrongFalsely : Prop := ip4ParsesRow.holds Try.pinned (OpenSpec.ofChange ip4ParsesWrong)

/-- 'footplatelaw04.Ip4Puts': WHATEVER THE INPUT: true; the input reads as it did. -/
def ip4PutsSpec : ChangeSpec := { name := "ip4Puts", fn := fun _ => fun
  | [d1, d2] => { results := [.lit (.bool true)], args := [d1, d2] }
  | _ => none }
def ip4PutsRow : OpenClaim := { program := "ytehidnfkogfaoaa", sum := "fa72231bfff27a212ee105348cbd8149e4a3252a52409281a4a121dddde28351", func := "footplate/footplatelaw04.Ip4Puts", spec := "ip4Puts", unfollowed := true, recurses := true, apart := false }
def Ip4PutsSaid : Prop := ip4PutsRow.holds Try.pinned (OpenSpec.ofChange ip4PutsSpec)

/-- ITS FALSE NEIGHBOUR: 'it returns false'. Refute it at one input. -/
def ip4PutsWrong : ChangeSpec := { name := "ip4Puts", fn := fun _ => fun
  | [d1, d2] => { results := [.lit (.bool false)], args := [d1, d2] }
  | _ => none }
def Ip4PutsWrongFalsely : Prop := ip4PutsRow.holds Try.pinned (OpenSpec.ofChange ip4PutsWrong)

/-- 'footplatelaw04.Ip4Ttl': WHATEVER THE INPUT: true; the input reads as it did. -/
def ip4TtlSpec : ChangeSpec := { name := "ip4Ttl", fn := fun _ => fun
  | [d1, d2] => { results := [.lit (.bool true)], args := [d1, d2] }
  | _ => none }
def ip4TtlRow : OpenClaim := { program := "ytehidnfkogfaoaa", sum := "fa72231bfff27a212ee105348cbd8149e4a3252a52409281a4a121dddde28351", func := "footplate/footplatelaw04.Ip4Ttl", spec := "ip4Ttl", unfollowed := true, recurses := true, apart := false }
def Ip4TtlSaid : Prop := ip4TtlRow.holds Try.pinned (OpenSpec.ofChange ip4TtlSpec)

/-- ITS FALSE NEIGHBOUR: 'it returns false'. Refute it at one input. -/
def ip4TtlWrong : ChangeSpec := { name := "ip4Ttl", fn := fun _ => fun
  | [d1, d2] => { results := [.lit (.bool false)], args := [d1, d2] }
  | _ => none }
def Ip4TtlWrongFalsely : Prop := ip4TtlRow.holds Try.pinned (OpenSpec.ofChange ip4TtlWrong)

/-- 'footplatelaw04.Ip4Back': WHATEVER THE INPUT: true; the input reads as it did. -/
def ip4BackSpec : ChangeSpec := { name := "ip4Back", fn := fun _ => fun
  | [d1, d2, d3] => { results := [.lit (.bool true)], args := [d1, d2, d3] }
  | _ => none }
def ip4BackRow : OpenClaim := { program := "ytehidnfkogfaoaa", sum := "fa72231bfff27a212ee105348cbd8149e4a3252a52409281a4a121dddde28351", func := "footplate/footplatelaw04.Ip4Back", spec := "ip4Back", unfollowed := true, recurses := true, apart := false }
def Ip4BackSaid : Prop := ip4BackRow.holds Try.pinned (OpenSpec.ofChange ip4BackSpec)

/-- ITS FALSE NEIGHBOUR: 'it returns false'. Refute it at one input. -/
def ip4BackWrong : ChangeSpec := { name := "ip4Back", fn := fun _ => fun
  | [d1, d2, d3] => { results := [.lit (.bool false)], args := [d1, d2, d3] }
  | _ => none }
def Ip4BackWrongFalsely : Prop := ip4BackRow.holds Try.pinned (OpenSpec.ofChange ip4BackWrong)

/-- 'footplatelaw04.Ip4Turned': WHATEVER THE INPUT: true; the input reads as it did. -/
def ip4TurnedSpec : ChangeSpec := { name := "ip4Turned", fn := fun _ => fun
  | [d1, d2, d3] => { results := [.lit (.bool true)], args := [d1, d2, d3] }
  | _ => none }
def ip4TurnedRow : OpenClaim := { program := "ytehidnfkogfaoaa", sum := "fa72231bfff27a212ee105348cbd8149e4a3252a52409281a4a121dddde28351", func := "footplate/footplatelaw04.Ip4Turned", spec := "ip4Turned", unfollowed := true, recurses := true, apart := false }
def Ip4TurnedSaid : Prop := ip4TurnedRow.holds Try.pinned (OpenSpec.ofChange ip4TurnedSpec)

/-- ITS FALSE NEIGHBOUR: 'it returns false'. Refute it at one input. -/
def ip4TurnedWrong : ChangeSpec := { name := "ip4Turned", fn := fun _ => fun
  | [d1, d2, d3] => { results := [.lit (.bool false)], args := [d1, d2, d3] }
  | _ => none }
def Ip4TurnedWrongFalsely : Prop := ip4TurnedRow.holds Try.pinned (OpenSpec.ofChange ip4TurnedWrong)

/-- 'footplatelaw04.Ip4Chain': WHATEVER THE INPUT: true; the input reads as it did. -/
def ip4ChainSpec : ChangeSpec := { name := "ip4Chain", fn := fun _ => fun
  | [d1, d2, d3] => { results := [.lit (.bool true)], args := [d1, d2, d3] }
  | _ => none }
def ip4ChainRow : OpenClaim := { program := "ytehidnfkogfaoaa", sum := "fa72231bfff27a212ee105348cbd8149e4a3252a52409281a4a121dddde28351", func := "footplate/footplatelaw04.Ip4Chain", spec := "ip4Chain", unfollowed := true, recurses := true, apart := false }
def Ip4ChainSaid : Prop := ip4ChainRow.holds Try.pinned (OpenSpec.ofChange ip4ChainSpec)

/-- ITS FALSE NEIGHBOUR: 'it returns false'. Refute it at one input. -/
def ip4ChainWrong : ChangeSpec := { name := "ip4Chain", fn := fun _ => fun
  | [d1, d2, d3] => { results := [.lit (.bool false)], args := [d1, d2, d3] }
  | _ => none }
def Ip4ChainWrongFalsely : Prop := ip4ChainRow.holds Try.pinned (OpenSpec.ofChange ip4ChainWrong)

/- THE SECOND FORM. 'bulk': how many values and letters a reading holds, each counted each time it is reached (what is shared counts as often as it is met; a slice's spare places count too). A statement '..UptoSaid' is the law's where the arguments, and the package variables that the reading takes, are together of bulk at most 1048576: NARROWER than '..Said'. Prove '..Said' where nothing that the law and all that it calls make is longer than what came in: it says more and counts as full. Else prove '..UptoSaid'. A law counts once. -/
mutual
def uptoBulk {H : Type} : DataW H → Nat
  | .lit (.string bytes) => bytes.length + 1
  | .lit _ => 1
  | .nil => 1
  | .ptr d => uptoBulk d + 1
  | .slice elems spare => uptoBulkAll elems + uptoBulkAll spare + 1
  | .agg parts => uptoBulkAll parts + 1
  | .iface _ d => uptoBulk d + 1
  | .map entries => uptoBulkEntries entries + 1
  | .held _ => 1
def uptoBulkAll {H : Type} : List (DataW H) → Nat
  | [] => 0
  | d :: r => uptoBulk d + uptoBulkAll r
def uptoBulkEntries {H : Type} : List (Lit × DataW H) → Nat
  | [] => 0
  | x :: r => uptoBulkEntry x + uptoBulkEntries r
def uptoBulkEntry {H : Type} : Lit × DataW H → Nat
  | (.string bytes, d) => bytes.length + uptoBulk d + 1
  | (_, d) => uptoBulk d + 1
 end
def uptoSmall : (H : Type) → List (DataW H) → Bool := fun _ ds => decide (uptoBulkAll ds ≤ 1048576)
def OpenSpec.upto (s : _root_.Go.ChangeSpec) : _root_.Go.OpenSpec := { _root_.Go.OpenSpec.ofChange s with cond := some uptoSmall }

/-- 'footplatelaw04.Ip4Parses', WHERE WHAT IT READS IS OF BULK AT MOST 1048576: true; the input reads as it did. -/
def ip4ParsesUptoRow : OpenClaim := { program := "ytehidnfkogfaoaa", sum := "fa72231bfff27a212ee105348cbd8149e4a3252a52409281a4a121dddde28351", func := "footplate/footplatelaw04.Ip4Parses", spec := "ip4Parses", unfollowed := true, recurses := true, apart := false, narrowed := true }
def Ip4ParsesUptoSaid : Prop := ip4ParsesUptoRow.holds Try.pinned (OpenSpec.upto ip4ParsesSpec)

/-- 'footplatelaw04.Ip4Puts', WHERE WHAT IT READS IS OF BULK AT MOST 1048576: true; the input reads as it did. -/
def ip4PutsUptoRow : OpenClaim := { program := "ytehidnfkogfaoaa", sum := "fa72231bfff27a212ee105348cbd8149e4a3252a52409281a4a121dddde28351", func := "footplate/footplatelaw04.Ip4Puts", spec := "ip4Puts", unfollowed := true, recurses := true, apart := false, narrowed := true }
def Ip4PutsUptoSaid : Prop := ip4PutsUptoRow.holds Try.pinned (OpenSpec.upto ip4PutsSpec)

/-- 'footplatelaw04.Ip4Ttl', WHERE WHAT IT READS IS OF BULK AT MOST 1048576: true; the input reads as it did. -/
def ip4TtlUptoRow : OpenClaim := { program := "ytehidnfkogfaoaa", sum := "fa72231bfff27a212ee105348cbd8149e4a3252a52409281a4a121dddde28351", func := "footplate/footplatelaw04.Ip4Ttl", spec := "ip4Ttl", unfollowed := true, recurses := true, apart := false, narrowed := true }
def Ip4TtlUptoSaid : Prop := ip4TtlUptoRow.holds Try.pinned (OpenSpec.upto ip4TtlSpec)

/-- 'footplatelaw04.Ip4Back', WHERE WHAT IT READS IS OF BULK AT MOST 1048576: true; the input reads as it did. -/
def ip4BackUptoRow : OpenClaim := { program := "ytehidnfkogfaoaa", sum := "fa72231bfff27a212ee105348cbd8149e4a3252a52409281a4a121dddde28351", func := "footplate/footplatelaw04.Ip4Back", spec := "ip4Back", unfollowed := true, recurses := true, apart := false, narrowed := true }
def Ip4BackUptoSaid : Prop := ip4BackUptoRow.holds Try.pinned (OpenSpec.upto ip4BackSpec)

/-- 'footplatelaw04.Ip4Turned', WHERE WHAT IT READS IS OF BULK AT MOST 1048576: true; the input reads as it did. -/
def ip4TurnedUptoRow : OpenClaim := { program := "ytehidnfkogfaoaa", sum := "fa72231bfff27a212ee105348cbd8149e4a3252a52409281a4a121dddde28351", func := "footplate/footplatelaw04.Ip4Turned", spec := "ip4Turned", unfollowed := true, recurses := true, apart := false, narrowed := true }
def Ip4TurnedUptoSaid : Prop := ip4TurnedUptoRow.holds Try.pinned (OpenSpec.upto ip4TurnedSpec)

/-- 'footplatelaw04.Ip4Chain', WHERE WHAT IT READS IS OF BULK AT MOST 1048576: true; the input reads as it did. -/
def ip4ChainUptoRow : OpenClaim := { program := "ytehidnfkogfaoaa", sum := "fa72231bfff27a212ee105348cbd8149e4a3252a52409281a4a121dddde28351", func := "footplate/footplatelaw04.Ip4Chain", spec := "ip4Chain", unfollowed := true, recurses := true, apart := false, narrowed := true }
def Ip4ChainUptoSaid : Prop := ip4ChainUptoRow.holds Try.pinned (OpenSpec.upto ip4ChainSpec)

end Rows
end Go.Proofs.Ytehidnfkogfaoaa

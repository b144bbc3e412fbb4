/-
  NARROWER THAN 'FOR EVERY INPUT', by the rows' own cells (each row's printed sentence says how): SpecialOf: laid · SpecialNames: laid.
  DERIVED. THE GIVEN ROWS OF THIS SEAT. 2 by the template 'for every input the law returns true; each argument reads behind the call as it read before'; 0 by the template 'total and deterministic' (their statements: YtfpieennbgmdhaaDoorTotals.lean).
  GIVEN WITH THE SEED: the statements are not yours to turn. If you find one false, say at which input.
  Laid BY PROGRAM, IN A SANDBOX (cutbox-rows.mjs): the forced cells as the released guide's own fill.sh prints them over the translation e77197253e061f84… (all of the seat's roots in one cut). By AI agents, Wed Nov 11 2026. No macro, syntax, notation, axiom, sorry.
-/
import Derived.Test.YtfpieennbgmdhaaDoorChecked
import GoSem.Claim
import GoSem.ClaimJoined
import GoSem.ClaimMapViews
import Derived.JoinedTies
import Derived.KernelRfl
namespace Go.Proofs.YtfpieennbgmdhaaDoor
/- THE CELL 'sum', in the pinned program and in every row, IS THE sha256 OF THE DUMP (.gsa) THAT YtfpieennbgmdhaaDoorProg.lean LOADS. Nothing in Lean hashes anything: it is a label: what it is worth is what the hold of that sum in a sandbox is worth. -/
noncomputable def Tryd.pinned : Pinned := { name := "ytfpieennbgmdhaadoor", sum := "e77197253e061f84a940eb170a91733c82a9d75e9adcd1a5f29c630c11f781fc", checked := Tryd.checked }
namespace Rows
def none {H : Type} : Left H := { results := [], args := [] }

/- WHAT THE LISTED PACKAGE-LEVEL VARIABLES READ AS WHEN THE CALL BEGINS. Each datum BY PROGRAM (the guide's laid-datum.mjs) off the statement by which the dump's own 'gosem.cut.vars' lays the variable. In a bare row this is a premise. The card (YtfpieennbgmdhaaDoorCards.lean) ties it to the program's text. -/
def laid_footplate_special_names {H : Type} : DataW H := .agg [.lit (.string [110, 117, 108, 108, 52]), .lit (.string [97, 108, 101, 114, 116]), .lit (.string [110, 117, 108, 108, 54]), .lit (.string [105, 109, 112, 108, 105, 99, 105, 116]), .lit (.string []), .lit (.string []), .lit (.string []), .lit (.string [101, 110, 116, 114, 111, 112, 121]), .lit (.string []), .lit (.string []), .lit (.string []), .lit (.string []), .lit (.string []), .lit (.string [99, 104, 97, 110, 110, 101, 108]), .lit (.string [119, 97, 116, 99, 104]), .lit (.string [109, 111, 114, 101])]

/-- 'footplatelaw21.SpecialOf': WHATEVER THE INPUT: true; the input reads as it did. -/
def specialOfSpec : ChangeSpec := { name := "specialOf", fn := fun _ => fun
  | [d] => { results := [.lit (.bool true)], args := [d] }
  | _ => none }
def specialOfRow : OpenClaim := { program := "ytfpieennbgmdhaadoor", sum := "e77197253e061f84a940eb170a91733c82a9d75e9adcd1a5f29c630c11f781fc", func := "footplate/footplatelaw21.SpecialOf", spec := "specialOf", named := ["footplate/special.names"], apart := false, laid := [("footplate/special.names", laid_footplate_special_names)] }
def SpecialOfSaid : Prop := specialOfRow.holds Tryd.pinned (OpenSpec.ofChange specialOfSpec)

/-- ITS FALSE NEIGHBOUR: 'it returns false'. Refute it at one input. -/
def specialOfWrong : ChangeSpec := { name := "specialOf", fn := fun _ => fun
  | [d] => { results := [.lit (.bool false)], args := [d] }
  | _ => none }
def SpecialOfWrongFalsely : Prop := specialOfRow.holds Tryd.pinned (OpenSpec.ofChange specialOfWrong)

/-- 'footplatelaw21.SpecialNames': WHATEVER THE INPUT: true; the input reads as it did. -/
def specialNamesSpec : ChangeSpec := { name := "specialNames", fn := fun _ => fun
  | [d1, d2] => { results := [.lit (.bool true)], args := [d1, d2] }
  | _ => none }
def specialNamesRow : OpenClaim := { program := "ytfpieennbgmdhaadoor", sum := "e77197253e061f84a940eb170a91733c82a9d75e9adcd1a5f29c630c11f781fc", func := "footplate/footplatelaw21.SpecialNames", spec := "specialNames", named := ["footplate/special.names"], apart := false, laid := [("footplate/special.names", laid_footplate_special_names)] }
def SpecialNamesSaid : Prop := specialNamesRow.holds Tryd.pinned (OpenSpec.ofChange specialNamesSpec)

/-- ITS FALSE NEIGHBOUR: 'it returns false'. Refute it at one input. -/
def specialNamesWrong : ChangeSpec := { name := "specialNames", fn := fun _ => fun
  | [d1, d2] => { results := [.lit (.bool false)], args := [d1, d2] }
  | _ => none }
def SpecialNamesWrongFalsely : Prop := specialNamesRow.holds Tryd.pinned (OpenSpec.ofChange specialNamesWrong)

/- THE SECOND FORM. 'bulk': how many values and letters a reading holds, each counted each time it is reached (what is shared counts as often as it is met; a slice's spare places count too). A statement '..UptoSaid' is the law's where the arguments, and the package variables that the reading takes, are together of bulk at most 1048576: NARROWER than '..Said'. Prove '..Said' where nothing that the law and all that it calls make is longer than what came in: it says more and counts as full. Else prove '..UptoSaid'. A law counts once. -/
mutual
def uptoBulk {H : Type} : DataW H → Nat
  | .lit (.string bytes) => bytes.length + 1
  | .lit _ => 1
  | .nil => 1
  | .ptr d => uptoBulk d + 1
  | .slice elems spare => uptoBulkAll elems + uptoBulkAll spare + 1
  | .agg parts => uptoBulkAll parts + 1
  | .iface _ d => uptoBulk d + 1
  | .map entries => uptoBulkEntries entries + 1
  | .held _ => 1
def uptoBulkAll {H : Type} : List (DataW H) → Nat
  | [] => 0
  | d :: r => uptoBulk d + uptoBulkAll r
def uptoBulkEntries {H : Type} : List (Lit × DataW H) → Nat
  | [] => 0
  | x :: r => uptoBulkEntry x + uptoBulkEntries r
def uptoBulkEntry {H : Type} : Lit × DataW H → Nat
  | (.string bytes, d) => bytes.length + uptoBulk d + 1
  | (_, d) => uptoBulk d + 1
 end
def uptoSmall : (H : Type) → List (DataW H) → Bool := fun _ ds => decide (uptoBulkAll ds ≤ 1048576)
def OpenSpec.upto (s : _root_.Go.ChangeSpec) : _root_.Go.OpenSpec := { _root_.Go.OpenSpec.ofChange s with cond := some uptoSmall }

/-- 'footplatelaw21.SpecialOf', WHERE WHAT IT READS IS OF BULK AT MOST 1048576: true; the input reads as it did. -/
def specialOfUptoRow : OpenClaim := { program := "ytfpieennbgmdhaadoor", sum := "e77197253e061f84a940eb170a91733c82a9d75e9adcd1a5f29c630c11f781fc", func := "footplate/footplatelaw21.SpecialOf", spec := "specialOf", named := ["footplate/special.names"], apart := false, laid := [("footplate/special.names", laid_footplate_special_names)], narrowed := true }
def SpecialOfUptoSaid : Prop := specialOfUptoRow.holds Tryd.pinned (OpenSpec.upto specialOfSpec)

/-- 'footplatelaw21.SpecialNames', WHERE WHAT IT READS IS OF BULK AT MOST 1048576: true; the input reads as it did. -/
def specialNamesUptoRow : OpenClaim := { program := "ytfpieennbgmdhaadoor", sum := "e77197253e061f84a940eb170a91733c82a9d75e9adcd1a5f29c630c11f781fc", func := "footplate/footplatelaw21.SpecialNames", spec := "specialNames", named := ["footplate/special.names"], apart := false, laid := [("footplate/special.names", laid_footplate_special_names)], narrowed := true }
def SpecialNamesUptoSaid : Prop := specialNamesUptoRow.holds Tryd.pinned (OpenSpec.upto specialNamesSpec)

end Rows
end Go.Proofs.YtfpieennbgmdhaaDoor

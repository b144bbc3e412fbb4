/- What rewrite.Do's closures compute. No condition but sizes. -/
import Derived.Test.YtmpaockaeoknmaaRw6
import Derived.Test.YtmpaockaeoknmaaHop2
namespace Go.Proofs.Ytmpaockaeoknmaa
open Go.RowKit
set_option linter.unusedVariables false
set_option maxRecDepth 20000
set_option linter.unusedSimpArgs false

/-- the closure push, with what it holds -/
def pushV (g1 g2 g3 : Nat) : Value := .func (.func 20) #[] #[.pointer (some ⟨g1, 0, none⟩), .pointer (some ⟨g2, 0, none⟩), .pointer (some ⟨g3, 0, none⟩)]
structure Held (w : World) (g1 g2 g3 g4 g5 b o n c : Nat) (x : Ent) (t : Int) (l : List Ent) (m : Hp) : Prop where
  top : Blk w g1 46 x.cells
  t8 : Blk w g2 5 [.int .u8 t]
  row : Blk w g3 22 [.slice (some ⟨b, o, none⟩) n c]
  fn : ∃ T, Blk w g4 T [pushV g1 g2 g3]
  hop : Blk w g5 25 m.cells
theorem Held.on {w w' : World} {g1 g2 g3 g4 g5 b o n c : Nat} {x : Ent} {t : Int} {l : List Ent} {m : Hp} (h : Held w g1 g2 g3 g4 g5 b o n c x t l m) (hb : Below w.heap.size w w') : Held w' g1 g2 g3 g4 g5 b o n c x t l m :=
  ⟨h.top.on hb, h.t8.on hb, h.row.on hb, by obtain ⟨T, hT⟩ := h.fn; exact ⟨T, hT.on hb⟩, h.hop.on hb⟩
theorem hop_below {w w' : World} {m : Hp} (h : m.ok w) (hb : Below w.heap.size w w') : m.ok w' := ⟨h.op, h.port, h.bk, (h.lrow.below hb).more hb.size, h.lle, h.lcap, (h.rrow.below hb).more hb.size, h.rle, h.rcap, h.lwf, h.rwf⟩

set_option maxHeartbeats 2000000 in
theorem do2_any (g1 g2 g3 g4 g5 b o n c : Nat) (x : Ent) (t : Int) (l : List Ent) (m : Hp) (w : World) (hh : Held w g1 g2 g3 g4 g5 b o n c x t l m) (hm : m.ok w) (hln : m.ln ≤ 1000000)
    (h : Row w w.heap.size 4 (some ⟨b, o, none⟩) n (evs l)) (hn1 : 1 ≤ n) (hc : n ≤ c) (hcm : c ≤ maxLen) (hn : n ≤ 1000000) (hcl : 0 ≤ x.cls ∧ x.cls ≤ 255) :
    Calls Try.prog 23 #[.pointer (some ⟨g4, 0, none⟩), .pointer (some ⟨g5, 0, none⟩)] w fun e w' => ∃ A' c', e = .returned (.tuple #[.slice A' (outE (pushF x t m.l l)).1.length c', .int .i64 (outE (pushF x t m.l l)).2]) ∧ Own w' w.heap.size 46 4 A' (outE (pushF x t m.l l)).1.length c' (evs (outE (pushF x t m.l l)).1) ∧ Below w.heap.size w w' := by
  obtain ⟨T, hT⟩ := hh.fn
  have d0 : w.cell? ⟨g4, 0, none⟩ = some (.func (.func 20) #[] #[.pointer (some ⟨g1, 0, none⟩), .pointer (some ⟨g2, 0, none⟩), .pointer (some ⟨g3, 0, none⟩)]) := hT.cell 0
  have d1 : w.cell? ⟨g5, 1, none⟩ = some (.slice m.lA m.ln m.lc) := hh.hop.cell 1
  have P := push20_any m.lA m.ln m.lc m.l g1 g2 g3 b o x t n c l w hh.top hh.t8 hh.row hm.lrow hln h hn1 hc hcm hn hcl
  generalize outE (pushF x t m.l l) = R at P ⊢
  have HP := Lib.hid P
  clear P hT hh hm h
  go_enter Try.func23, Try.ntmps23
  go_wp2_with fail
  refine HP.out.mono ?_
  rintro e w' ⟨A', c', rfl, hown, hb⟩
  clear d0 d1
  go_wp2_with fail
  go_ret2
  exact ⟨A', c', rfl, hown, hb⟩
end Go.Proofs.Ytmpaockaeoknmaa

/- The walk of the law SumTurns: it answers true, and nothing that was there is turned. No condition but those of the row. -/
import Derived.Test.YtjacgpankndigaaLaw02
import Derived.Deep.RegionHeld3
namespace Go.Proofs.Ytjacgpankndigaa
open Go.RowKit
set_option linter.unusedVariables false

set_option maxHeartbeats 1000000 in
theorem walk_SumTurns (w : World) (x0 : Int) (hx0 : 0 ≤ x0 ∧ x0 ≤ 65535) (x1 : Int) (hx1 : 0 ≤ x1 ∧ x1 ≤ 65535) (x2 : Int) (hx2 : 0 ≤ x2 ∧ x2 ≤ 65535) (x3 : Int) (hx3 : 0 ≤ x3 ∧ x3 ≤ 255) (x4 : Int) (hx4 : -9223372036854775808 ≤ x4 ∧ x4 ≤ 9223372036854775807) (a : Bs) (ha : a.ok w) (b : Bs) (hb : b.ok w) :
    Calls Try.prog 4 #[.agg #[.int .u16 x0, .int .u16 x1, .int .u16 x2, .int .u8 x3, .int .i64 x4], a.v, b.v] w fun e w' => e = .returned (.bool true) ∧ Below w.heap.size w w' := by
  obtain ⟨A, n, ca, l⟩ := a
  obtain ⟨B, m, cb, l2⟩ := b
  have hla := ha.len
  have hlb := hb.len
  simp only at hla hlb
  unfold Bs.v
  simp only
  by_cases hs : n ≤ 40 ∧ m ≤ 40
  · obtain ⟨h1, h2⟩ := hs
    have i1 : l.length ≤ 40 := by omega
    have i2 : l2.length ≤ 40 := by omega
    have e0 := wi x0 (by omega) (by omega)
    have e1 := wi x1 (by omega) (by omega)
    have e2 := wi x2 (by omega) (by omega)
    have e3 := wi x3 (by omega) (by omega)
    have hfo := foldN_le (65535 - x0 + (65535 - x1) + x2).toNat
    have e5 := wi ((65535 - foldN (65535 - x0 + (65535 - x1) + x2).toNat : Nat) : Int) (by omega) (by omega)
    clear hla hlb
    go_enter Try.func4, Try.ntmps4
    go_wp2_with fail
    refine (awake_any _).mono ?_
    rintro e w1 ⟨rfl, hw1⟩
    have hw2 := ballocd hw1
    have a1 := ha.below hw2
    have b1 := hb.below hw2
    have hcell : ∀ j, w1.cell? ⟨w.heap.size, j, none⟩ = (#[.int .u16 x0, .int .u16 x1, .int .u16 x2, .int .u8 x3, .int .i64 x4] : Array Value)[j]? := fun j => by
      rw [hw1.cell (p := ⟨w.heap.size, j, none⟩) (by simp)]
      exact cell_of_row _ _ j _ _ (0, 0) (heap_alloc_new w _)
    have c0 : w1.cell? ⟨w.heap.size, 0, none⟩ = some (.int .u16 x0) := hcell 0
    have c1 : w1.cell? ⟨w.heap.size, 1, none⟩ = some (.int .u16 x1) := hcell 1
    have c2 : w1.cell? ⟨w.heap.size, 2, none⟩ = some (.int .u16 x2) := hcell 2
    have c3 : w1.cell? ⟨w.heap.size, 3, none⟩ = some (.int .u8 x3) := hcell 3
    have c4 : w1.cell? ⟨w.heap.size, 4, none⟩ = some (.int .i64 x4) := hcell 4
    have hsz : w.heap.size < w1.heap.size := by have := hw1.size; simp at this; omega
    have KB : ∀ W, Below w1.heap.size w1 W → W.cell? ⟨w.heap.size, 0, none⟩ = some (.int .u16 x0) ∧ W.cell? ⟨w.heap.size, 1, none⟩ = some (.int .u16 x1) ∧ W.cell? ⟨w.heap.size, 2, none⟩ = some (.int .u16 x2) ∧
        W.cell? ⟨w.heap.size, 3, none⟩ = some (.int .u8 x3) ∧ W.cell? ⟨w.heap.size, 4, none⟩ = some (.int .i64 x4) ∧ (convert 22 9 (.slice A n ca)).run Try.prog W = .ok (str l) W ∧ (convert 22 9 (.slice B m cb)).run Try.prog W = .ok (str l2) W ∧
        Below w1.heap.size w1 W := fun W hW =>
      ⟨(hW.cell (p := ⟨w.heap.size, 0, none⟩) hsz).trans c0, (hW.cell (p := ⟨w.heap.size, 1, none⟩) hsz).trans c1, (hW.cell (p := ⟨w.heap.size, 2, none⟩) hsz).trans c2, (hW.cell (p := ⟨w.heap.size, 3, none⟩) hsz).trans c3, (hW.cell (p := ⟨w.heap.size, 4, none⟩) hsz).trans c4,
        run_bytes_str W _ _ 5 Try.underlying22 Try.underlying5 Try.underlying9 _ A n ca l (a1.below hW).row, run_bytes_str W _ _ 5 Try.underlying22 Try.underlying5 Try.underlying9 _ B m cb l2 (b1.below hW).row, hW⟩
    have KH := Lib.hid KB
    have A1 := Lib.hid a1
    have B1 := Lib.hid b1
    clear hcell ha hb KB a1 b1 c0 c1 c2 c3 c4
    go_wp2_with fail
    go_region_held3 (fun W => W.cell? ⟨w.heap.size, 0, none⟩ = some (.int .u16 x0) ∧ W.cell? ⟨w.heap.size, 1, none⟩ = some (.int .u16 x1) ∧ W.cell? ⟨w.heap.size, 2, none⟩ = some (.int .u16 x2) ∧
        W.cell? ⟨w.heap.size, 3, none⟩ = some (.int .u8 x3) ∧ W.cell? ⟨w.heap.size, 4, none⟩ = some (.int .i64 x4) ∧ (convert 22 9 (.slice A n ca)).run Try.prog W = .ok (str l) W ∧ (convert 22 9 (.slice B m cb)).run Try.prog W = .ok (str l2) W ∧
        Below w1.heap.size w1 W)
      (first | exact KH.out _ (Below.refl _ _).drew | exact KH.out _ (by assumption))
      (first
        | (go_at_call 14; refine (turn_any _ _ _ _ hx0.1 hx0.2 hx1.1 hx1.2 hx2.1 hx2.2).mono ?_; rintro e w' ⟨rfl, rfl⟩)
        | (go_at_call 15; refine (rturn_any _ _ _ _ hx0.1 hx0.2 hx1.1 hx1.2 hx2.1 hx2.2).mono ?_; rintro e w' ⟨rfl, rfl⟩)
        | (go_at_call 16; refine (pseudo_sl A B n ca m cb l l2 _ _ _ (A1.out.below (by exact (‹_ ∧ _ ∧ _ ∧ _ ∧ _ ∧ _ ∧ _ ∧ Below w1.heap.size w1 _›.2.2.2.2.2.2.2))) (B1.out.below (by exact (‹_ ∧ _ ∧ _ ∧ _ ∧ _ ∧ _ ∧ _ ∧ Below w1.heap.size w1 _›.2.2.2.2.2.2.2))) (by omega) (by omega) hx3.1 hx3.2 hx4.1 hx4.2).mono ?_; rintro e w5 ⟨rA, rn, rc, rl, rfl, hr, hrl, hb5⟩; have hbb5 : Below w1.heap.size w1 w5 := bthen (‹_ ∧ _ ∧ _ ∧ _ ∧ _ ∧ _ ∧ _ ∧ Below w1.heap.size w1 _›.2.2.2.2.2.2.2) hb5; have HV := Lib.hid (fun W (hW : Below w5.heap.size w5 W) => run_bytes_str (P := Try.prog) W 22 9 5 Try.underlying22 Try.underlying5 Try.underlying9 _ rA rn rc rl (hr.below hW).row); have hv5 := HV.out _ (Below.refl _ _); have HRL := Lib.hid hrl; clear hrl hr)
        | (go_at_call 17; refine (rpseudo_any l l2 _ _ _ (by omega) (by omega) hx3.1 hx3.2 hx4.1 hx4.2).mono ?_; rintro e w6 ⟨rfl, hb6⟩; have hbb6 : Below w1.heap.size w1 w6 := bthen (‹_ ∧ _ ∧ _ ∧ _ ∧ _ ∧ _ ∧ _ ∧ Below w1.heap.size w1 _›.2.2.2.2.2.2.2) hb6; (try have hv6 := HV.out _ hb6)))
    all_goals
      go_wp2_with fail
      go_ret
      refine ⟨ret_bool ?_, bthen hw2 (by assumption)⟩
      show (rl == pseudoF l l2 x3.toNat x4) = true
      rw [HRL.out]
      simp
  · have key : 40 < (n : Int) ∨ (¬ 40 < (n : Int) ∧ 40 < (m : Int)) := by omega
    clear hs ha hb
    rcases key with h | ⟨h1, h⟩
    all_goals
      go_enter Try.func4, Try.ntmps4
      go_wp2_with fail
      refine (awake_any _).mono ?_
      rintro e w1 ⟨rfl, hw1⟩
      go_wp2_with fail
      go_ret
      exact ⟨rfl, ballocd hw1⟩
end Go.Proofs.Ytjacgpankndigaa

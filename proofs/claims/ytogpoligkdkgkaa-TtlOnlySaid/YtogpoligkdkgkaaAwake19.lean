/- What the awake of layer 19 computes. No condition. -/
import Derived.Test.YtogpoligkdkgkaaRfresh
namespace Go.Proofs.Ytogpoligkdkgkaa
open Go.RowKit Go.Shelf
set_option linter.unusedVariables false

set_option maxHeartbeats 1000000 in
theorem awake_any (w : World) : Calls Try.prog 7 #[] w fun e w' => e = .returned (.bool true) ∧ Below w.heap.size w w' := by
  go_enter Try.func7, Try.ntmps7
  go_wp2_with fail
  refine (next_any 1 (by omega) (by omega) _).mono ?_
  rintro e w' ⟨rfl, rfl⟩
  simp only [show nextF 1 = 0 from rfl, show decide (¬ (1 : Int) < 2) = false from rfl]
  go_wp2_with fail
  refine (next_any 2 (by omega) (by omega) _).mono ?_
  rintro e w' ⟨rfl, rfl⟩
  simp only [show nextF 2 = 1 from rfl, show decide (¬ (2 : Int) < 2) = true from rfl]
  go_wp2_with fail
  have hrow : Row (w.alloc (.cells #[.int .i64 16, .int .i64 17] 3)) (w.alloc (.cells #[.int .i64 16, .int .i64 17] 3)).heap.size 1 (some ⟨w.heap.size, 0, none⟩) 2 (nv .i64 [16, 17]) := by
    rw [World.size_alloc]
    exact Row.new (n := 2) (sz := 1) w #[.int .i64 16, .int .i64 17] rfl
  refine (fresh_any (some ⟨w.heap.size, 0, none⟩) 2 2 [16, 17] 3 9 (by omega) (by omega) (by omega) _ hrow).mono ?_
  rintro e w1 ⟨A1, c1, rfl, hown, hb⟩
  have hB : Below w.heap.size w w1 := ((Below.refl _ _).alloc (Nat.le_refl _) _).trans (hb.mono (by simp))
  obtain ⟨b, o, rfl, hbB, a0, a1, a2, a3⟩ := ent_row hown.row 0 ⟨17, 3, false, 9⟩ rfl
  simp only [Nat.zero_mul, Nat.add_zero] at a0 a1 a2 a3
  clear hrow hb hown
  go_wp2_with fail
  refine (under_any 10 64 false (by omega) (by omega) _ (by omega) (by omega)).mono ?_
  rintro e w' ⟨rfl, rfl⟩
  simp only [show underF 10 64 false = 10 from rfl]
  go_wp2_with fail
  refine (under_any 10 64 true (by omega) (by omega) _ (by omega) (by omega)).mono ?_
  rintro e w' ⟨rfl, rfl⟩
  simp only [show underF 10 64 true = 64 from rfl]
  go_wp2_with fail
  refine (class_any 1 2 false (by omega) (by omega) _ (by omega) (by omega)).mono ?_
  rintro e w' ⟨rfl, rfl⟩
  simp only [show classF 1 2 false = 1 from rfl]
  go_wp2_with fail
  refine (tos_any 255 0 (by omega) (by omega) _ (by omega) (by omega)).mono ?_
  rintro e w' ⟨rfl, rfl⟩
  simp only [show (255 : Int) % 32 + 32 * (0 % 8) = 31 from rfl]
  go_wp2_with fail
  refine (tof_any 96 (by omega) (by omega) _).mono ?_
  rintro e w' ⟨rfl, rfl⟩
  simp only [show (96 : Int) / 32 = 3 from rfl]
  go_wp2_with fail
  refine (guard_any 5 3 (by omega) (by omega) _ (by omega) (by omega)).mono ?_
  rintro e w' ⟨rfl, rfl⟩
  simp only [show guardF 5 3 = 2 from rfl]
  go_wp2_with fail
  refine (guard_any 5 5 (by omega) (by omega) _ (by omega) (by omega)).mono ?_
  rintro e w' ⟨rfl, rfl⟩
  simp only [show guardF 5 5 = 0 from rfl]
  go_wp2_with fail
  go_ret
  exact ⟨rfl, hB⟩
end Go.Proofs.Ytogpoligkdkgkaa

/- The walk of TtlRows of layer 19 (ttl). No condition but those of the row. -/
import Derived.Test.YtogpoligkdkgkaaAwake19
namespace Go.Proofs.Ytogpoligkdkgkaa
open Go.RowKit Go.Shelf
set_option linter.unusedVariables false

theorem min_no (x y : Int) (h : x ≤ y) : min x y = x := by omega
theorem min_yes (x y : Int) (h : y < x) : min x y = y := by omega
set_option maxHeartbeats 2000000 in
theorem walk_TtlRows (w : World) (a : Int) (ha : 0 ≤ a ∧ a ≤ 255) (b : Int) (hb : 0 ≤ b ∧ b ≤ 255) (c : Int) (hc : 0 ≤ c ∧ c ≤ 255) :
    Calls Try.prog 6 #[.int .u8 a, .int .u8 b, .int .u8 c] w fun e w' => e = .returned (.bool true) ∧ Below w.heap.size w w' := by
  obtain ⟨a0, a1⟩ := ha
  obtain ⟨b0, b1⟩ := hb
  obtain ⟨c0, c1⟩ := hc
  have MC : ∃ x y z, (∀ w, Calls Try.prog 16 #[.int .u8 a, .int .u8 b, .bool false] w fun e w' => e = .returned (.int .u8 x) ∧ w = w') ∧ (∀ w, Calls Try.prog 16 #[.int .u8 x, .int .u8 c, .bool false] w fun e w' => e = .returned (.int .u8 z) ∧ w = w')
      ∧ (∀ w, Calls Try.prog 16 #[.int .u8 b, .int .u8 c, .bool false] w fun e w' => e = .returned (.int .u8 y) ∧ w = w') ∧ (∀ w, Calls Try.prog 16 #[.int .u8 a, .int .u8 y, .bool false] w fun e w' => e = .returned (.int .u8 z) ∧ w = w')
      ∧ ((a ≤ b ∧ a ≤ c ∧ z = a) ∨ (a ≤ b ∧ c < a ∧ z = c) ∨ (b < a ∧ b ≤ c ∧ z = b) ∨ (b < a ∧ c < b ∧ z = c)) := by
    refine ⟨min a b, min b c, min (min a b) c, fun w => under_any a b false a0 a1 w b0 b1, fun w => under_any (min a b) c false (by omega) (by omega) w c0 c1, fun w => under_any b c false b0 b1 w c0 c1, fun w => ?_, by omega⟩
    have := under_any a (min b c) false a0 a1 w (by omega) (by omega)
    unfold underF at this
    rwa [show (if false = true then min b c else min a (min b c)) = min (min a b) c from by simp] at this
  obtain ⟨x, y, z, M1, M2, M3, M4, hz⟩ := MC
  have P1 : ∀ w, Calls Try.prog 16 #[.int .u8 b, .int .u8 c, .bool true] w fun e w' => e = .returned (.int .u8 c) ∧ w = w' := fun w => under_any b c true b0 b1 w c0 c1
  have P2 : ∀ w, Calls Try.prog 16 #[.int .u8 a, .int .u8 c, .bool true] w fun e w' => e = .returned (.int .u8 c) ∧ w = w' := fun w => under_any a c true a0 a1 w c0 c1
  have K1 : ∀ w, Calls Try.prog 18 #[.int .u8 b, .int .u8 c, .bool true] w fun e w' => e = .returned (.int .u8 (c % 8)) ∧ w = w' := fun w => class_any b c true b0 b1 w c0 c1
  have K2 : ∀ w, Calls Try.prog 18 #[.int .u8 a, .int .u8 (c % 8), .bool false] w fun e w' => e = .returned (.int .u8 (a % 8)) ∧ w = w' := fun w => class_any a (c % 8) false a0 a1 w (by omega) (by omega)
  have K3 : ∀ w, Calls Try.prog 18 #[.int .u8 a, .int .u8 b, .bool false] w fun e w' => e = .returned (.int .u8 (a % 8)) ∧ w = w' := fun w => class_any a b false a0 a1 w b0 b1
  have K4 : ∀ w, Calls Try.prog 18 #[.int .u8 (a % 8), .int .u8 c, .bool false] w fun e w' => e = .returned (.int .u8 (a % 8)) ∧ w = w' := fun w => by
    have := class_any (a % 8) c false (by omega) (by omega) w c0 c1
    unfold classF at this
    rwa [show (if false = true then c else a % 8) % 8 = a % 8 from by simp] at this
  have K5 : ∀ w, Calls Try.prog 18 #[.int .u8 a, .int .u8 c, .bool true] w fun e w' => e = .returned (.int .u8 (c % 8)) ∧ w = w' := fun w => class_any a c true a0 a1 w c0 c1
  replace M1 := Lib.hid M1
  replace M2 := Lib.hid M2
  replace M3 := Lib.hid M3
  replace M4 := Lib.hid M4
  replace P1 := Lib.hid P1
  replace P2 := Lib.hid P2
  replace K1 := Lib.hid K1
  replace K2 := Lib.hid K2
  replace K3 := Lib.hid K3
  replace K4 := Lib.hid K4
  replace K5 := Lib.hid K5
  rcases hz with ⟨h1, h2, rfl⟩ | ⟨h1, h2, rfl⟩ | ⟨h1, h2, rfl⟩ | ⟨h1, h2, rfl⟩
  all_goals
    go_enter Try.func6, Try.ntmps6
    go_wp2_with fail
    refine (awake_any _).mono ?_
    rintro e w1 ⟨rfl, hB⟩
    go_wp2_with fail
    refine (M1.out _).mono ?_
    rintro e w' ⟨rfl, rfl⟩
    go_wp2_with fail
    refine (M2.out _).mono ?_
    rintro e w' ⟨rfl, rfl⟩
    go_wp2_with fail
    refine (M3.out _).mono ?_
    rintro e w' ⟨rfl, rfl⟩
    go_wp2_with fail
    refine (M4.out _).mono ?_
    rintro e w' ⟨rfl, rfl⟩
    go_wp2_with fail
    refine (P1.out _).mono ?_
    rintro e w' ⟨rfl, rfl⟩
    go_wp2_with fail
    refine (P2.out _).mono ?_
    rintro e w' ⟨rfl, rfl⟩
    go_wp2_with fail
    refine (K1.out _).mono ?_
    rintro e w' ⟨rfl, rfl⟩
    go_wp2_with fail
    refine (K2.out _).mono ?_
    rintro e w' ⟨rfl, rfl⟩
    go_wp2_with fail
    refine (K3.out _).mono ?_
    rintro e w' ⟨rfl, rfl⟩
    go_wp2_with fail
    refine (K4.out _).mono ?_
    rintro e w' ⟨rfl, rfl⟩
    go_wp2_with fail
    refine (K5.out _).mono ?_
    rintro e w' ⟨rfl, rfl⟩
    go_wp2_with fail
    go_ret
    exact ⟨rfl, hB⟩
end Go.Proofs.Ytogpoligkdkgkaa

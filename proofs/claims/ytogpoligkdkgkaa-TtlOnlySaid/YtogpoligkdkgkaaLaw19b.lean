/- Two more walks of layer 19 (ttl). No condition but those of the rows. -/
import Derived.Test.YtogpoligkdkgkaaAwake19
namespace Go.Proofs.Ytogpoligkdkgkaa
open Go.RowKit Go.Shelf
set_option linter.unusedVariables false

set_option maxHeartbeats 4000000 in
theorem walk_TtlOnly (w : World) (a : Int) (ha : 0 ≤ a ∧ a ≤ 255) (b : Int) (hb : 0 ≤ b ∧ b ≤ 255) (p : Bool) (s : Int) (hs : 0 ≤ s ∧ s ≤ 255) :
    Calls Try.prog 5 #[.agg #[.int .u8 a, .int .u8 b, .bool p, .int .u8 s]] w fun e w' => e = .returned (.bool true) ∧ Below w.heap.size w w' := by
  obtain ⟨a0, a1⟩ := ha
  obtain ⟨b0, b1⟩ := hb
  obtain ⟨s0, s1⟩ := hs
  have NC : ∃ n q, (∀ w, Calls Try.prog 8 #[.int .u8 a] w fun e w' => e = .returned (.tuple #[.int .u8 n, .bool q]) ∧ w = w') ∧ ((a ≤ 0 ∧ n = 0 ∧ q = false) ∨ (1 ≤ a ∧ a ≤ 1 ∧ n = 0 ∧ q = false) ∨ (2 ≤ a ∧ n < a ∧ q = true)) := by
    refine ⟨nextF a, decide (¬ a < 2), fun w => next_any a a0 a1 w, ?_⟩
    unfold nextF
    by_cases h0 : a = 0
    · subst h0; exact .inl ⟨by omega, rfl, rfl⟩
    · by_cases h1 : a = 1
      · subst h1; exact .inr (.inl ⟨by omega, by omega, rfl, rfl⟩)
      · exact .inr (.inr ⟨by omega, by split <;> omega, by simp; omega⟩)
  obtain ⟨n, q, N1, hn⟩ := NC
  have UC : ∃ u, (∀ w, Calls Try.prog 16 #[.int .u8 a, .int .u8 b, .bool p] w fun e w' => e = .returned (.int .u8 u) ∧ w = w') ∧ u ≤ b ∧ (p = true ∨ (p = false ∧ u ≤ a)) := by
    refine ⟨underF a b p, fun w => under_any a b p a0 a1 w b0 b1, ?_⟩
    unfold underF
    cases p
    · simp; omega
    · simp
  obtain ⟨u, U1, hub, hua⟩ := UC
  have TC : ∃ t, (∀ w, Calls Try.prog 12 #[.int .u8 a, .int .u8 b] w fun e w' => e = .returned (.int .u8 t) ∧ w = w') ∧ (∀ w, Calls Try.prog 14 #[.int .u8 t] w fun e w' => e = .returned (.int .u8 (b % 8)) ∧ w = w') ∧ t % 32 = a % 32 ∧ 0 ≤ t ∧ t ≤ 255 := by
    refine ⟨a % 32 + 32 * (b % 8), fun w => tos_any a b a0 a1 w b0 b1, fun w => ?_, by omega, by omega, by omega⟩
    have := tof_any (a % 32 + 32 * (b % 8)) (by omega) (by omega) w
    rwa [show (a % 32 + 32 * (b % 8)) / 32 = b % 8 from by omega] at this
  obtain ⟨t, T1, F1, htm, ht0, ht1⟩ := TC
  have GC : ∃ g, (∀ w, Calls Try.prog 10 #[.int .u8 a, .int .i64 s] w fun e w' => e = .returned (.int .u8 g) ∧ w = w') ∧ ((s < a ∧ g = a - s) ∨ (a ≤ s ∧ g = 0)) := by
    refine ⟨guardF a s, fun w => guard_any a s a0 a1 w (by omega) (by omega), ?_⟩
    unfold guardF
    by_cases h : s < a
    · refine .inl ⟨h, ?_⟩
      repeat' split
      all_goals omega
    · refine .inr ⟨by omega, ?_⟩
      repeat' split
      all_goals omega
  obtain ⟨g, G1, hg⟩ := GC
  replace N1 := Lib.hid N1
  replace G1 := Lib.hid G1
  replace T1 := Lib.hid T1
  replace F1 := Lib.hid F1
  replace U1 := Lib.hid U1
  have hm : (t % 32 != a % 32) = false := by simp [htm]
  clear htm
  rcases hn with ⟨h2, rfl, rfl⟩ | ⟨h2, h3, rfl, rfl⟩ | ⟨h2, h3, rfl⟩
  all_goals rcases hua with rfl | ⟨rfl, hua⟩
  all_goals rcases hg with ⟨hsa, rfl⟩ | ⟨hsa, rfl⟩
  all_goals first
    | (exfalso; omega)
    | skip
  all_goals
    go_enter Try.func5, Try.ntmps5
    go_wp2_with fail
    refine (awake_any _).mono ?_
    rintro e w1 ⟨rfl, hB⟩
    have hB' : Below w.heap.size w w1 := ((Below.refl _ _).alloc (Nat.le_refl _) _).trans (hB.mono (by simp))
    clear hB
    go_wp2_with fail
    refine (N1.out _).mono ?_
    rintro e w' ⟨rfl, rfl⟩
    go_wp2_with fail
    refine (U1.out _).mono ?_
    rintro e w' ⟨rfl, rfl⟩
    go_wp2_with fail
    refine (G1.out _).mono ?_
    rintro e w' ⟨rfl, rfl⟩
    go_wp2_with fail
    refine (T1.out _).mono ?_
    rintro e w' ⟨rfl, rfl⟩
    go_wp2_with fail
    refine (F1.out _).mono ?_
    rintro e w' ⟨rfl, rfl⟩
    go_wp2_with fail
    refine (T1.out _).mono ?_
    rintro e w' ⟨rfl, rfl⟩
    go_wp2_with fail
    go_ret
    exact ⟨rfl, hB'⟩
end Go.Proofs.Ytogpoligkdkgkaa

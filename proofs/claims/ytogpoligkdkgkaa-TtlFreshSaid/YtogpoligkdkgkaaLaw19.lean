/- The four walks of layer 19 (ttl). No condition but those of the rows. -/
import Derived.Test.YtogpoligkdkgkaaAwake19
namespace Go.Proofs.Ytogpoligkdkgkaa
open Go.RowKit Go.Shelf
set_option linter.unusedVariables false

set_option maxHeartbeats 2000000 in
theorem walk_TtlTells (w : World) (a : Int) (ha : 0 ≤ a ∧ a ≤ 255) (b : Int) (hb : 0 ≤ b ∧ b ≤ 255) (s : Int) (hs : -9223372036854775808 ≤ s ∧ s ≤ 9223372036854775807) :
    Calls Try.prog 3 #[.int .u8 a, .int .u8 b, .int .i64 s] w fun e w' => e = .returned (.bool true) ∧ Below w.heap.size w w' := by
  obtain ⟨a0, a1⟩ := ha
  obtain ⟨b0, b1⟩ := hb
  obtain ⟨s0, s1⟩ := hs
  have N1 := fun w => next_any a a0 a1 w
  have N2 := fun w => rnext_any a a0 a1 w
  have G1 := fun w => guard_any a s a0 a1 w s0 s1
  have G2 := fun w => rguard_any a s a0 a1 w s0 s1
  have T1 := fun w => tos_any a b a0 a1 w b0 b1
  have T2 := fun w => rtos_any a b a0 a1 w b0 b1
  have F1 := fun w => tof_any a a0 a1 w
  have F2 := fun w => rtof_any a a0 a1 w
  have U1 := fun p w => under_any a b p a0 a1 w b0 b1
  have U2 := fun p w => runder_any a b p a0 a1 w b0 b1
  have C1 := fun p w => class_any a b p a0 a1 w b0 b1
  have C2 := fun p w => rclass_any a b p a0 a1 w b0 b1
  generalize nextF a = x at N1 N2
  generalize decide (¬ a < 2) = p at N1 N2
  generalize guardF a s = g at G1 G2
  generalize a % 32 + 32 * (b % 8) = t at T1 T2
  generalize a / 32 = f at F1 F2
  generalize underF a b = u at U1 U2
  generalize classF a b = c at C1 C2
  replace N1 := Lib.hid N1
  replace N2 := Lib.hid N2
  replace G1 := Lib.hid G1
  replace G2 := Lib.hid G2
  replace T1 := Lib.hid T1
  replace T2 := Lib.hid T2
  replace F1 := Lib.hid F1
  replace F2 := Lib.hid F2
  replace U1 := Lib.hid U1
  replace U2 := Lib.hid U2
  replace C1 := Lib.hid C1
  replace C2 := Lib.hid C2
  go_enter Try.func3, Try.ntmps3
  go_wp2_with fail
  refine (awake_any _).mono ?_
  rintro e w1 ⟨rfl, hB⟩
  go_wp2_with fail
  refine (N1.out _).mono ?_
  rintro e w' ⟨rfl, rfl⟩
  go_wp2_with fail
  refine (N2.out _).mono ?_
  rintro e w' ⟨rfl, rfl⟩
  go_wp2_with fail
  refine (G1.out _).mono ?_
  rintro e w' ⟨rfl, rfl⟩
  go_wp2_with fail
  refine (G2.out _).mono ?_
  rintro e w' ⟨rfl, rfl⟩
  go_wp2_with fail
  refine (T1.out _).mono ?_
  rintro e w' ⟨rfl, rfl⟩
  go_wp2_with fail
  refine (T2.out _).mono ?_
  rintro e w' ⟨rfl, rfl⟩
  go_wp2_with fail
  refine (F1.out _).mono ?_
  rintro e w' ⟨rfl, rfl⟩
  go_wp2_with fail
  refine (F2.out _).mono ?_
  rintro e w' ⟨rfl, rfl⟩
  go_wp2_with fail
  go_loop [12] (fun j => ∃ k : Nat, k ≤ 2 ∧ j = .int .i64 k) (fun j => 2 - (intOf j).toNat)
  case atStart => exact ⟨0, by omega, rfl⟩
  case round =>
    obtain ⟨k, hk, rfl⟩ := hrel
    by_cases hlt : k < 2
    · go_wp2_with fail
      refine (U1.out _ _).mono ?_
      rintro e w' ⟨rfl, rfl⟩
      go_wp2_with fail
      refine (U2.out _ _).mono ?_
      rintro e w' ⟨rfl, rfl⟩
      go_wp2_with fail
      refine (C1.out _ _).mono ?_
      rintro e w' ⟨rfl, rfl⟩
      go_wp2_with fail
      refine (C2.out _ _).mono ?_
      rintro e w' ⟨rfl, rfl⟩
      go_wp2_with fail
      go_round
      case rel => exact ⟨k + 1, by omega, by simp⟩
      case measure => simp [intOf]; omega
    · go_wp2
      go_ret
      exact ⟨rfl, hB⟩

set_option maxHeartbeats 1000000 in
theorem walk_TtlFresh (w : World) (A : Option Addr) (n c : Nat) (l : List Int) (hr : Row w w.heap.size 1 A n (nv .i64 l)) (hn : n ≤ c) (hc : c ≤ maxLen) (hl : ∀ x ∈ l, (Lit.int .i64 x).wf = true) (k : Int) (hk : 0 ≤ k ∧ k ≤ 255) (t : Int) (ht : 0 ≤ t ∧ t ≤ 255) :
    Calls Try.prog 4 #[.slice A n c, .int .u8 k, .int .u8 t] w fun e w' => e = .returned (.bool true) ∧ Below w.heap.size w w' := by
  have HR := Lib.hid hr
  clear hr hl hc
  by_cases hs : n ≤ 40
  · go_enter Try.func4, Try.ntmps4
    go_wp2_with fail
    refine (awake_any _).mono ?_
    rintro e w1 ⟨rfl, hB⟩
    go_wp2_with fail
    refine (fresh_any A n c l k t (by omega) hk.1 hk.2 w1 ((HR.out.below hB).more hB.size)).mono ?_
    rintro e w2 ⟨A2, c2, rfl, hown2, hb2⟩
    have hB2 := hB.trans (hb2.mono hB.size)
    have HO2 := Lib.hid hown2
    clear hown2
    go_wp2_with fail
    refine (rfresh_any A n c l k t (by omega) hk.1 hk.2 w2 ((HR.out.below hB2).more hB2.size)).mono ?_
    rintro e w3 ⟨A3, c3, rfl, hown3, hb3⟩
    have hB3 := hB2.trans (hb3.mono hB2.size)
    have HO3 := Lib.hid hown3
    clear hown3
    go_wp2_with fail
    refine (exact_same A2 A3 n c2 c3 (freshL k t l) w3 w3.heap.size ((HO2.out.row.below hb3).more hb3.size) HO3.out.row (by omega)).mono ?_
    rintro e w4 ⟨rfl, hb4⟩
    have hB4 := hB3.trans (hb4.mono hB3.size)
    go_wp2_with fail
    go_ret
    exact ⟨rfl, hB4⟩
  · have hs' : 40 < n := by omega
    go_enter Try.func4, Try.ntmps4
    go_wp2_with fail
    refine (awake_any _).mono ?_
    rintro e w1 ⟨rfl, hB⟩
    go_wp2_with fail
    go_ret
    exact ⟨rfl, hB⟩
end Go.Proofs.Ytogpoligkdkgkaa

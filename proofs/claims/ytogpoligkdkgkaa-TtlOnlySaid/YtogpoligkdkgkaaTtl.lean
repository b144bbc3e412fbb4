/- What the functions of ttl, and the reference's, compute: time to live, and class. No condition. -/
import Derived.Test.YtogpoligkdkgkaaFresh
import Derived.BigQuiet
import Derived.Deep.QuietTactic
namespace Go.Proofs.Ytogpoligkdkgkaa
open Go.RowKit
set_option linter.unusedVariables false

/-- a time to live one step on -/
def nextF (t : Int) : Int := if t < 2 then 0 else t - 1
theorem next_any (t : Int) (h0 : 0 ≤ t) (h1 : t ≤ 255) (w : World) :
    Calls Try.prog 8 #[.int .u8 t] w fun e w' => e = .returned (.tuple #[.int .u8 (nextF t), .bool (decide (¬ t < 2))]) ∧ w = w' := by
  unfold nextF
  by_cases h : t < 2
  all_goals
    go_enter Try.func8, Try.ntmps8
    go_wp2
    go_ret2
    simp [h]

theorem rnext_any (t : Int) (h0 : 0 ≤ t) (h1 : t ≤ 255) (w : World) :
    Calls Try.prog 9 #[.int .u8 t] w fun e w' => e = .returned (.tuple #[.int .u8 (nextF t), .bool (decide (¬ t < 2))]) ∧ w = w' := by
  unfold nextF
  by_cases h : t < 2
  all_goals
    go_enter Try.func9, Try.ntmps9
    go_wp2
    go_ret2
    simp [h]

theorem tos_bits (t c : Int) (h0 : 0 ≤ t) (h1 : t ≤ 255) (h2 : 0 ≤ c) (h3 : c ≤ 255) : bits .or .u8 (bits .andNot .u8 t 224) (c % 8 * 32) = t % 32 + 32 * (c % 8) := by
  obtain ⟨t, rfl⟩ := Int.eq_ofNat_of_zero_le h0
  obtain ⟨c, rfl⟩ := Int.eq_ofNat_of_zero_le h2
  have e1 : bits .andNot .u8 (t : Int) 224 = ((t % 32 : Nat) : Int) := by
    rw [show (224 : Int) = ((224 : Nat) : Int) from rfl, u8_andNot_nat t 224 (by omega) (by omega)]
    rw [show 255 - 224 = 31 from rfl, nat_mask5]
  rw [e1, show ((c : Int) % 8 * 32) = ((c % 8 * 32 : Nat) : Int) by omega, u8_or_nat _ _ (by omega) (by omega), Nat.or_comm, nat_join 5 _ _ (by omega) (by omega)]
  omega
theorem tos_any (t c : Int) (h0 : 0 ≤ t) (h1 : t ≤ 255) (w : World) (h2 : 0 ≤ c) (h3 : c ≤ 255) :
    Calls Try.prog 12 #[.int .u8 t, .int .u8 c] w fun e w' => e = .returned (.int .u8 (t % 32 + 32 * (c % 8))) ∧ w = w' := by
  have hb := tos_bits t c h0 h1 h2 h3
  go_enter Try.func12, Try.ntmps12
  go_wp2
  go_ret
  exact ⟨rfl, rfl⟩

theorem rtos_any (t c : Int) (h0 : 0 ≤ t) (h1 : t ≤ 255) (w : World) (h2 : 0 ≤ c) (h3 : c ≤ 255) :
    Calls Try.prog 13 #[.int .u8 t, .int .u8 c] w fun e w' => e = .returned (.int .u8 (t % 32 + 32 * (c % 8))) ∧ w = w' := by
  go_enter Try.func13, Try.ntmps13
  go_wp2
  go_ret
  exact ⟨rfl, rfl⟩

theorem tof_any (t : Int) (h0 : 0 ≤ t) (h1 : t ≤ 255) (w : World) :
    Calls Try.prog 14 #[.int .u8 t] w fun e w' => e = .returned (.int .u8 (t / 32)) ∧ w = w' := by
  go_enter Try.func14, Try.ntmps14
  go_wp2
  go_ret
  exact ⟨rfl, rfl⟩

theorem rtof_any (t : Int) (h0 : 0 ≤ t) (h1 : t ≤ 255) (w : World) :
    Calls Try.prog 15 #[.int .u8 t] w fun e w' => e = .returned (.int .u8 (t / 32)) ∧ w = w' := by
  go_enter Try.func15, Try.ntmps15
  go_wp2
  go_ret
  exact ⟨rfl, rfl⟩

/-- the time to live below an entry that is taken off -/
def underF (a b : Int) (p : Bool) : Int := if p then b else min a b
theorem under_any (a b : Int) (p : Bool) (h0 : 0 ≤ a) (h1 : a ≤ 255) (w : World) (h2 : 0 ≤ b) (h3 : b ≤ 255) :
    Calls Try.prog 16 #[.int .u8 a, .int .u8 b, .bool p] w fun e w' => e = .returned (.int .u8 (underF a b p)) ∧ w = w' := by
  unfold underF
  cases p
  · by_cases h : b < a
    all_goals
      go_enter Try.func16, Try.ntmps16
      go_wp2
      go_ret
      exact ⟨ret_int (by omega), rfl⟩
  · go_enter Try.func16, Try.ntmps16
    go_wp2
    go_ret
    exact ⟨rfl, rfl⟩

theorem runder_any (a b : Int) (p : Bool) (h0 : 0 ≤ a) (h1 : a ≤ 255) (w : World) (h2 : 0 ≤ b) (h3 : b ≤ 255) :
    Calls Try.prog 17 #[.int .u8 a, .int .u8 b, .bool p] w fun e w' => e = .returned (.int .u8 (underF a b p)) ∧ w = w' := by
  unfold underF
  cases p
  · by_cases h : b < a
    all_goals
      go_enter Try.func17, Try.ntmps17
      go_wp2
      go_ret
      exact ⟨ret_int (by omega), rfl⟩
  · go_enter Try.func17, Try.ntmps17
    go_wp2
    go_ret
    exact ⟨rfl, rfl⟩

/-- its class -/
def classF (a b : Int) (p : Bool) : Int := (if p then b else a) % 8
theorem class_any (a b : Int) (p : Bool) (h0 : 0 ≤ a) (h1 : a ≤ 255) (w : World) (h2 : 0 ≤ b) (h3 : b ≤ 255) :
    Calls Try.prog 18 #[.int .u8 a, .int .u8 b, .bool p] w fun e w' => e = .returned (.int .u8 (classF a b p)) ∧ w = w' := by
  unfold classF
  cases p
  all_goals
    go_enter Try.func18, Try.ntmps18
    go_wp2
    go_ret
    exact ⟨rfl, rfl⟩

theorem rclass_any (a b : Int) (p : Bool) (h0 : 0 ≤ a) (h1 : a ≤ 255) (w : World) (h2 : 0 ≤ b) (h3 : b ≤ 255) :
    Calls Try.prog 19 #[.int .u8 a, .int .u8 b, .bool p] w fun e w' => e = .returned (.int .u8 (classF a b p)) ∧ w = w' := by
  unfold classF
  cases p
  all_goals
    go_enter Try.func19, Try.ntmps19
    go_wp2
    go_ret
    exact ⟨rfl, rfl⟩

/-- a time to live so many steps on -/
def guardF (t : Int) (s : Int) : Int := if s ≤ 0 then t else if s < t then t - s else 0
theorem guardF_zero (t : Int) (h0 : 0 ≤ t) : guardF t (0 : Nat) = t := by simp [guardF]
theorem guardF_step (t : Int) (k : Nat) (h0 : 0 ≤ t) (h1 : t ≤ 255) : nextF (guardF t k) = guardF t (k + 1 : Nat) := by
  unfold guardF nextF
  repeat' split
  all_goals omega
theorem guardF_bd (t : Int) (k : Nat) (h0 : 0 ≤ t) (h1 : t ≤ 255) : 0 ≤ guardF t k ∧ guardF t k ≤ 255 := by
  unfold guardF
  repeat' split
  all_goals omega
theorem guardF_big (t : Int) (k : Nat) (s : Int) (h1 : t ≤ 255) (hk : 256 ≤ k) (hs : (k : Int) ≤ s) : guardF t k = guardF t s := by
  unfold guardF
  repeat' split
  all_goals omega

theorem guard_any (t s : Int) (h0 : 0 ≤ t) (h1 : t ≤ 255) (w : World) (hs0 : -9223372036854775808 ≤ s) (hs1 : s ≤ 9223372036854775807) :
    Calls Try.prog 10 #[.int .u8 t, .int .i64 s] w fun e w' => e = .returned (.int .u8 (guardF t s)) ∧ w = w' := by
  obtain ⟨m, hm⟩ : ∃ m : Nat, min (max s 0) 256 = (m : Int) := ⟨(min (max s 0) 256).toNat, by omega⟩
  have hfin : guardF t m = guardF t s := by
    rcases Nat.lt_or_ge m 256 with h | h
    · by_cases hs : s ≤ 0
      · have : m = 0 := by omega
        subst this
        unfold guardF
        rw [if_pos hs]
        simp
      · have : (m : Int) = s := by omega
        rw [this]
    · exact guardF_big t m s h1 h (by omega)
  have HF := Lib.hid hfin
  have hmb : m ≤ 256 := by omega
  clear hfin
  by_cases c1 : s < 0
  · have hm0 : m = 0 := by omega
    have HM := Lib.hid hm0
    clear hm0
    clear hm
    go_enter Try.func10, Try.ntmps10
    go_wp2_with fail
    go_loop [0, 8] (fun x0 x8 => ∃ k : Nat, k ≤ m ∧ x0 = .int .u8 (guardF t k) ∧ x8 = .int .i64 k) (fun _ x8 => m - (intOf x8).toNat)
    case atStart => exact ⟨0, by omega, by rw [guardF_zero t h0], rfl⟩
    case round =>
      obtain ⟨k, hk, rfl, rfl⟩ := hrel
      obtain ⟨g0, g1⟩ := guardF_bd t k h0 h1
      by_cases hlt : k < m
      · have hltI : (k : Int) < 0 := by have := HM.out; omega
        go_wp2_with fail
        refine (next_any _ g0 g1 _).mono ?_
        rintro e w' ⟨rfl, rfl⟩
        go_wp2
        go_round
        case rel => exact ⟨k + 1, by omega, by rw [guardF_step t k h0 h1], by simp⟩
        case measure => simp [intOf]; omega
      · obtain rfl : k = m := by omega
        have hltI : ¬ (k : Int) < 0 := by have := HM.out; omega
        go_wp2
        go_ret
        exact ⟨ret_int (by rw [← HF.out, HM.out]), rfl⟩
  · have c1' : 0 ≤ s := by omega
    clear c1
    by_cases c2 : s ≤ 256
    · have hm0 : s = (m : Int) := by omega
      subst hm0
      clear hm
      go_enter Try.func10, Try.ntmps10
      go_wp2_with fail
      go_loop [0, 8] (fun x0 x8 => ∃ k : Nat, k ≤ m ∧ x0 = .int .u8 (guardF t k) ∧ x8 = .int .i64 k) (fun _ x8 => m - (intOf x8).toNat)
      case atStart => exact ⟨0, by omega, by rw [guardF_zero t h0], rfl⟩
      case round =>
        obtain ⟨k, hk, rfl, rfl⟩ := hrel
        obtain ⟨g0, g1⟩ := guardF_bd t k h0 h1
        by_cases hlt : k < m
        · have hltI : (k : Int) < m := by omega
          go_wp2_with fail
          refine (next_any _ g0 g1 _).mono ?_
          rintro e w' ⟨rfl, rfl⟩
          go_wp2
          go_round
          case rel => exact ⟨k + 1, by omega, by rw [guardF_step t k h0 h1], by simp⟩
          case measure => simp [intOf]; omega
        · obtain rfl : k = m := by omega
          have hltI : ¬ (k : Int) < k := by omega
          go_wp2
          go_ret
          exact ⟨rfl, rfl⟩
    · have hm0 : m = 256 := by omega
      have HM := Lib.hid hm0
      clear hm0
      clear hm
      go_enter Try.func10, Try.ntmps10
      go_wp2_with fail
      go_loop [0, 8] (fun x0 x8 => ∃ k : Nat, k ≤ m ∧ x0 = .int .u8 (guardF t k) ∧ x8 = .int .i64 k) (fun _ x8 => m - (intOf x8).toNat)
      case atStart => exact ⟨0, by omega, by rw [guardF_zero t h0], rfl⟩
      case round =>
        obtain ⟨k, hk, rfl, rfl⟩ := hrel
        obtain ⟨g0, g1⟩ := guardF_bd t k h0 h1
        by_cases hlt : k < m
        · have hltI : (k : Int) < 256 := by have := HM.out; omega
          go_wp2_with fail
          refine (next_any _ g0 g1 _).mono ?_
          rintro e w' ⟨rfl, rfl⟩
          go_wp2
          go_round
          case rel => exact ⟨k + 1, by omega, by rw [guardF_step t k h0 h1], by simp⟩
          case measure => simp [intOf]; omega
        · obtain rfl : k = m := by omega
          have hltI : ¬ (k : Int) < 256 := by have := HM.out; omega
          go_wp2
          go_ret
          exact ⟨ret_int (by rw [← HF.out, HM.out]), rfl⟩

set_option maxHeartbeats 400000 in
theorem rguard_any (t s : Int) (h0 : 0 ≤ t) (h1 : t ≤ 255) (w : World) (hs0 : -9223372036854775808 ≤ s) (hs1 : s ≤ 9223372036854775807) :
    Calls Try.prog 11 #[.int .u8 t, .int .i64 s] w fun e w' => e = .returned (.int .u8 (guardF t s)) ∧ w = w' := by
  go_enter Try.func11, Try.ntmps11
  go_wp2_with fail
  go_loop [0, 5] (fun x0 x5 => ∃ k : Nat, k ≤ 300 ∧ ((k : Int) ≤ s ∨ k = 0) ∧ x0 = .int .u8 (guardF t k) ∧ x5 = .int .i64 k) (fun _ x5 => 300 - (intOf x5).toNat)
  case atStart => exact ⟨0, by omega, .inr rfl, by rw [guardF_zero t h0], rfl⟩
  case round =>
    obtain ⟨k, hk, hks, rfl, rfl⟩ := hrel
    obtain ⟨g0, g1⟩ := guardF_bd t k h0 h1
    by_cases hlt : (k : Int) < s
    · by_cases hlt2 : (k : Int) < 300
      · have HS := Lib.hid (guardF_step t k h0 h1)
        have hz : guardF t k < 2 → guardF t s = 0 := by unfold guardF; repeat' split <;> omega
        have HZ := Lib.hid hz
        clear hz
        generalize guardF t k = y at *
        go_wp2_with fail
        refine (rnext_any _ g0 g1 _).mono ?_
        rintro e w' ⟨rfl, rfl⟩
        by_cases c : y < 2
        · rw [show decide (¬ y < 2) = false from by simp [c]]
          have HZ2 := Lib.hid (HZ.out c)
          clear c HZ HS hks
          generalize nextF y = z at *
          go_wp2
          go_ret
          exact ⟨ret_int HZ2.out.symm, rfl⟩
        · rw [show decide (¬ y < 2) = true from by simp [c]]
          clear c HZ
          generalize nextF y = z at *
          go_wp2
          go_round
          case rel => exact ⟨k + 1, by omega, .inl (by omega), by rw [HS.out], by simp⟩
          case measure => simp [intOf]; omega
      · have HG := guardF_big t k s h1 (by omega) (by omega)
        go_wp2
        go_ret
        exact ⟨rfl, rfl⟩
    · have HG : guardF t k = guardF t s := by unfold guardF; repeat' split <;> omega
      go_wp2
      go_ret
      exact ⟨rfl, rfl⟩
end Go.Proofs.Ytogpoligkdkgkaa

/- What the functions of ttl, and the reference's, compute: time to live, and class. No condition. -/
import Derived.Test.YtmpaockaeoknmaaFresh
import Derived.BigQuiet
import Derived.Deep.QuietTactic
namespace Go.Proofs.Ytmpaockaeoknmaa
open Go.RowKit
set_option linter.unusedVariables false
set_option maxRecDepth 20000

/-- a time to live one step on -/
def nextF (t : Int) : Int := if t < 2 then 0 else t - 1
theorem next_any (t : Int) (h0 : 0 ≤ t) (h1 : t ≤ 255) (w : World) :
    Calls Try.prog 19 #[.int .u8 t] w fun e w' => e = .returned (.tuple #[.int .u8 (nextF t), .bool (decide (¬ t < 2))]) ∧ w = w' := by
  unfold nextF
  by_cases h : t < 2
  all_goals
    go_enter Try.func19, Try.ntmps19
    go_wp2
    go_ret2
    simp [h]

theorem rnext_any (t : Int) (h0 : 0 ≤ t) (h1 : t ≤ 255) (w : World) :
    Calls Try.prog 27 #[.int .u8 t] w fun e w' => e = .returned (.tuple #[.int .u8 (nextF t), .bool (decide (¬ t < 2))]) ∧ w = w' := by
  unfold nextF
  by_cases h : t < 2
  all_goals
    go_enter Try.func27, Try.ntmps27
    go_wp2
    go_ret2
    simp [h]

theorem tof_any (t : Int) (h0 : 0 ≤ t) (h1 : t ≤ 255) (w : World) :
    Calls Try.prog 35 #[.int .u8 t] w fun e w' => e = .returned (.int .u8 (t / 32)) ∧ w = w' := by
  go_enter Try.func35, Try.ntmps35
  go_wp2
  go_ret
  exact ⟨rfl, rfl⟩

theorem rtof_any (t : Int) (h0 : 0 ≤ t) (h1 : t ≤ 255) (w : World) :
    Calls Try.prog 36 #[.int .u8 t] w fun e w' => e = .returned (.int .u8 (t / 32)) ∧ w = w' := by
  go_enter Try.func36, Try.ntmps36
  go_wp2
  go_ret
  exact ⟨rfl, rfl⟩

/-- the time to live below an entry that is taken off -/
def underF (a b : Int) (p : Bool) : Int := if p then b else min a b
theorem under_any (a b : Int) (p : Bool) (h0 : 0 ≤ a) (h1 : a ≤ 255) (w : World) (h2 : 0 ≤ b) (h3 : b ≤ 255) :
    Calls Try.prog 31 #[.int .u8 a, .int .u8 b, .bool p] w fun e w' => e = .returned (.int .u8 (underF a b p)) ∧ w = w' := by
  unfold underF
  cases p
  · by_cases h : b < a
    all_goals
      go_enter Try.func31, Try.ntmps31
      go_wp2
      go_ret
      exact ⟨ret_int (by omega), rfl⟩
  · go_enter Try.func31, Try.ntmps31
    go_wp2
    go_ret
    exact ⟨rfl, rfl⟩

theorem runder_any (a b : Int) (p : Bool) (h0 : 0 ≤ a) (h1 : a ≤ 255) (w : World) (h2 : 0 ≤ b) (h3 : b ≤ 255) :
    Calls Try.prog 33 #[.int .u8 a, .int .u8 b, .bool p] w fun e w' => e = .returned (.int .u8 (underF a b p)) ∧ w = w' := by
  unfold underF
  cases p
  · by_cases h : b < a
    all_goals
      go_enter Try.func33, Try.ntmps33
      go_wp2
      go_ret
      exact ⟨ret_int (by omega), rfl⟩
  · go_enter Try.func33, Try.ntmps33
    go_wp2
    go_ret
    exact ⟨rfl, rfl⟩

/-- its class -/
def classF (a b : Int) (p : Bool) : Int := (if p then b else a) % 8
theorem class_any (a b : Int) (p : Bool) (h0 : 0 ≤ a) (h1 : a ≤ 255) (w : World) (h2 : 0 ≤ b) (h3 : b ≤ 255) :
    Calls Try.prog 32 #[.int .u8 a, .int .u8 b, .bool p] w fun e w' => e = .returned (.int .u8 (classF a b p)) ∧ w = w' := by
  unfold classF
  cases p
  all_goals
    go_enter Try.func32, Try.ntmps32
    go_wp2
    go_ret
    exact ⟨rfl, rfl⟩

theorem rclass_any (a b : Int) (p : Bool) (h0 : 0 ≤ a) (h1 : a ≤ 255) (w : World) (h2 : 0 ≤ b) (h3 : b ≤ 255) :
    Calls Try.prog 34 #[.int .u8 a, .int .u8 b, .bool p] w fun e w' => e = .returned (.int .u8 (classF a b p)) ∧ w = w' := by
  unfold classF
  cases p
  all_goals
    go_enter Try.func34, Try.ntmps34
    go_wp2
    go_ret
    exact ⟨rfl, rfl⟩

/-- a time to live so many steps on -/
def guardF (t : Int) (s : Int) : Int := if s ≤ 0 then t else if s < t then t - s else 0
theorem guardF_zero (t : Int) (h0 : 0 ≤ t) : guardF t (0 : Nat) = t := by simp [guardF]
theorem guardF_step (t : Int) (k : Nat) (h0 : 0 ≤ t) (h1 : t ≤ 255) : nextF (guardF t k) = guardF t (k + 1 : Nat) := by
  unfold guardF nextF
  repeat' split
  all_goals omega
theorem guardF_bd (t : Int) (k : Nat) (h0 : 0 ≤ t) (h1 : t ≤ 255) : 0 ≤ guardF t k ∧ guardF t k ≤ 255 := by
  unfold guardF
  repeat' split
  all_goals omega
theorem guardF_big (t : Int) (k : Nat) (s : Int) (h1 : t ≤ 255) (hk : 256 ≤ k) (hs : (k : Int) ≤ s) : guardF t k = guardF t s := by
  unfold guardF
  repeat' split
  all_goals omega
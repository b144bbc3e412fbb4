/- What the small functions of the references 23 and 24 compute. No condition but sizes. -/
import Derived.Test.YtimkgkokidhhpaaExt22s
import Derived.Test.YtimkgkokidhhpaaPerm5
import Derived.Test.YtimkgkokidhhpaaIp4e
import Derived.Test.YtimkgkokidhhpaaIp6d
namespace Go.Proofs.Ytimkgkokidhhpaa
open Go.RowKit
set_option linter.unusedVariables false
set_option maxRecDepth 20000
set_option linter.unusedSimpArgs false

def frontK (k : Int) : List UInt8 := if k = 0 then [11, 0] else if k = 1 then [3, 4] else [3, 0]
def zerosN (n : Nat) : List UInt8 := List.replicate n 0
def begin23 (s : List UInt8) (full : Bool) : List UInt8 := if 128 < s.length then s.take 128 else if full then s ++ zerosN (128 - s.length) else s
def begin24 (s : List UInt8) (full : Bool) : List UInt8 := if full then begin23 s true else s.take 1232
theorem frontK_length (k : Int) : (frontK k).length = 2 := by
  unfold frontK
  split
  · rfl
  · split <;> rfl
theorem begin23_le (s : List UInt8) (f : Bool) : (begin23 s f).length ≤ 128 := by
  unfold begin23
  split
  · simp; omega
  · split
    · simp [zerosN]; omega
    · omega
theorem begin24_le (s : List UInt8) (f : Bool) : (begin24 s f).length ≤ 1232 := by
  unfold begin24
  split
  · have := begin23_le s true; omega
  · simp; omega

set_option maxHeartbeats 1000000 in
theorem front_any (k : Int) (h0 : 0 ≤ k) (h2 : k ≤ 2) (w : World) :
    Calls Try.prog 48 #[.int .i64 k] w fun e w' => e = .returned (str (frontK k)) ∧ Below w.heap.size w w' := by
  rcases (show k = 0 ∨ k = 1 ∨ k = 2 by omega) with rfl | rfl | rfl
  all_goals
    go_enter Try.func48, Try.ntmps48
    go_wp2_with fail
    go_ret
    exact ⟨rfl, (Below.refl _ _).alloc (Nat.le_refl _) _⟩

set_option maxHeartbeats 1000000 in
theorem zeros_any (n : Nat) (hn : n ≤ 1000) (w : World) :
    Calls Try.prog 72 #[.int .i64 (n : Int)] w fun e w' => e = .returned (str (zerosN n)) ∧ w = w' := by
  go_enter Try.func72, Try.ntmps72
  go_wp2_with fail
  go_loop [3, 4] (fun s i => ∃ k : Nat, k ≤ n ∧ i = .int .i64 k ∧ s = str (zerosN k)) (fun _ i => n - (intOf i).toNat)
  case atStart => exact ⟨0, by omega, rfl, rfl⟩
  case round =>
    obtain ⟨k, hk, rfl, rfl⟩ := hrel
    by_cases hlt : k < n
    · have hz : (zerosN k).length = k := by simp [zerosN]
      have HZ : Hid (zerosN (k + 1) = zerosN k ++ [0]) := Lib.hid (by simp [zerosN, List.replicate_succ'])
      obtain ⟨S, hS⟩ : ∃ S, zerosN k = S := ⟨_, rfl⟩
      rw [hS] at hz HZ ⊢
      clear hS
      go_wp2_with (refine wpList_value (by rfl) (exec_add _ _ _ _ rfl Try.underlying9 S [0] rfl rfl (by simp; omega)) ?_)
      go_round
      case rel => exact ⟨k + 1, by omega, by simp, by rw [HZ.out]⟩
      case measure => simp [intOf]; omega
    · obtain rfl : k = n := by omega
      go_wp2_with fail
      go_ret
      exact ⟨rfl, rfl⟩

set_option maxHeartbeats 1000000 in
theorem begin23_any (s : List UInt8) (full : Bool) (hn : s.length ≤ 1099511627776) (w : World) :
    Calls Try.prog 46 #[str s, .bool full] w fun e w' => e = .returned (str (begin23 s full)) ∧ w = w' := by
  by_cases h : 128 < s.length
  · have h' : (128 : Int) < (s.length : Int) := by omega
    have h3 : ¬ (s.length : Int) < 128 := by omega
    have hv : begin23 s full = s.take 128 := by unfold begin23; rw [if_pos h]
    have HV := Lib.hid hv
    clear hv
    go_enter Try.func46, Try.ntmps46
    go_wp2_with fail
    go_ret
    exact ⟨by rw [HV.out]; simp [str_ex], rfl⟩
  · have h' : ¬ (128 : Int) < (s.length : Int) := by omega
    cases full
    · have hv : begin23 s false = s := by unfold begin23; rw [if_neg h]; rfl
      have HV := Lib.hid hv
      clear hv
      go_enter Try.func46, Try.ntmps46
      go_wp2_with fail
      go_ret
      exact ⟨by rw [HV.out]; rfl, rfl⟩
    · have hv : begin23 s true = s ++ zerosN (128 - s.length) := by unfold begin23; rw [if_neg h]; rfl
      have HV := Lib.hid hv
      clear hv
      obtain ⟨m, hm⟩ : ∃ m, 128 - s.length = m := ⟨_, rfl⟩
      rw [hm] at HV
      have hmi : (128 : Int) - (s.length : Int) = (m : Int) := by omega
      have hwr : IntKind.i64.wrap ((128 : Int) - (s.length : Int)) = (m : Int) := by rw [IntKind.wrap_i64]; omega
      have hzl : (zerosN m).length = m := by simp [zerosN]
      go_enter Try.func46, Try.ntmps46
      go_wp2_with fail
      refine (zeros_any m (by omega) w).mono ?_
      rintro e w' ⟨rfl, rfl⟩
      obtain ⟨Z, hZ⟩ : ∃ Z, zerosN m = Z := ⟨_, rfl⟩
      rw [hZ] at HV hzl ⊢
      go_wp2_with (refine wpList_value (by rfl) (exec_add _ _ _ _ rfl Try.underlying9 s Z rfl rfl (by omega)) ?_)
      go_ret
      exact ⟨by rw [HV.out]; rfl, rfl⟩

set_option maxHeartbeats 1000000 in
theorem begin24_any (s : List UInt8) (full : Bool) (hn : s.length ≤ 1099511627776) (w : World) :
    Calls Try.prog 49 #[str s, .bool full] w fun e w' => e = .returned (str (begin24 s full)) ∧ w = w' := by
  cases full
  · obtain ⟨m, hm⟩ : ∃ m, m = min s.length 1232 := ⟨_, rfl⟩
    have hv : begin24 s false = s.take m := by
      unfold begin24
      rw [if_neg (by simp), hm]
      rcases Nat.le_total s.length 1232 with h | h
      · rw [Nat.min_eq_left h, List.take_of_length_le h, List.take_of_length_le (Nat.le_refl _)]
      · rw [Nat.min_eq_right h]
    have HV := Lib.hid hv
    have hmm : min (s.length : Int) 1232 = (m : Int) := by omega
    have hms : m ≤ s.length := by omega
    clear hv hm
    go_enter Try.func49, Try.ntmps49
    go_wp2_with fail
    go_ret
    exact ⟨by rw [HV.out]; simp [str_ex], rfl⟩
  · have HV := Lib.hid (show begin24 s true = begin23 s true from rfl)
    go_enter Try.func49, Try.ntmps49
    go_wp2_with fail
    refine (begin23_any s true hn w).mono ?_
    rintro e w' ⟨rfl, rfl⟩
    obtain ⟨Z, hZ⟩ : ∃ Z, begin23 s true = Z := ⟨_, rfl⟩
    rw [hZ] at HV ⊢
    go_wp2_with fail
    go_ret
    exact ⟨by rw [HV.out]; rfl, rfl⟩
end Go.Proofs.Ytimkgkokidhhpaa

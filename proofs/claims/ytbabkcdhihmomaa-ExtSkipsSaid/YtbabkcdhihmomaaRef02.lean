/- What the reference's checksum functions (footplateref02) compute. No condition but sizes. -/
import Derived.Test.YtbabkcdhihmomaaRef01
import Derived.Test.YtbabkcdhihmomaaPseudo
namespace Go.Proofs.Ytbabkcdhihmomaa
open Go.RowKit
set_option linter.unusedVariables false
set_option maxRecDepth 20000

theorem rfold_any (n : Int) (w : World) (h0 : 0 ≤ n) (h1 : n ≤ 4611686018427387904) :
    Calls Try.prog 41 #[.int .i64 n] w fun e w' => e = .returned (.int .i64 (foldN n.toNat : Nat)) ∧ w = w' := by
  obtain ⟨n, rfl⟩ := Int.eq_ofNat_of_zero_le h0
  simp only [Int.toNat_natCast]
  go_enter Try.func41, Try.ntmps41
  go_wp2
  go_loop [0] (fun m => ∃ k : Nat, k ≤ 4611686018427387904 ∧ foldN k = foldN n ∧ m = .int .i64 k) (fun m => (intOf m).toNat)
  case atStart => exact ⟨n, by omega, rfl, rfl⟩
  case round =>
    obtain ⟨k, hk, hf, rfl⟩ := hrel
    have HF := Lib.hid hf
    clear hf
    by_cases hlt : 65535 < k
    · go_wp2
      go_round
      case rel => exact ⟨k % 65536 + k / 65536, by omega, by rw [foldN_step k hlt]; exact HF.out, by go_num⟩
      case measure => simp [intOf]; omega
    · have HS := Lib.hid (foldN_small k (by omega))
      go_wp2
      go_ret
      refine ⟨?_, rfl⟩
      rw [← HF.out, HS.out]
      rfl

theorem oddB_take (l : List UInt8) (k : Nat) (hk : k ≤ l.length) : oddB false (l.take k) = !decide (k % 2 = 0) := by
  unfold oddB
  rw [List.length_take, Nat.min_eq_left hk]
  by_cases h : k % 2 = 0 <;> simp [h]

set_option maxHeartbeats 400000 in
theorem rraw_any (l : List UInt8) (w : World) (hl : l.length ≤ 1099511627776) :
    Calls Try.prog 29 #[str l] w fun e w' => e = .returned (.int .i64 (rawN l : Nat)) ∧ w = w' := by
  go_enter Try.func29, Try.ntmps29
  go_wp2_with fail
  go_loop [3, 4] (fun m j => ∃ k : Nat, k ≤ l.length ∧ j = .int .i64 k ∧ m = .int .i64 (sumB false (l.take k) : Nat)) (fun _ j => l.length - (intOf j).toNat)
  case atStart => exact ⟨0, Nat.zero_le _, rfl, rfl⟩
  case round =>
    obtain ⟨k, hk, rfl, rfl⟩ := hrel
    by_cases hlt : k < l.length
    · obtain ⟨u, hu⟩ := get_ex l hlt
      have hub := byte_le u
      have hs := sumB_le false (l.take k)
      rw [List.length_take] at hs
      have HO := Lib.hid (oddB_take l k hk)
      have HG := Lib.hid (ba_get l k u hu)
      have HS := Lib.hid (take_snoc l k u hu)
      clear hu
      generalize hq : sumB false (l.take k) = q at hs ⊢
      have HQ := Lib.hid hq
      clear hq
      by_cases hp : k % 2 = 0
      · have hp' : (((k : Int) % 2) == 0) = true := by rw [beq_iff_eq]; omega
        go_wp2
        go_round
        case rel =>
          refine ⟨k + 1, by omega, by go_num, ?_⟩
          simp only [HG.out]
          rw [wI (u.toNat : Int) (by omega) (by omega), wI (256 * (u.toNat : Int)) (by omega) (by omega), wI _ (by omega) (by omega), HS.out, sumB_snoc, HO.out, HQ.out]
          simp [hp]
          omega
        case measure => simp [intOf]; omega
      · have hp' : (((k : Int) % 2) == 0) = false := by rw [beq_eq_false_iff_ne]; omega
        go_wp2
        go_round
        case rel =>
          refine ⟨k + 1, by omega, by go_num, ?_⟩
          simp only [HG.out]
          rw [wI (u.toNat : Int) (by omega) (by omega), wI _ (by omega) (by omega), HS.out, sumB_snoc, HO.out, HQ.out]
          simp [hp]
        case measure => simp [intOf]; omega
    · have : k = l.length := by omega
      subst this
      have hs := sumB_le false l
      rw [List.take_length]
      generalize hq : sumB false l = q at hs ⊢
      have HQ := Lib.hid hq
      clear hq
      go_wp2_with fail
      refine (rfold_any _ _ (by omega) (by omega)).mono ?_
      rintro e w' ⟨rfl, rfl⟩
      go_wp2_with fail
      go_ret
      exact ⟨by rw [rawN, HQ.out]; rfl, rfl⟩

theorem rof_any (l : List UInt8) (w : World) (hl : l.length ≤ 1099511627776) :
    Calls Try.prog 24 #[str l] w fun e w' => e = .returned (.int .i64 (65535 - rawN l : Nat)) ∧ w = w' := by
  have hf : rawN l ≤ 65535 := foldN_le _
  go_enter Try.func24, Try.ntmps24
  go_wp2_with fail
  refine (rraw_any l _ hl).mono ?_
  rintro e w' ⟨rfl, rfl⟩
  go_wp2_with fail
  go_ret
  exact ⟨ret_int (by omega), rfl⟩

end Go.Proofs.Ytbabkcdhihmomaa

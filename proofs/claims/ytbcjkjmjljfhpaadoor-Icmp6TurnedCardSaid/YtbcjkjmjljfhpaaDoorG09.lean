/- Texts of this claim put together, in build order: each one's own remark stands ahead of it. -/
import Derived.Test.YtbcjkjmjljfhpaaDoorG02
import Derived.Test.YtbcjkjmjljfhpaaDoorG08
/- What the reference's checksum functions (footplateref02) compute. No condition but sizes. -/
namespace Go.Proofs.YtbcjkjmjljfhpaaDoor
open Go.RowKit
set_option linter.unusedVariables false
set_option maxRecDepth 20000

theorem rfold_any (n : Int) (w : World) (h0 : 0 ≤ n) (h1 : n ≤ 4611686018427387904) :
    Calls Tryd.prog 59 #[.int .i64 n] w fun e w' => e = .returned (.int .i64 (foldN n.toNat : Nat)) ∧ w = w' := by
  obtain ⟨n, rfl⟩ := Int.eq_ofNat_of_zero_le h0
  simp only [Int.toNat_natCast]
  go_enter Tryd.func59, Tryd.ntmps59
  go_wp2
  go_loop [0] (fun m => ∃ k : Nat, k ≤ 4611686018427387904 ∧ foldN k = foldN n ∧ m = .int .i64 k) (fun m => (intOf m).toNat)
  case atStart => exact ⟨n, by omega, rfl, rfl⟩
  case round =>
    obtain ⟨k, hk, hf, rfl⟩ := hrel
    have HF := Lib.hid hf
    clear hf
    by_cases hlt : 65535 < k
    · go_wp2
      go_round
      case rel => exact ⟨k % 65536 + k / 65536, by omega, by rw [foldN_step k hlt]; exact HF.out, by go_num⟩
      case measure => simp [intOf]; omega
    · have HS := Lib.hid (foldN_small k (by omega))
      go_wp2
      go_ret
      refine ⟨?_, rfl⟩
      rw [← HF.out, HS.out]
      rfl

theorem oddB_take (l : List UInt8) (k : Nat) (hk : k ≤ l.length) : oddB false (l.take k) = !decide (k % 2 = 0) := by
  unfold oddB
  rw [List.length_take, Nat.min_eq_left hk]
  by_cases h : k % 2 = 0 <;> simp [h]

set_option maxHeartbeats 400000 in
theorem rraw_any (l : List UInt8) (w : World) (hl : l.length ≤ 1099511627776) :
    Calls Tryd.prog 35 #[str l] w fun e w' => e = .returned (.int .i64 (rawN l : Nat)) ∧ w = w' := by
  go_enter Tryd.func35, Tryd.ntmps35
  go_wp2_with fail
  go_loop [3, 4] (fun m j => ∃ k : Nat, k ≤ l.length ∧ j = .int .i64 k ∧ m = .int .i64 (sumB false (l.take k) : Nat)) (fun _ j => l.length - (intOf j).toNat)
  case atStart => exact ⟨0, Nat.zero_le _, rfl, rfl⟩
  case round =>
    obtain ⟨k, hk, rfl, rfl⟩ := hrel
    by_cases hlt : k < l.length
    · obtain ⟨u, hu⟩ := get_ex l hlt
      have hub := byte_le u
      have hs := sumB_le false (l.take k)
      rw [List.length_take] at hs
      have HO := Lib.hid (oddB_take l k hk)
      have HG := Lib.hid (ba_get l k u hu)
      have HS := Lib.hid (take_snoc l k u hu)
      clear hu
      generalize hq : sumB false (l.take k) = q at hs ⊢
      have HQ := Lib.hid hq
      clear hq
      by_cases hp : k % 2 = 0
      · have hp' : (((k : Int) % 2) == 0) = true := by rw [beq_iff_eq]; omega
        go_wp2
        go_round
        case rel =>
          refine ⟨k + 1, by omega, by go_num, ?_⟩
          simp only [HG.out]
          rw [wI (u.toNat : Int) (by omega) (by omega), wI (256 * (u.toNat : Int)) (by omega) (by omega), wI _ (by omega) (by omega), HS.out, sumB_snoc, HO.out, HQ.out]
          simp [hp]
          omega
        case measure => simp [intOf]; omega
      · have hp' : (((k : Int) % 2) == 0) = false := by rw [beq_eq_false_iff_ne]; omega
        go_wp2
        go_round
        case rel =>
          refine ⟨k + 1, by omega, by go_num, ?_⟩
          simp only [HG.out]
          rw [wI (u.toNat : Int) (by omega) (by omega), wI _ (by omega) (by omega), HS.out, sumB_snoc, HO.out, HQ.out]
          simp [hp]
        case measure => simp [intOf]; omega
    · have : k = l.length := by omega
      subst this
      have hs := sumB_le false l
      rw [List.take_length]
      generalize hq : sumB false l = q at hs ⊢
      have HQ := Lib.hid hq
      clear hq
      go_wp2_with fail
      refine (rfold_any _ _ (by omega) (by omega)).mono ?_
      rintro e w' ⟨rfl, rfl⟩
      go_wp2_with fail
      go_ret
      exact ⟨by rw [rawN, HQ.out]; rfl, rfl⟩

theorem rof_any (l : List UInt8) (w : World) (hl : l.length ≤ 1099511627776) :
    Calls Tryd.prog 27 #[str l] w fun e w' => e = .returned (.int .i64 (65535 - rawN l : Nat)) ∧ w = w' := by
  have hf : rawN l ≤ 65535 := foldN_le _
  go_enter Tryd.func27, Tryd.ntmps27
  go_wp2_with fail
  refine (rraw_any l _ hl).mono ?_
  rintro e w' ⟨rfl, rfl⟩
  go_wp2_with fail
  go_ret
  exact ⟨ret_int (by omega), rfl⟩

set_option maxHeartbeats 1000000 in
theorem rpseudo_any (l l2 : List UInt8) (p size : Int) (w : World) (hn : l.length ≤ 65536) (hm : l2.length ≤ 65536) (hp0 : 0 ≤ p) (hp1 : p ≤ 255)
    (hs0 : -9223372036854775808 ≤ size) (hs1 : size ≤ 9223372036854775807) :
    Calls Tryd.prog 25 #[str l, str l2, .int .i64 p, .int .i64 size] w fun e w' => e = .returned (str (pseudoF l l2 p.toNat size)) ∧ Below w.heap.size w w' := by
  by_cases hne : ((l.length : Int) != (l2.length : Int)) = true
  · have hz : pseudoF l l2 p.toNat size = [] := by
      simp at hne
      unfold pseudoF
      split
      · rfl
      · rw [if_neg (by omega), if_neg (by omega)]
    rw [hz]
    clear hz
    go_enter Tryd.func25, Tryd.ntmps25
    go_wp2_with fail
    go_ret
    exact ⟨rfl, Below.refl _ _⟩
  have heq : ((l.length : Int) != (l2.length : Int)) = false := by simpa using hne
  have hll : l2.length = l.length := by simp at heq; omega
  clear hne
  by_cases hneg : size < 0
  · have hz : pseudoF l l2 p.toNat size = [] := by unfold pseudoF; rw [if_pos hneg]
    rw [hz]
    clear hz
    have HLL := Lib.hid hll
    clear hll
    go_enter Tryd.func25, Tryd.ntmps25
    go_wp2_with fail
    go_ret
    exact ⟨rfl, Below.refl _ _⟩
  have hw : IntKind.u64.wrap size = size ∨ 4611686018427387904 < size := by
    by_cases h : size ≤ 4611686018427387904
    · exact .inl (wrap64_id size (by omega) h)
    · exact .inr (by omega)
  have hrow := fun W : World => row_lit (e := 5) W #[.int .u8 p] [UInt8.ofNat p.toNat] 1 (by simp [bv]; omega) rfl
  have HR := Lib.hid hrow
  clear hrow
  by_cases h4 : l.length = 4 ∧ size < 65536
  · obtain ⟨h4, hs⟩ := h4
    have hfin : l ++ l2 ++ [0] ++ [UInt8.ofNat p.toNat] ++ toBe 2 size.toNat = pseudoF l l2 p.toNat size := by
      unfold pseudoF
      rw [if_neg hneg, if_pos ⟨h4, by omega, by omega⟩]
      simp
    have HF := Lib.hid hfin
    have ht : (toBe 2 size.toNat).length ≤ 8 := by rw [toBe_length]; omega
    have hc4 : ((l.length : Int) == 4) = true := by rw [beq_iff_eq]; omega
    have hwx := hw.resolve_right (by omega)
    clear hll hw hfin h4
    go_enter Tryd.func25, Tryd.ntmps25
    go_wp2_with (refine wpList_str rfl _ 22 9 5 rfl Tryd.underlying22 Tryd.underlying5 Tryd.underlying9 _ _ _ _ [UInt8.ofNat p.toNat] rfl (HR.out _) ?_)
    refine (bytes_any _ _ _ (by omega) (by omega) (by omega) (by omega)).mono ?_
    rintro e w3 ⟨rfl, hb⟩
    go_wp2_with fail
    go_ret
    refine ⟨?_, lit_below hb⟩
    rw [← HF.out]
    simp [ba_append]
  by_cases h16 : l.length = 16 ∧ size < 4294967296
  · obtain ⟨h16, hs⟩ := h16
    have hfin : l ++ l2 ++ toBe 4 size.toNat ++ [0, 0, 0] ++ [UInt8.ofNat p.toNat] = pseudoF l l2 p.toNat size := by
      unfold pseudoF
      rw [if_neg hneg, if_neg (by omega), if_pos ⟨h16, by omega, by omega⟩]
      simp
    have HF := Lib.hid hfin
    have ht : (toBe 4 size.toNat).length ≤ 8 := by rw [toBe_length]; omega
    have hc4 : ((l.length : Int) == 4) = false := by rw [beq_eq_false_iff_ne]; omega
    have hc16 : ((l.length : Int) == 16) = true := by rw [beq_iff_eq]; omega
    have hwx := hw.resolve_right (by omega)
    clear hll hw hfin h16 h4
    go_enter Tryd.func25, Tryd.ntmps25
    go_wp2_with (refine wpList_str rfl _ 22 9 5 rfl Tryd.underlying22 Tryd.underlying5 Tryd.underlying9 _ _ _ _ [UInt8.ofNat p.toNat] rfl (HR.out _) ?_)
    refine (bytes_any _ _ _ (by omega) (by omega) (by omega) (by omega)).mono ?_
    rintro e w3 ⟨rfl, hb⟩
    go_wp2_with fail
    go_ret
    refine ⟨?_, lit_below hb⟩
    rw [← HF.out]
    simp [ba_append]
  have hz : pseudoF l l2 p.toNat size = [] := by
    unfold pseudoF
    rw [if_neg hneg, if_neg (by omega), if_neg (by omega)]
  rw [hz]
  have key : (((l.length : Int) == 4) = false ∨ (((l.length : Int) == 4) = true ∧ 65536 ≤ size)) ∧ (((l.length : Int) == 16) = false ∨ (((l.length : Int) == 16) = true ∧ 4294967296 ≤ size)) := by
    simp only [beq_iff_eq, beq_eq_false_iff_ne]
    omega
  clear h4 h16 hz hw hll
  rcases key with ⟨a1 | ⟨a1, a3⟩, b1 | ⟨b1, b3⟩⟩
  all_goals first
    | (exfalso; simp at a1 b1; omega)
    | skip
  all_goals
    go_enter Tryd.func25, Tryd.ntmps25
    go_wp2_with (refine wpList_str rfl _ 22 9 5 rfl Tryd.underlying22 Tryd.underlying5 Tryd.underlying9 _ _ _ _ [UInt8.ofNat p.toNat] rfl (HR.out _) ?_)
    go_ret
    exact ⟨rfl, (Below.refl _ _).alloc (Nat.le_refl _) _⟩

end Go.Proofs.YtbcjkjmjljfhpaaDoor


/- What slices.Grow (of nothing) and slices.Concat compute. No condition but sizes. -/
import Derived.Test.YtmpaockaeoknmaaBase
import Derived.Lib.AppendZeros
namespace Go.Proofs.Ytmpaockaeoknmaa
open Go.RowKit
set_option linter.unusedVariables false
set_option maxRecDepth 20000

theorem info_bytes : (Try.prog.info? 5).map (fun i => (i.zero, i.size, i.bytes)) = some (some (.int .u8 0), 1, 1) := by kernel_rfl

theorem info_entries : (Try.prog.info? 46).map (fun i => (i.zero, i.size, i.bytes)) = some (some (.agg #[.int .i64 0, .int .u8 0, .bool false, .int .u8 0]), 4, 16) := by kernel_rfl

set_option maxHeartbeats 400000 in
theorem grow_entries (m : Int) (w : World) (hm0 : 0 ≤ m) (hm : m ≤ 1099511627776) :
    Calls Try.prog 45 #[.slice none 0 0, .int .i64 m] w fun e w' => ∃ A' c', e = .returned (.slice A' 0 c') ∧ Own w' w.heap.size 46 4 A' 0 c' [] ∧ Below w.heap.size w w' := by
  obtain ⟨m, rfl⟩ := Int.eq_ofNat_of_zero_le hm0
  rcases Nat.eq_zero_or_pos m with h0 | h0
  · subst h0
    go_enter Try.func45, Try.ntmps45
    go_wp2_with fail
    go_ret
    exact ⟨none, 0, rfl, Own.nil _ _ _ _ _, Below.refl _ _⟩
  · obtain ⟨i0, hi0, hz0, hz1, hz2⟩ := info_parts info_entries
    have hrun := Lib.run_append_nil_zeros (P := Try.prog) w 22 3 22 46 i0 _ .i64 .i64 Try.underlying22 Try.underlying3 hi0 hz0 m h0 (by omega) (by omega) (by rw [hz2]; omega)
    have HR := Lib.hid hrun
    clear hrun
    go_enter Try.func45, Try.ntmps45
    go_wp2_with (at_builtin; refine Lib.wpList_append_run _ rfl _ _ _ _ rfl _ _ rfl rfl _ _ HR.out ?_)
    go_ret
    refine ⟨_, _, rfl, ?_, ((Below.refl _ _).drew).alloc (Nat.le_refl _) _⟩
    refine ⟨rfl, Nat.zero_le _, grownCap_le_maxLen _ _ _ _ (by simp only [maxLen]; omega), .inr ⟨_, _, rfl, Nat.le_refl _, heap_alloc_new w.drew _, ?_, by simp⟩⟩
    have := grownCap_ge w m 0 46
    simp only [Array.size_append, size_zeroCells, ← Nat.add_mul]
    rw [show m + (grownCap w m 0 46 - m) = grownCap w m 0 46 by omega]
    rfl

set_option maxHeartbeats 1000000 in
theorem concat_entries (R : Option Addr) (k c : Nat) (rows : List Sl) (w : World) (h : Row w w.heap.size 1 R k (rows.map Sl.v)) (hr : ∀ r ∈ rows, r.ok 4 w) (hk : k ≤ 1099511627776) (ht : lenV rows ≤ 1099511627776) :
    Calls Try.prog 39 #[.slice R k c] w fun e w' => ∃ A' c', e = .returned (.slice A' (lenV rows) c') ∧ Own w' w.heap.size 46 4 A' (lenV rows) c' (flatV rows) ∧ Below w.heap.size w w' := by
  have hkl : rows.length = k := by have := h.1; simpa using this
  go_enter Try.func39, Try.ntmps39
  go_wp2_with fail
  go_loop [3, 11] (fun s j => ∃ i : Nat, i ≤ k ∧ j = .int .i64 i ∧ s = .int .i64 (lenV (rows.take i) : Nat)) (fun _ j => k - (intOf j).toNat)
  case atStart => exact ⟨0, Nat.zero_le _, rfl, rfl⟩
  case round =>
    obtain ⟨i, hi, rfl, rfl⟩ := hrel
    by_cases hlt : i < k
    · obtain ⟨r, hri⟩ := get_ex rows (k := i) (by omega)
      obtain ⟨b, o, rfl, hbB, hcell⟩ := h.2 (by omega)
      have hcr := hcell i r.v (by simp [hri])
      unfold Sl.v at hcr
      have hn := lenV_take_le rows (i + 1)
      have HS := Lib.hid (take_snoc rows i r hri)
      rw [HS.out, lenV_snoc] at hn
      have HL := Lib.hid hkl
      clear hcell hri hr hkl
      generalize hd : lenV (rows.take i) = done at hn ⊢
      have HD := Lib.hid hd
      clear hd
      obtain ⟨rA, rn, rc, rl⟩ := r
      simp only at hcr hn HS
      go_wp2_with fail
      go_round
      case rel => exact ⟨i + 1, by omega, by go_num, by rw [HS.out, lenV_snoc, HD.out]; go_num⟩
      case measure => simp [intOf]; omega
    · have : i = k := by omega
      subst this
      have htk : rows.take i = rows := List.take_of_length_le (by omega)
      rw [htk]
      generalize hL : lenV rows = tot at ht ⊢
      have HL := Lib.hid hL
      have HK := Lib.hid hkl
      clear htk hkl hL
      go_wp2_with fail
      refine (grow_entries _ _ (by omega) (by omega)).mono ?_
      rintro e w1 ⟨A', c', rfl, hown, hb⟩
      clear hlt
      go_wp2_with fail
      go_loopw [6, 27] (fun s j wr => ∃ (m : Nat) (A2 : Option Addr) (c2 : Nat), m ≤ i ∧ j = .int .i64 m ∧ s = .slice A2 (lenV (rows.take m)) c2 ∧ Own wr w.heap.size 46 4 A2 (lenV (rows.take m)) c2 (flatV (rows.take m)) ∧ Below w.heap.size w wr) (fun _ j _ => i - (intOf j).toNat)
      case atStart => exact ⟨0, A', c', Nat.zero_le _, rfl, rfl, hown, hb⟩
      case round =>
        obtain ⟨m, A2, c2, hm, rfl, rfl, hown2, hb2⟩ := hrel
        clear hown hb
        by_cases hlt : m < i
        · obtain ⟨r, hri⟩ := get_ex rows (k := m) (by have := HK.out; omega)
          have hrok := hr r (List.mem_of_getElem? hri)
          obtain ⟨b, o, rfl, hbB, hcell⟩ := h.2 (by omega)
          have hcr := (hb2.cell (p := ⟨b, o + m, none⟩) hbB).trans (hcell m r.v (by simp [hri]))
          unfold Sl.v at hcr
          have hn := lenV_take_le rows (m + 1)
          have HS := Lib.hid (take_snoc rows m r hri)
          rw [HS.out, lenV_snoc, HL.out] at hn
          clear hcell hri hr
          have hrow := hrok.row.below hb2
          have hone := hrok.one
          generalize hd : lenV (rows.take m) = done at hn hown2 ⊢
          have HD := Lib.hid hd
          clear hd hrok
          obtain ⟨rA, rn, rc, rl⟩ := r
          simp only at hcr hn HS hrow hone
          have HO := Lib.hid hown2
          have HR := Lib.hid hrow
          have H1 := Lib.hid hone
          clear hown2 hrow hone h
          go_wp2_with (at_builtin; refine wpList_append_Own _ rfl _ _ 22 rfl w.heap.size 46 _ 4 16 Try.underlying22 info_entries rfl (by decide) _ _ _ _ rfl HO.out w.heap.size _ _ _ rl rfl HR.out H1.out (by simp only [maxLen]; omega) (by omega) hb2.size ?_; intro A3 c3 w3 hown3 hg3 _)
          have hb3 := hb2.grown hg3 hb2.size (fun g hg => (HO.out.lt g hg).1)
          go_roundw
          case rel =>
            refine ⟨m + 1, A3, c3, by omega, by go_num, ?_, ?_, hb3⟩
            · rw [HS.out, lenV_snoc, HD.out]
            · rw [HS.out, lenV_snoc, HD.out, flatV_snoc]; exact hown3
          case measure => simp [intOf]; omega
        · have : m = i := by omega
          subst this
          rw [List.take_of_length_le (by have := HK.out; omega), HL.out] at hown2
          rw [List.take_of_length_le (by have := HK.out; omega), HL.out]
          clear h hr
          go_wp2_with fail
          go_ret
          exact ⟨A2, c2, by rw [HL.out]; rfl, by rw [HL.out]; exact hown2, hb2⟩

end Go.Proofs.Ytmpaockaeoknmaa

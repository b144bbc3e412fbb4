/- The walk of the law SumParts: it answers true, and nothing that was there is turned. No condition but those of the row. -/
import Derived.Test.YtjacgpankndigaaLaw02
namespace Go.Proofs.Ytjacgpankndigaa
open Go.RowKit
set_option linter.unusedVariables false

set_option maxHeartbeats 1000000 in
theorem walk_SumParts (w : World) (a : Bs) (ha : a.ok w) (b : Bs) (hb : b.ok w) :
    Calls Try.prog 7 #[a.v, b.v] w fun e w' => e = .returned (.bool true) ∧ Below w.heap.size w w' := by
  obtain ⟨A, n, ca, l⟩ := a
  obtain ⟨B, m, cb, l2⟩ := b
  have hla := ha.len
  have hlb := hb.len
  simp only at hla hlb
  unfold Bs.v
  simp only
  by_cases hs : n % 2 = 0 ∧ n ≤ 1000 ∧ m ≤ 1000
  · obtain ⟨h0, h1, h2⟩ := hs
    have i1 : l.length ≤ 1000 := by omega
    have i2 : l2.length ≤ 1000 := by omega
    have hmod : ((n : Int) % 2 == 1) = false := by rw [beq_eq_false_iff_ne]; omega
    have hswap := raw_swap l (l2.take (m / 2 * 2)) (by omega) (by rw [List.length_take]; omega)
    have hcb := hb.le
    simp only at hcb
    have hcm := hb.cap
    simp only at hcm
    have HS := Lib.hid hswap
    clear hswap hla hlb h0
    go_enter Try.func7, Try.ntmps7
    go_wp2_with fail
    refine (awake_any _).mono ?_
    rintro e w1 ⟨rfl, hw1⟩
    have a1 := ha.below hw1
    have b1 := hb.below hw1
    have AH := Lib.hid a1
    have BH := Lib.hid b1
    clear ha hb a1 b1
    have CH := Lib.hid (BH.out.take (k := m / 2 * 2) (by omega))
    go_wp2_with fail
    have hlt : (l2.take (m / 2 * 2)).length ≤ 1000 := by rw [List.length_take]; omega
    generalize l2.take (m / 2 * 2) = l3 at HS CH hlt
    generalize hk : m / 2 * 2 = k at CH ⊢
    clear hk
    refine (raw_lit #[.slice A n ca, .slice B k cb] [⟨A, n, ca, l⟩, ⟨B, k, cb, l3⟩] 2 2 _ rfl rfl (by omega) (oks2 (AH.out) (CH.out)) (by rw [flat_two, List.length_append]; omega) _ rfl).mono ?_
    rintro e w2 ⟨rfl, hw2⟩
    rw [flat_two]
    have A2 := Lib.hid (AH.out.below hw2)
    have B2 := Lib.hid (BH.out.below hw2)
    have C2 := Lib.hid (CH.out.below hw2)
    go_wp2_with fail
    refine (raw_lit #[.slice B k cb, .slice A n ca] [⟨B, k, cb, l3⟩, ⟨A, n, ca, l⟩] 2 2 _ rfl rfl (by omega) (oks2 (C2.out) (A2.out)) (by rw [flat_two, List.length_append]; omega) _ rfl).mono ?_
    rintro e w3 ⟨rfl, hw3⟩
    rw [flat_two, ← HS.out]
    have A3 := Lib.hid (A2.out.below hw3)
    have B3 := Lib.hid (B2.out.below hw3)
    go_wp2_with fail
    refine (of_lit #[.slice A n ca, .slice B m cb] [⟨A, n, ca, l⟩, ⟨B, m, cb, l2⟩] 2 2 _ rfl rfl (by omega) (oks2 (A3.out) (B3.out)) (by rw [flat_two, List.length_append]; omega) _ rfl).mono ?_
    rintro e w4 ⟨rfl, hw4⟩
    rw [flat_two]
    have A4 := Lib.hid (A3.out.below hw4)
    have B4 := Lib.hid (B3.out.below hw4)
    have z4 := (row_lit (e := 5) w4 #[.int .u8 0, .int .u8 0] [0, 0] 2 rfl rfl)
    have hal : Below w4.heap.size w4 (w4.alloc (.cells #[.int .u8 0, .int .u8 0] 5)) := (Below.refl _ _).alloc (Nat.le_refl _) _
    have Z4 : Hid ((Bs.mk (some ⟨w4.heap.size, 0, none⟩) 2 2 [0, 0]).ok (w4.alloc (.cells #[.int .u8 0, .int .u8 0] 5))) := ⟨by simpa using z4, by simp, by simp [maxLen]⟩
    clear z4
    go_wp2_with fail
    refine (of_lit #[.slice A n ca, .slice B m cb, .slice (some ⟨w4.heap.size, 0, none⟩) 2 2] [⟨A, n, ca, l⟩, ⟨B, m, cb, l2⟩, ⟨some ⟨w4.heap.size, 0, none⟩, 2, 2, [0, 0]⟩] 3 3 _ rfl rfl (by omega) (oks3 (A4.out.below hal) (B4.out.below hal) Z4.out) (by rw [flat_three]; simp only [List.length_append, List.length_cons, List.length_nil]; omega) _ (by simp)).mono ?_
    rintro e w5 ⟨rfl, hw5⟩
    rw [flat_three, raw_zeros]
    have hw5' : Below w4.heap.size w4 w5 := ballocd hw5
    have A5 := Lib.hid (A4.out.below hw5')
    have B5 := Lib.hid (B4.out.below hw5')
    go_wp2_with fail
    refine (raw_lit #[.slice A n ca, .slice B m cb, .slice none 0 0] [⟨A, n, ca, l⟩, ⟨B, m, cb, l2⟩, ⟨none, 0, 0, []⟩] 3 3 _ rfl rfl (by omega) (oks3 A5.out B5.out (ok_nil _)) (by rw [flat_three]; simp only [List.length_append, List.length_nil]; omega) _ rfl).mono ?_
    rintro e w6 ⟨rfl, hw6⟩
    rw [flat_three, List.append_nil]
    have A6 := Lib.hid (A5.out.below hw6)
    have B6 := Lib.hid (B5.out.below hw6)
    go_wp2_with fail
    refine (raw_lit #[.slice A n ca, .slice B m cb] [⟨A, n, ca, l⟩, ⟨B, m, cb, l2⟩] 2 2 _ rfl rfl (by omega) (oks2 (A6.out) (B6.out)) (by rw [flat_two, List.length_append]; omega) _ rfl).mono ?_
    rintro e w7 ⟨rfl, hw7⟩
    rw [flat_two]
    go_wp2_with fail
    go_ret
    exact ⟨ret_bool (by simp), bthen hw1 (bthen hw2 (bthen hw3 (bthen hw4 (bthen hw5' (bthen hw6 hw7)))))⟩
  · have key : ((n : Int) % 2 == 1) = true ∨ (((n : Int) % 2 == 1) = false ∧ 1000 < (n : Int)) ∨ (((n : Int) % 2 == 1) = false ∧ ¬ 1000 < (n : Int) ∧ 1000 < (m : Int)) := by
      simp only [beq_iff_eq, beq_eq_false_iff_ne]
      omega
    clear hs ha hb
    rcases key with h | ⟨h1, h⟩ | ⟨h1, h2, h⟩
    all_goals
      go_enter Try.func7, Try.ntmps7
      go_wp2_with fail
      refine (awake_any _).mono ?_
      rintro e w1 ⟨rfl, hw1⟩
      go_wp2_with fail
      go_ret
      exact ⟨rfl, hw1⟩
end Go.Proofs.Ytjacgpankndigaa

/- The walk of layer 25 (permit): Kinds. No condition but those of the rows. -/
import Derived.Test.YtimkgkokidhhpaaLaw25
import Derived.Test.YtimkgkokidhhpaaOpen
namespace Go.Proofs.Ytimkgkokidhhpaa
open Go.RowKit
set_option linter.unusedVariables false
set_option maxRecDepth 20000
set_option linter.unusedSimpArgs false

theorem kinds_cases (l : List UInt8) : (fourF l = true ∧ sixF l false = false ∧ sixF l true = false ∧ eitherF l = 4) ∨ (fourF l = false ∧ sixF l false = false ∧ sixF l true = false) ∨ (fourF l = false ∧ sixF l false = false ∧ sixF l true = true ∧ eitherF l = 6) ∨ (fourF l = false ∧ sixF l false = true ∧ sixF l true = true ∧ eitherF l = 6) := by
  have h1 := four_kind l
  have h2 := six_kind l true
  have h3 := six_big l
  cases hF : fourF l <;> cases hS : sixF l false <;> cases hB : sixF l true <;> simp_all

set_option maxHeartbeats 4000000 in
theorem walk_PermitKinds (w : World) (b : Bs) (hb : b.ok w) : Calls Try.prog 6 #[b.v] w fun e w' => e = .returned (.bool true) ∧ Below w.heap.size w w' := by
  obtain ⟨A, n, c, l⟩ := b
  have hll := hb.len
  simp only [Bs.v] at hll ⊢
  by_cases hs : n ≤ 2000
  · have hs' : ¬ (2000 : Int) < (n : Int) := by omega
    have HO := Lib.hid hb
    have hnc := hb.le
    clear hb
    have h1 := fun W (h : (Bs.mk A n c l).ok W) => either_any A n c l W h.row h.le h.cap (by omega)
    have h2 := fun W (h : (Bs.mk A n c l).ok W) => permFour_any A n c l W h.row h.le h.cap (by omega)
    have h3 := fun W (h : (Bs.mk A n c l).ok W) => permSix_any A n c l false W h.row h.le h.cap (by omega)
    have h4 := fun W (h : (Bs.mk A n c l).ok W) => permSix_any A n c l true W h.row h.le h.cap (by omega)
    obtain ⟨m, hm⟩ : ∃ m, m = min n 19 := ⟨_, rfl⟩
    obtain ⟨k, hk⟩ : ∃ k, k = min n 39 := ⟨_, rfl⟩
    have hmn : m ≤ n := by omega
    have hkn : k ≤ n := by omega
    have s1 := fun W (h : (Bs.mk A n c l).ok W) => permFour_any A m c (l.take m) W (by have := h.row.take (k := m) hmn; rw [Nat.mul_one] at this; rw [bv, List.map_take]; exact this) (Nat.le_trans hmn h.le) h.cap (by omega)
    have s2 := fun W (h : (Bs.mk A n c l).ok W) => permSix_any A k c (l.take k) true W (by have := h.row.take (k := k) hkn; rw [Nat.mul_one] at this; rw [bv, List.map_take]; exact this) (Nat.le_trans hkn h.le) h.cap (by omega)
    rw [four_short (l.take m) (by rw [List.length_take]; omega)] at s1
    rw [six_short (l.take k) true (by rw [List.length_take]; omega)] at s2
    have H1 := Lib.hid h1
    have H2 := Lib.hid h2
    have H3 := Lib.hid h3
    have H4 := Lib.hid h4
    have S1 := Lib.hid s1
    have S2 := Lib.hid s2
    clear h1 h2 h3 h4 s1 s2
    obtain ⟨E0, hE⟩ : ∃ x, eitherF l = x := ⟨_, rfl⟩
    have KC := kinds_cases l
    rw [hE] at KC
    have HE := Lib.hid hE
    clear hE
    have hmm : min (n : Int) 19 = (m : Int) := by omega
    have hkk : min (n : Int) 39 = (k : Int) := by omega
    clear hm hk
    rcases KC with ⟨kF, kS, kB, kE⟩ | ⟨kF, kS, kB⟩ | ⟨kF, kS, kB, kE⟩ | ⟨kF, kS, kB, kE⟩
    all_goals
      have KF := Lib.hid kF
      have KS := Lib.hid kS
      have KB := Lib.hid kB
      clear kF kS kB
      go_enter Try.func6, Try.ntmps6
      go_wp2_with fail
      refine (awake_any w).mono ?_
      rintro e w1 ⟨rfl, hb1⟩
      have HW := Lib.hid hb1
      replace HO := Lib.hid (HO.out.below hb1)
      clear hb1
      go_wp2_with fail
      refine (H1.out w1 HO.out).mono ?_
      rintro e w2 ⟨rfl, hb⟩
      rw [HE.out]
      replace HW := Lib.hid (bthen HW.out hb)
      replace HO := Lib.hid (HO.out.below hb)
      clear hb
      go_wp2_with fail
      refine (H2.out w2 HO.out).mono ?_
      rintro e w3 ⟨rfl, hb⟩
      rw [KF.out]
      replace HW := Lib.hid (bthen HW.out hb)
      replace HO := Lib.hid (HO.out.below hb)
      clear hb
      go_wp2_with fail
      refine (H3.out w3 HO.out).mono ?_
      rintro e w4 ⟨rfl, hb⟩
      rw [KS.out]
      replace HW := Lib.hid (bthen HW.out hb)
      replace HO := Lib.hid (HO.out.below hb)
      clear hb
      go_wp2_with fail
      refine (H4.out w4 HO.out).mono ?_
      rintro e w5 ⟨rfl, hb⟩
      rw [KB.out]
      replace HW := Lib.hid (bthen HW.out hb)
      replace HO := Lib.hid (HO.out.below hb)
      clear hb
      go_wp2_with fail
      refine (S1.out w5 HO.out).mono ?_
      rintro e w6 ⟨rfl, hb⟩
      replace HW := Lib.hid (bthen HW.out hb)
      replace HO := Lib.hid (HO.out.below hb)
      clear hb
      go_wp2_with fail
      refine (S2.out w6 HO.out).mono ?_
      rintro e w7 ⟨rfl, hb⟩
      replace HW := Lib.hid (bthen HW.out hb)
      clear hb
      go_wp2_with fail
      go_ret
      exact ⟨rfl, HW.out⟩
  · have hs' : (2000 : Int) < (n : Int) := by omega
    clear hll
    go_enter Try.func6, Try.ntmps6
    go_wp2_with fail
    refine (awake_any w).mono ?_
    rintro e w1 ⟨rfl, hb1⟩
    go_wp2_with fail
    go_ret
    exact ⟨rfl, hb1⟩
end Go.Proofs.Ytimkgkokidhhpaa

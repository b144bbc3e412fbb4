/- The two walks of layer 21 (special). Condition: the package's table of names stands as laid. -/
import Derived.Test.YtfpieennbgmdhaaDoorNames
namespace Go.Proofs.YtfpieennbgmdhaaDoor
open Go.RowKit
set_option linter.unusedVariables false

theorem idxL_at (s : List UInt8) (l : List (List UInt8)) (k : Nat) (h : 0 ≤ idxL s l k) : ∃ j : Nat, idxL s l k = (k + j : Nat) ∧ l[j]? = some s := by
  induction l generalizing k with
  | nil => simp [idxL] at h
  | cons x l ih =>
    rw [idxL_cons] at h ⊢
    by_cases hx : x = s
    · exact ⟨0, by rw [if_pos hx]; simp, by simp [hx]⟩
    · rw [if_neg hx] at h ⊢
      obtain ⟨j, h1, h2⟩ := ih (k + 1) h
      exact ⟨j + 1, by rw [h1]; congr 1; omega, by simpa using h2⟩
theorem idxL_ge (s : List UInt8) (l : List (List UInt8)) (k : Nat) : -1 ≤ idxL s l k ∧ idxL s l k < k + l.length := by
  induction l generalizing k with
  | nil => simp [idxL]; omega
  | cons x l ih =>
    rw [idxL_cons]
    have := ih (k + 1)
    simp only [List.length_cons]
    split <;> omega
theorem labelF_bd (s : List UInt8) : -1 ≤ labelF s ∧ labelF s < 16 := by
  unfold labelF
  have := idxL_ge s nameL 0
  have hl : nameL.length = 16 := rfl
  split <;> omega
theorem name_label (s : List UInt8) (h : 0 ≤ labelF s) : nameF (labelF s) = s := by
  unfold labelF at h ⊢
  by_cases hs : s = []
  · rw [if_pos hs] at h; omega
  · rw [if_neg hs] at h ⊢
    obtain ⟨j, h1, h2⟩ := idxL_at s nameL 0 h
    have hj : j < 16 := (List.getElem?_eq_some_iff.1 h2).1
    rw [h1]
    unfold nameF
    rw [isB_yes (by omega), if_pos rfl, Int.toNat_natCast, List.getD_eq_getElem?_getD, Nat.zero_add, h2]
    rfl
theorem label_name (n : Int) (h : nameF n ≠ []) : labelF (nameF n) = n := by
  unfold nameF at h ⊢
  by_cases hb : isB n = true
  · rw [if_pos hb] at h ⊢
    have hn : 0 ≤ n ∧ n < 16 := of_decide_eq_true hb
    have : n = 0 ∨ n = 1 ∨ n = 2 ∨ n = 3 ∨ n = 4 ∨ n = 5 ∨ n = 6 ∨ n = 7 ∨ n = 8 ∨ n = 9 ∨ n = 10 ∨ n = 11 ∨ n = 12 ∨ n = 13 ∨ n = 14 ∨ n = 15 := by omega
    rcases this with rfl | rfl | rfl | rfl | rfl | rfl | rfl | rfl | rfl | rfl | rfl | rfl | rfl | rfl | rfl | rfl <;> first | rfl | exact absurd rfl h
  · rw [if_neg hb] at h
    exact absurd rfl h

set_option maxHeartbeats 1000000 in
theorem walk_SpecialOf (w : World) (hN : Named w) (A : Option Addr) (n c : Nat) (l : List Ent) (hr : Row w w.heap.size 4 A n (evs l)) (hl : ∀ x ∈ l, (Lit.int .i64 x.label).wf = true) :
    Calls Tryd.prog 3 #[.slice A n c] w fun e w' => e = .returned (.bool true) ∧ Below w.heap.size w w' := by
  have HR := Lib.hid hr
  have HL := Lib.hid hl
  have HN := Lib.hid hN
  clear hr hl hN
  by_cases hs : n ≤ 40
  · go_enter Tryd.func3, Tryd.ntmps3
    go_wp2_with fail
    refine (awake_any _ HN.out).mono ?_
    rintro e w1 ⟨rfl, hB⟩
    go_wp2_with fail
    refine (of_any A n c l w1 ((HR.out.below hB).more hB.size) (by omega) HL.out).mono ?_
    rintro e w2 ⟨rfl, hb2⟩
    have hB2 := hB.trans (hb2.mono hB.size)
    go_wp2_with fail
    refine (rof_any A n c l w2 ((HR.out.below hB2).more hB2.size) (by omega)).mono ?_
    rintro e w' ⟨rfl, rfl⟩
    generalize ofF l = x
    go_wp2
    go_ret
    exact ⟨by simp, hB2⟩
  · have hs' : 40 < n := by omega
    go_enter Tryd.func3, Tryd.ntmps3
    go_wp2_with fail
    refine (awake_any _ HN.out).mono ?_
    rintro e w1 ⟨rfl, hB⟩
    go_wp2_with fail
    go_ret
    exact ⟨rfl, hB⟩

set_option maxHeartbeats 2000000 in
theorem walk_SpecialNames (w : World) (hN : Named w) (n : Int) (hn : -9223372036854775808 ≤ n ∧ n ≤ 9223372036854775807) (s : List UInt8) (hs : s.length ≤ maxLen) :
    Calls Tryd.prog 4 #[.int .i64 n, str s] w fun e w' => e = .returned (.bool true) ∧ Below w.heap.size w w' := by
  obtain ⟨n0, n1⟩ := hn
  have HN := Lib.hid hN
  clear hN
  by_cases hs : s.length ≤ 40
  · obtain ⟨k0, k1⟩ := labelF_bd s
    have H1 := Lib.hid (name_label s)
    have H2 := Lib.hid (label_name n)
    have L1 := fun w h => label_any s w h
    have L2 := fun w => rlabel_any s w
    have M1 := fun w h => name_any n w h n0 n1
    have M2 := fun w => rname_any n w
    have M3 := fun w h => name_any (labelF s) w h (by omega) (by omega)
    have L3 := fun w h => label_any (nameF n) w h
    generalize labelF s = k at *
    generalize labelF (nameF n) = q at *
    generalize nameF n = x at *
    generalize nameF k = y at *
    replace L1 := Lib.hid L1
    replace L2 := Lib.hid L2
    replace L3 := Lib.hid L3
    replace M1 := Lib.hid M1
    replace M2 := Lib.hid M2
    replace M3 := Lib.hid M3
    by_cases hk : k < 0 <;> by_cases hx : x = []
    all_goals
      first
        | (have hy : (y == s) = true := by simpa using H1.out (by omega))
        | skip
      first
        | (have hq : (q == n) = true := by simpa using H2.out hx)
        | skip
      first
        | (have hx1 : (x == []) = true := by simpa using hx)
        | (have hx1 : (x == []) = false := by simpa using hx)
      replace hx := Lib.hid hx
      clear H1 H2
      go_enter Tryd.func4, Tryd.ntmps4
      go_wp2_with fail
      refine (awake_any _ HN.out).mono ?_
      rintro e w1 ⟨rfl, hB⟩
      have HN1 := Lib.hid (HN.out.below hB)
      go_wp2_with (first
        | (refine (L1.out _ HN1.out).mono ?_; rintro e w' ⟨rfl, rfl⟩)
        | (refine (M1.out _ HN1.out).mono ?_; rintro e w' ⟨rfl, rfl⟩)
        | (refine (M2.out _).mono ?_; rintro e w' ⟨rfl, rfl⟩)
        | (refine (L2.out _).mono ?_; rintro e w' ⟨rfl, rfl⟩)
        | (refine (M3.out _ HN1.out).mono ?_; rintro e w' ⟨rfl, rfl⟩)
        | (refine (L3.out _ HN1.out).mono ?_; rintro e w' ⟨rfl, rfl⟩)
        | (refine (is_any n _).mono ?_; rintro e w' ⟨rfl, rfl⟩)
        | (refine (ris_any n _).mono ?_; rintro e w' ⟨rfl, rfl⟩))
      go_ret
      exact ⟨rfl, hB⟩
  · have hs' : 40 < s.length := by omega
    go_enter Tryd.func4, Tryd.ntmps4
    go_wp2_with fail
    refine (awake_any _ HN.out).mono ?_
    rintro e w1 ⟨rfl, hB⟩
    go_wp2_with fail
    go_ret
    exact ⟨rfl, hB⟩
end Go.Proofs.YtfpieennbgmdhaaDoor

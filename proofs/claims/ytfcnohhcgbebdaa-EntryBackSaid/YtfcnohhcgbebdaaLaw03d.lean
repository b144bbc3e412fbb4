/- The walk of layer 3's EntryBack. No condition but those of the row. -/
import Derived.Test.YtfcnohhcgbebdaaAwake03
import Derived.Test.YtfcnohhcgbebdaaPlain3
import Derived.Test.YtfcnohhcgbebdaaOpenEnt
namespace Go.Proofs.Ytfcnohhcgbebdaa
open Go.RowKit
set_option linter.unusedVariables false
set_option linter.unusedSimpArgs false

theorem Ent.wf.fitB {x : Ent} (h : x.wf) : x.fit := ⟨(bd_i64 h.label).1, (bd_i64 h.label).2, h.cls.1, h.cls.2, h.ttl.1, h.ttl.2⟩

set_option maxHeartbeats 2000000 in
theorem walk_EntryBack (w : World) (A : Option Addr) (n c : Nat) (l : List Ent) (hr : Row w w.heap.size 4 A n (evs l)) (hc : n ≤ c) (hcm : c ≤ maxLen) (hl : ∀ x ∈ l, x.wf) (b : Bs) (hb : b.ok w) :
    Calls Try.prog 6 #[.slice A n c, b.v] w fun e w' => e = .returned (.bool true) ∧ Below w.heap.size w w' := by
  obtain ⟨X, m, cx, x⟩ := b
  have hlx := hb.len
  have hln := ent_len hr
  simp only [Bs.v] at hlx ⊢
  have HR := Lib.hid hr
  have HX := Lib.hid hb
  have HF := Lib.hid (fun x hx => (hl x hx).fitB)
  have HN := Lib.hid hln
  clear hr hb hl hln
  by_cases hs : n ≤ 40
  rotate_left
  · have hs1 : (40 : Int) < (n : Int) := by omega
    go_enter Try.func6, Try.ntmps6
    go_wp2_with fail
    refine (awake_any _).mono ?_
    rintro e w1 ⟨rfl, hb1⟩
    go_wp2
    go_ret
    exact ⟨rfl, hb1⟩
  have hs1 : ¬ (40 : Int) < (n : Int) := by omega
  by_cases hs' : m ≤ 100
  rotate_left
  · have hs2 : (100 : Int) < (m : Int) := by omega
    go_enter Try.func6, Try.ntmps6
    go_wp2_with fail
    refine (awake_any _).mono ?_
    rintro e w1 ⟨rfl, hb1⟩
    go_wp2
    go_ret
    exact ⟨rfl, hb1⟩
  have hs2 : ¬ (100 : Int) < (m : Int) := by omega
  go_enter Try.func6, Try.ntmps6
  go_wp2_with fail
  refine (awake_any _).mono ?_
  rintro e w1 ⟨rfl, hb1⟩
  have HW1 := Lib.hid hb1
  clear hb1
  go_wp2_with fail
  refine (put_any A n c l w1 ((HR.out.below HW1.out).more HW1.out.size) HF.out (by omega)).mono ?_
  rintro e w2 ⟨A3, c3, rfl, hown3, hb3⟩
  have HW2 := Lib.hid (bthen HW1.out hb3)
  have hb12 := hb3
  have hs12 := HW1.out.size
  by_cases h16 : 16 < l.length
  · rw [putL_many h16] at hown3 ⊢
    go_wp2
    go_ret
    exact ⟨rfl, HW2.out⟩
  by_cases hg : goodAll l
  rotate_left
  · rw [show putL l = ([], 1) by unfold putL; rw [if_neg h16, if_neg hg]] at hown3 ⊢
    go_wp2
    go_ret
    exact ⟨rfl, HW2.out⟩
  rw [putL_yes h16 hg] at hown3 ⊢
  by_cases hn0 : n = 0
  · subst hn0
    obtain rfl : l = [] := List.eq_nil_of_length_eq_zero HN.out
    go_wp2
    go_ret
    exact ⟨rfl, HW2.out⟩
  have hn0i : ¬ (n : Int) = 0 := by omega
  have hpl := piecesTo_len4 l hg _ (Nat.le_refl _)
  have hln := HN.out
  rw [hln] at hpl
  have hcut := stack_cut l HF.out hg (by omega) (by omega)
  have hput := stack_put l HF.out hg (by omega) (by omega) x
  have hsame := same_put l HF.out hg x
  obtain ⟨L, hL⟩ : ∃ L, piecesTo l l.length = L := ⟨_, rfl⟩
  rw [hL, hln] at hcut hput hsame
  rw [hln] at hL
  simp only [hln, hL] at hown3 hpl ⊢
  rw [hpl] at hown3 ⊢
  have HC := Lib.hid hcut
  have HP := Lib.hid hput
  have HS := Lib.hid hsame
  have HL := Lib.hid hpl
  have hbot : ∀ k, k < n → (entAt (L ++ x) k).bot = decide (k + 1 = n) := fun k hk => by
    obtain ⟨y, hy⟩ : ∃ y, l[k]? = some y := ⟨_, List.getElem?_eq_getElem (by omega)⟩
    have h := entAt_put l HF.out hg x k y hy
    simp only [hln, hL] at h
    rw [h]
    rfl
  have HBT := Lib.hid hbot
  clear hcut hput hsame hbot hL h16
  obtain ⟨g3, rfl, hg3, hg3', hcl3, hfr3⟩ := hown3.open_ (by omega)
  have hr39 : Row w2 w2.heap.size 1 (some ⟨g3, 0, none⟩) (4 * n - 1) (bv (L.take (4 * n - 1))) := by
    have := hown3.row.take (k := 4 * n - 1) (by omega)
    rw [Nat.mul_one, ← bv_take] at this
    exact this
  have hle3 := hown3.le
  have hcap3 := hown3.cap
  have HO3 := Lib.hid hown3
  have HR3 := Lib.hid hr39
  have hi1 : (4 * (n : Int) - 1) ≤ (c3 : Int) := by omega
  have hi0 : (0 : Int) ≤ 4 * (n : Int) - 1 := by omega
  have hcast : ((4 * n : Nat) : Int) = 4 * (n : Int) := by omega
  have htn : (4 * (n : Int) - 1).toNat = 4 * n - 1 := by omega
  clear hown3 hr39 hcl3 hfr3 hg3 hg3' hb3
  go_wp2_with fail
  refine (stack_any (some ⟨g3, 0, none⟩) (4 * n - 1) c3 (L.take (4 * n - 1)) w2 HR3.out (by omega) hcap3 (by omega)).mono ?_
  rintro e w3 ⟨A5, c5, rfl, _, hb3⟩
  rw [HC.out]
  have HW3 := Lib.hid (bthen HW2.out hb3)
  have HO4 := Lib.hid (HO3.out.below hb3)
  have HX3 := Lib.hid (HX.out.below HW3.out)
  have hs3 := Nat.le_trans hb12.size hb3.size
  clear hb3 HO3 HR3 hb12
  go_wp2_with (at_builtin; refine wpList_append_Own _ rfl _ _ 24 rfl w1.heap.size 5 _ 1 1 Try.underlying24 infoByte rfl (by decide) _ _ _ _ rfl HO4.out w3.heap.size X m cx (bv x) rfl HX3.out.row (bv_one _) (by simp only [maxLen]; omega) (by omega) hs3 ?_; intro A4 c4 w4 hown4 hg4 _)
  have HW4 := Lib.hid (HW3.out.grown hg4 HW3.out.size (fun k hk => Nat.le_trans hs12 (HO4.out.lt k hk).1))
  rw [← bv_append] at hown4
  have HO5 := Lib.hid hown4.ok
  clear hown4 hg4 HW3 HX3 HO4
  go_wp2_with fail
  refine (stack_any A4 (4 * n + m) c4 (L ++ x) w4 HO5.out.row HO5.out.le HO5.out.cap (by omega)).mono ?_
  rintro e w5 ⟨A6, c6, rfl, hown6, hb6⟩
  rw [HP.out] at hown6 ⊢
  simp only [outs_length] at hown6 ⊢
  have HW5 := Lib.hid (bthen HW4.out hb6)
  have HR6 := Lib.hid hown6.row
  clear hb6 hown6 HW4 HO5
  go_wp2_with fail
  refine (same_any A A6 n n c c6 l (outs (L ++ x) n) w5 ((HR.out.below HW5.out).more HW5.out.size) HR6.out (by omega) (by omega)).mono ?_
  rintro e w6 ⟨rfl, hb6⟩
  rw [HS.out]
  have HW6 := Lib.hid (bthen HW5.out hb6)
  have HR7 := Lib.hid (HR6.out.below hb6)
  clear hb6 HW5 HR6
  go_wp2_with fail
  go_loopw [15] (fun i wr => ∃ (k : Nat), k ≤ n ∧ i = .int .i64 k ∧ wr = w6) (fun i _ => n - (intOf i).toNat)
  case atStart => exact ⟨0, by omega, rfl, rfl⟩
  case round =>
    obtain ⟨k, hk, rfl, rfl⟩ := hrel
    by_cases hlt : k < n
    · obtain ⟨b, o, rfl, hb1, a0, a1, a2, a3⟩ := ent_row HR7.out k _ (outs_get (L ++ x) n k hlt)
      rw [HBT.out k hlt] at a2
      by_cases hlast : k + 1 = n
      · rw [decide_eq_true hlast] at a2
        have hki : (((k : Int) == (n : Int) - 1) : Bool) = true := by simp; omega
        clear a0 a1 a3 hlast
        go_wp2_with fail
        go_roundw
        case rel => exact ⟨k + 1, by omega, by simp, by first | rfl | trivial⟩
        case measure => simp [intOf]; omega
      · rw [decide_eq_false hlast] at a2
        have hki : (((k : Int) == (n : Int) - 1) : Bool) = false := by simp; omega
        clear a0 a1 a3 hlast
        go_wp2_with fail
        go_roundw
        case rel => exact ⟨k + 1, by omega, by simp, by first | rfl | trivial⟩
        case measure => simp [intOf]; omega
    · have : k = n := by omega
      subst this
      go_wp2
      go_ret
      exact ⟨rfl, HW6.out⟩

end Go.Proofs.Ytfcnohhcgbebdaa

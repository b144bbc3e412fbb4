/- Plain laws of the checksum's sum: a byte that is set, what is behind, what is right. No condition. -/
import Derived.Test.YtjacgpankndigaaSumPlain
namespace Go.Proofs.Ytjacgpankndigaa
set_option linter.unusedVariables false

theorem bv_set (l : List UInt8) (j : Nat) (u : UInt8) : bv (l.set j u) = (bv l).set j (.int .u8 (u.toNat : Int)) := by simp [bv, List.map_set]
theorem sumB_set (b : Bool) (l : List UInt8) (j : Nat) (u v : UInt8) (h : l[j]? = some v) :
    sumB b (l.set j u) + (if (b ^^ decide (j % 2 = 1)) then v.toNat else v.toNat * 256) = sumB b l + (if (b ^^ decide (j % 2 = 1)) then u.toNat else u.toNat * 256) := by
  induction l generalizing b j with
  | nil => simp at h
  | cons x l ih =>
    cases j with
    | zero =>
      simp at h
      subst h
      cases b <;> simp [sumB] <;> omega
    | succ j =>
      simp at h
      have := ih (!b) j h
      have e : (b ^^ decide ((j + 1) % 2 = 1)) = (!b ^^ decide (j % 2 = 1)) := by
        rcases Nat.mod_two_eq_zero_or_one j with h0 | h0
        · have h1 : (j + 1) % 2 = 1 := by omega
          simp [h0, h1]
        · have h1 : (j + 1) % 2 = 0 := by omega
          simp [h0, h1]
      rw [e]
      cases b
      · simp only [List.set_cons_succ, sumB]
        simp only [Bool.not_false] at this ⊢
        omega
      · simp only [List.set_cons_succ, sumB]
        simp only [Bool.not_true] at this ⊢
        omega
/-- two bytes of one word set -/
theorem sumB_word (l : List UInt8) (k : Nat) (a b x y : UInt8) (ha : l[2 * k]? = some a) (hb : l[2 * k + 1]? = some b) :
    sumB false ((l.set (2 * k) x).set (2 * k + 1) y) + (256 * a.toNat + b.toNat) = sumB false l + (256 * x.toNat + y.toNat) := by
  have h1 := sumB_set false l (2 * k) x a ha
  have h2 := sumB_set false (l.set (2 * k) x) (2 * k + 1) y b (by rw [List.getElem?_set_ne (by omega)]; exact hb)
  have e1 : (2 * k) % 2 = 0 := by omega
  have e2 : (2 * k + 1) % 2 = 1 := by omega
  simp [e1] at h1
  simp [e2] at h2
  omega
theorem fold_right (s : Nat) : foldN (s + (65535 - foldN s)) = 65535 := by
  have := foldN_le s
  unfold foldN at *
  by_cases h : s = 0
  · subst h; rfl
  · rw [if_neg h] at *
    rw [if_neg (by omega)]
    omega
theorem sum_right (l : List UInt8) (k : Nat) (hk : 2 * k + 1 < l.length) (c : Nat) (hc : c = 65535 - rawN ((l.set (2 * k) 0).set (2 * k + 1) 0)) :
    rawN ((((l.set (2 * k) 0).set (2 * k + 1) 0).set (2 * k) (UInt8.ofNat (c / 256))).set (2 * k + 1) (UInt8.ofNat (c % 256))) = 65535 := by
  generalize hl : (l.set (2 * k) 0).set (2 * k + 1) 0 = l' at hc ⊢
  have h0 : l'[2 * k]? = some 0 := by rw [← hl, List.getElem?_set_ne (by omega), List.getElem?_set_self (by omega)]
  have h1 : l'[2 * k + 1]? = some 0 := by rw [← hl, List.getElem?_set_self (by simpa using hk)]
  have hw := sumB_word l' k 0 0 (UInt8.ofNat (c / 256)) (UInt8.ofNat (c % 256)) h0 h1
  have hr := foldN_le (sumB false l')
  have hf := fold_right (sumB false l')
  unfold rawN at hc ⊢
  rw [UInt8.toNat_ofNat', UInt8.toNat_ofNat', Nat.mod_eq_of_lt (show c / 256 < 2 ^ 8 by omega), Nat.mod_eq_of_lt (show c % 256 < 2 ^ 8 by omega)] at hw
  simp at hw
  rw [show sumB false ((l'.set (2 * k) (UInt8.ofNat (c / 256))).set (2 * k + 1) (UInt8.ofNat (c % 256))) = sumB false l' + (65535 - foldN (sumB false l')) by omega]
  exact hf
theorem foldN_add (a b : Nat) : foldN (foldN a + b) = foldN (a + b) := by
  unfold foldN
  by_cases h : a = 0
  · subst h; simp
  · rw [if_neg h, if_neg (by omega), if_neg (by omega)]
    omega
/-- a word becomes another one: the turned checksum is that anew, if not all is nought -/
theorem sum_anew (s s' a b : Nat) (ha : a ≤ 65535) (hb : b ≤ 65535) (hs : s' + a = s + b) (h0 : 0 < s') (hp : a ≤ s) :
    65535 - foldN (65535 - (65535 - foldN s) + (65535 - a) + b) = 65535 - foldN s' := by
  have := foldN_le s
  congr 1
  unfold foldN at *
  by_cases h : s = 0
  · subst h
    have : a = 0 := by omega
    subst this
    rw [if_pos rfl] at *
    rw [if_neg (by omega), if_neg (by omega)]
    omega
  · rw [if_neg h] at *
    rw [if_neg (by omega), if_neg (by omega)]
    omega
end Go.Proofs.Ytjacgpankndigaa

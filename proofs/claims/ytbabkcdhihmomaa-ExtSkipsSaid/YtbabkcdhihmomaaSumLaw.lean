/- Plain laws of the checksum's sum: a byte that is set, what is behind, what is right. No condition. -/
import Derived.Test.YtbabkcdhihmomaaSumPlain
namespace Go.Proofs.Ytbabkcdhihmomaa
set_option linter.unusedVariables false
set_option maxRecDepth 20000

theorem bv_set (l : List UInt8) (j : Nat) (u : UInt8) : bv (l.set j u) = (bv l).set j (.int .u8 (u.toNat : Int)) := by simp [bv, List.map_set]
theorem sumB_set (b : Bool) (l : List UInt8) (j : Nat) (u v : UInt8) (h : l[j]? = some v) :
    sumB b (l.set j u) + (if (b ^^ decide (j % 2 = 1)) then v.toNat else v.toNat * 256) = sumB b l + (if (b ^^ decide (j % 2 = 1)) then u.toNat else u.toNat * 256) := by
  induction l generalizing b j with
  | nil => simp at h
  | cons x l ih =>
    cases j with
    | zero =>
      simp at h
      subst h
      cases b <;> simp [sumB] <;> omega
    | succ j =>
      simp at h
      have := ih (!b) j h
      have e : (b ^^ decide ((j + 1) % 2 = 1)) = (!b ^^ decide (j % 2 = 1)) := by
        rcases Nat.mod_two_eq_zero_or_one j with h0 | h0
        · have h1 : (j + 1) % 2 = 1 := by omega
          simp [h0, h1]
        · have h1 : (j + 1) % 2 = 0 := by omega
          simp [h0, h1]
      rw [e]
      cases b
      · simp only [List.set_cons_succ, sumB]
        simp only [Bool.not_false] at this ⊢
        omega
      · simp only [List.set_cons_succ, sumB]
        simp only [Bool.not_true] at this ⊢
        omega
/-- two bytes of one word set -/
theorem sumB_word (l : List UInt8) (k : Nat) (a b x y : UInt8) (ha : l[2 * k]? = some a) (hb : l[2 * k + 1]? = some b) :
    sumB false ((l.set (2 * k) x).set (2 * k + 1) y) + (256 * a.toNat + b.toNat) = sumB false l + (256 * x.toNat + y.toNat) := by
  have h1 := sumB_set false l (2 * k) x a ha
  have h2 := sumB_set false (l.set (2 * k) x) (2 * k + 1) y b (by rw [List.getElem?_set_ne (by omega)]; exact hb)
  have e1 : (2 * k) % 2 = 0 := by omega
  have e2 : (2 * k + 1) % 2 = 1 := by omega
  simp [e1] at h1
  simp [e2] at h2
  omega
theorem fold_right (s : Nat) : foldN (s + (65535 - foldN s)) = 65535 := by
  have := foldN_le s
  unfold foldN at *
  by_cases h : s = 0
  · subst h; rfl
  · rw [if_neg h] at *
    rw [if_neg (by omega)]
    omega
theorem sum_right (l : List UInt8) (k : Nat) (hk : 2 * k + 1 < l.length) (c : Nat) (hc : c = 65535 - rawN ((l.set (2 * k) 0).set (2 * k + 1) 0)) :
    rawN ((((l.set (2 * k) 0).set (2 * k + 1) 0).set (2 * k) (UInt8.ofNat (c / 256))).set (2 * k + 1) (UInt8.ofNat (c % 256))) = 65535 := by
  generalize hl : (l.set (2 * k) 0).set (2 * k + 1) 0 = l' at hc ⊢
  have h0 : l'[2 * k]? = some 0 := by rw [← hl, List.getElem?_set_ne (by omega), List.getElem?_set_self (by omega)]
  have h1 : l'[2 * k + 1]? = some 0 := by rw [← hl, List.getElem?_set_self (by simpa using hk)]
  have hw := sumB_word l' k 0 0 (UInt8.ofNat (c / 256)) (UInt8.ofNat (c % 256)) h0 h1
  have hr := foldN_le (sumB false l')
  have hf := fold_right (sumB false l')
  unfold rawN at hc ⊢
  rw [UInt8.toNat_ofNat', UInt8.toNat_ofNat', Nat.mod_eq_of_lt (show c / 256 < 2 ^ 8 by omega), Nat.mod_eq_of_lt (show c % 256 < 2 ^ 8 by omega)] at hw
  simp at hw
  rw [show sumB false ((l'.set (2 * k) (UInt8.ofNat (c / 256))).set (2 * k + 1) (UInt8.ofNat (c % 256))) = sumB false l' + (65535 - foldN (sumB false l')) by omega]
  exact hf
theorem foldN_add (a b : Nat) : foldN (foldN a + b) = foldN (a + b) := by
  unfold foldN
  by_cases h : a = 0
  · subst h; simp
  · rw [if_neg h, if_neg (by omega), if_neg (by omega)]
    omega
/-- a word becomes another one: the turned checksum is that anew, if not all is nought -/
theorem sum_anew (s s' a b : Nat) (ha : a ≤ 65535) (hb : b ≤ 65535) (hs : s' + a = s + b) (h0 : 0 < s') (hp : a ≤ s) :
    65535 - foldN (65535 - (65535 - foldN s) + (65535 - a) + b) = 65535 - foldN s' := by
  have := foldN_le s
  congr 1
  unfold foldN at *
  by_cases h : s = 0
  · subst h
    have : a = 0 := by omega
    subst this
    rw [if_pos rfl] at *
    rw [if_neg (by omega), if_neg (by omega)]
    omega
  · rw [if_neg h] at *
    rw [if_neg (by omega), if_neg (by omega)]
    omega
theorem sumB_pos (b : Bool) (l : List UInt8) (h : (l.any fun u => u != 0) = true) : 0 < sumB b l := by
  induction l generalizing b with
  | nil => simp at h
  | cons x l ih =>
    rw [List.any_cons, Bool.or_eq_true] at h
    rcases h with h | h
    · have hx : x ≠ 0 := by simpa using h
      have h0 : 0 < x.toNat := by
        rcases Nat.eq_zero_or_pos x.toNat with h | h
        · exact absurd (UInt8.toNat_inj.1 (by simpa using h)) hx
        · exact h
      cases b <;> simp only [sumB] <;> omega
    · cases b
      · have := ih true h; simp only [sumB]; omega
      · have := ih false h; simp only [sumB]; omega
theorem u8_ne (u : UInt8) : (u != 0) = ((u.toNat : Int) != 0) := by
  rw [Bool.eq_iff_iff, bne_iff_ne, bne_iff_ne]
  constructor
  · intro h h2; exact h (UInt8.toNat_inj.1 (by simpa using h2))
  · rintro h rfl; exact h rfl
theorem any_snoc (l : List UInt8) (u : UInt8) : ((l ++ [u]).any fun u => u != 0) = ((l.any fun u => u != 0) || u != 0) := by simp
theorem or16 (a b : Int) (h0 : 0 ≤ a) (h1 : a ≤ 255) (h2 : 0 ≤ b) (h3 : b ≤ 255) : bits .or .u16 (a * 256) b = a * 256 + b := by
  obtain ⟨a, rfl⟩ := Int.eq_ofNat_of_zero_le h0
  obtain ⟨b, rfl⟩ := Int.eq_ofNat_of_zero_le h2
  have he : ((a : Int) * 256) = ((a * 256 : Nat) : Int) := by omega
  rw [he, u16_or_nat _ _ (by omega) (by omega), nat_join 8 _ _ (by omega) (by omega)]
  omega
theorem anew_all (l : List UInt8) (k : Nat) (u0 u1 : UInt8) (y : Nat) (hy : y ≤ 65535) (h0 : l[2 * k]? = some u0) (h1 : l[2 * k + 1]? = some u1) (l' : List UInt8) (hl : l' = (l.set (2 * k) (UInt8.ofNat (y / 256))).set (2 * k + 1) (UInt8.ofNat (y % 256)))
    (hs : (l'.any fun u => u != 0) = true) : 65535 - foldN (65535 - (65535 - rawN l) + (65535 - (u0.toNat * 256 + u1.toNat)) + y) = 65535 - rawN l' := by
  have hw := sumB_word l k u0 u1 (UInt8.ofNat (y / 256)) (UInt8.ofNat (y % 256)) h0 h1
  have hz := sumB_word l k u0 u1 0 0 h0 h1
  have hp := sumB_pos false l' hs
  have b0 := u0.toNat_lt
  have b1 := u1.toNat_lt
  rw [← hl, UInt8.toNat_ofNat', UInt8.toNat_ofNat', Nat.mod_eq_of_lt (show y / 256 < 2 ^ 8 by omega), Nat.mod_eq_of_lt (show y % 256 < 2 ^ 8 by omega)] at hw
  simp at hz
  exact sum_anew (sumB false l) (sumB false l') (u0.toNat * 256 + u1.toNat) y (by omega) hy (by omega) hp (by omega)
theorem raw_swap (a c : List UInt8) (ha : a.length % 2 = 0) (hc : c.length % 2 = 0) : rawN (a ++ c) = rawN (c ++ a) := by
  unfold rawN
  rw [sumB_append, sumB_append]
  unfold oddB
  rw [if_pos ha, if_pos hc, Nat.add_comm]
theorem sumB_zeros (b : Bool) : sumB b [0, 0] = 0 := by cases b <;> rfl
theorem raw_zeros (a : List UInt8) : rawN (a ++ [0, 0]) = rawN a := by
  unfold rawN
  rw [sumB_append, sumB_zeros]
  rfl
theorem Bs.ok.take {w : World} {A : Option Addr} {n c : Nat} {l : List UInt8} (h : (Bs.mk A n c l).ok w) {k : Nat} (hk : k ≤ n) : (Bs.mk A k c (l.take k)).ok w :=
  ⟨by have := h.row.take hk; rw [Nat.mul_one, ← bv_take] at this; exact this, Nat.le_trans hk h.le, h.cap⟩
end Go.Proofs.Ytbabkcdhihmomaa

/- The Internet's checksum in plain numbers: how it folds, and how it adds up. No program in sight, no condition. -/
import Derived.Test.YtbabkcdhihmomaaBase
namespace Go.Proofs.Ytbabkcdhihmomaa
set_option linter.unusedVariables false
set_option maxRecDepth 20000

/-- a number, folded to 16 bits -/
def foldN (n : Nat) : Nat := if n = 0 then 0 else (n - 1) % 65535 + 1
theorem foldN_small (n : Nat) (h : n ≤ 65535) : foldN n = n := by unfold foldN; split <;> omega
theorem foldN_step (n : Nat) (h : 65535 < n) : foldN (n % 65536 + n / 65536) = foldN n := by unfold foldN; rw [if_neg (by omega), if_neg (by omega)]; omega
theorem foldN_le (n : Nat) : foldN n ≤ 65535 := by unfold foldN; split <;> omega

/-- bytes added by twos; the flag: the next one is the lower one -/
def sumB : Bool → List UInt8 → Nat
  | _, [] => 0
  | false, u :: r => u.toNat * 256 + sumB true r
  | true, u :: r => u.toNat + sumB false r
/-- the flag behind bytes -/
def oddB (b : Bool) (l : List UInt8) : Bool := if l.length % 2 = 0 then b else !b
theorem oddB_cons (b : Bool) (u : UInt8) (l : List UInt8) : oddB b (u :: l) = oddB (!b) l := by
  unfold oddB
  rw [List.length_cons]
  rcases Nat.mod_two_eq_zero_or_one l.length with h | h
  · rw [if_neg (by omega), if_pos h]
  · rw [if_pos (by omega), if_neg (by omega), Bool.not_not]
theorem oddB_nil (b : Bool) : oddB b [] = b := rfl
theorem sumB_append (b : Bool) (l r : List UInt8) : sumB b (l ++ r) = sumB b l + sumB (oddB b l) r := by
  induction l generalizing b with
  | nil => simp [sumB, oddB_nil]
  | cons u l ih => cases b <;> simp [sumB, ih, oddB_cons] <;> omega
theorem oddB_append (b : Bool) (l r : List UInt8) : oddB b (l ++ r) = oddB (oddB b l) r := by
  induction l generalizing b with
  | nil => rfl
  | cons u l ih => rw [List.cons_append, oddB_cons, oddB_cons, ih]
theorem sumB_snoc (b : Bool) (l : List UInt8) (u : UInt8) : sumB b (l ++ [u]) = sumB b l + (if oddB b l then u.toNat else u.toNat * 256) := by
  rw [sumB_append]
  cases oddB b l <;> simp [sumB]
theorem oddB_snoc (b : Bool) (l : List UInt8) (u : UInt8) : oddB b (l ++ [u]) = !oddB b l := by
  rw [oddB_append]
  cases oddB b l <;> rfl
theorem sumB_le (b : Bool) (l : List UInt8) : sumB b l ≤ l.length * 65280 := by
  induction l generalizing b with
  | nil => simp [sumB]
  | cons u l ih =>
    have := u.toNat_lt
    cases b
    · have := ih true; simp only [sumB, List.length_cons]; omega
    · have := ih false; simp only [sumB, List.length_cons]; omega
/-- the folded sum of bytes -/
def rawN (l : List UInt8) : Nat := foldN (sumB false l)
end Go.Proofs.Ytbabkcdhihmomaa

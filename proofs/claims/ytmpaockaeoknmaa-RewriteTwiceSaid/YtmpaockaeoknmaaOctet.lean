/- What the program's bytes-and-numbers functions (octet.Cut, octet.Get, octet.Put, slices.Clone) compute. No condition but sizes. -/
import Derived.Test.YtmpaockaeoknmaaBase
import Derived.Lib.SliceRun
import Derived.BigQuiet
import Derived.Deep.QuietTactic
namespace Go.Proofs.Ytmpaockaeoknmaa
open Go.RowKit
set_option linter.unusedVariables false
set_option maxRecDepth 20000

theorem infoByte : (Try.prog.info? 5).map (fun i => (i.zero, i.size, i.bytes)) = some (some (.int .u8 0), 1, 1) := by kernel_rfl

/-- the bytes are there -/
def There (n : Nat) (i s : Int) : Prop := 0 ≤ i ∧ 0 ≤ s ∧ i ≤ n ∧ s ≤ n - i
instance (n : Nat) (i s : Int) : Decidable (There n i s) := by unfold There; infer_instance

/-- bytes as a number, the highest one first -/
def be (l : List UInt8) : Nat := l.foldl (fun n u => n * 256 + u.toNat) 0

theorem be_snoc (l : List UInt8) (u : UInt8) : be (l ++ [u]) = be l * 256 + u.toNat := by simp [be]
theorem be_lt (l : List UInt8) : be l < 256 ^ l.length := by
  have h : ∀ k (l : List UInt8), l.length = k → be l < 256 ^ k := by
    intro k
    induction k with
    | zero => intro l hl; rw [List.eq_nil_of_length_eq_zero hl]; simp [be]
    | succ k ih =>
      intro l hl
      rcases List.eq_nil_or_concat l with rfl | ⟨r, u, rfl⟩
      · simp at hl
      · simp only [List.concat_eq_append, List.length_append, List.length_singleton] at hl ⊢
        have hr := ih r (by omega)
        have := u.toNat_lt
        rw [be_snoc, Nat.pow_succ]
        omega
  exact h _ l rfl
theorem or_join64 (a c : Int) (h0 : 0 ≤ a) (h1 : a < 72057594037927936) (h2 : 0 ≤ c) (h3 : c ≤ 255) : bits .or .u64 (a * 256) c = a * 256 + c := by
  obtain ⟨a, rfl⟩ := Int.eq_ofNat_of_zero_le h0
  obtain ⟨c, rfl⟩ := Int.eq_ofNat_of_zero_le h2
  have he : ((a : Int) * 256) = ((a * 256 : Nat) : Int) := by omega
  rw [he, u64_or_nat _ _ (by omega) (by omega), nat_join 8 _ _ (by omega) (by omega)]
  omega

/-- a number as so many bytes, the highest one first -/
def toBe : Nat → Nat → List UInt8
  | 0, _ => []
  | s + 1, m => toBe s (m / 256) ++ [UInt8.ofNat (m % 256)]
theorem toBe_length (s m : Nat) : (toBe s m).length = s := by
  induction s generalizing m with
  | zero => rfl
  | succ s ih => simp [toBe, ih]
theorem toBe_get (s m k : Nat) (h : k < s) : (toBe s m)[k]? = some (UInt8.ofNat (m / 256 ^ (s - 1 - k) % 256)) := by
  induction s generalizing m with
  | zero => omega
  | succ s ih =>
    rw [toBe]
    rcases Nat.lt_or_ge k s with hk | hk
    · rw [List.getElem?_append_left (by rw [toBe_length]; exact hk), ih _ hk, Nat.div_div_eq_div_mul, ← Nat.pow_succ']
      rw [show (s - 1 - k).succ = s + 1 - 1 - k by omega]
    · have : k = s := by omega
      subst this
      rw [List.getElem?_append_right (by rw [toBe_length]; omega), toBe_length]
      simp

theorem cast_shr (m k : Nat) : (m : Int) / 2 ^ k = ((m / 2 ^ k : Nat) : Int) := by rw [Int.natCast_ediv, Int.natCast_pow]; rfl
theorem set_mid {α : Type} (X : List α) (y : α) (r : List α) (v : α) (j : Nat) (h : X.length = j) : (X ++ y :: r).set j v = X ++ v :: r := by
  subst h
  simp
theorem put_step (l : List UInt8) (i s k m : Nat) (hi : i + k < l.length) (hk : k < s) :
    (bv (l.take i ++ (toBe s m).take k ++ l.drop (i + k))).set (i + k) (.int .u8 ((m : Int) / 2 ^ (8 * (s - 1 - k)) % 256)) = bv (l.take i ++ (toBe s m).take (k + 1) ++ l.drop (i + (k + 1))) := by
  have hX : (bv (l.take i ++ (toBe s m).take k)).length = i + k := by rw [bv_length]; simp [toBe_length]; omega
  unfold bv at hX
  rw [take_snoc _ k _ (toBe_get s m k hk), List.drop_eq_getElem_cons hi, bv_append]
  simp only [bv, List.map_cons]
  rw [set_mid _ _ _ _ _ hX]
  simp only [List.map_append, List.map_cons, List.append_assoc, List.cons_append, List.nil_append]
  have e : ((m : Int) / 2 ^ (8 * (s - 1 - k)) % 256) = ((UInt8.ofNat (m / 256 ^ (s - 1 - k) % 256)).toNat : Int) := by
    rw [UInt8.toNat_ofNat', Nat.mod_eq_of_lt (Nat.mod_lt _ (by omega)), show (256 : Nat) ^ (s - 1 - k) = 2 ^ (8 * (s - 1 - k)) from (Nat.pow_mul 2 8 _).symm, Int.natCast_emod, ← cast_shr]
    rfl
  rw [e, Nat.add_assoc]
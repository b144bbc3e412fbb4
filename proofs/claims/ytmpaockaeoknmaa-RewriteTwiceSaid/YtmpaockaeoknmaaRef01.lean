/- What the reference's functions on bytes (footplateref01) compute. No condition but sizes. -/
import Derived.Test.YtmpaockaeoknmaaOctet
namespace Go.Proofs.Ytmpaockaeoknmaa
open Go.RowKit
set_option linter.unusedVariables false
set_option maxRecDepth 20000

theorem byte_mod (q : Nat) : ((UInt8.ofNat (q % 256)).toNat : Int) = (q : Int) % 256 := by
  rw [UInt8.toNat_ofNat', Nat.mod_eq_of_lt (Nat.mod_lt _ (by omega))]
  omega
theorem row_one (wr : World) (q : Nat) : Row (wr.alloc (.cells #[.int .u8 ((q : Int) % 256)] 5)) (wr.heap.size + 1) 1 (some ⟨wr.heap.size, 0, none⟩) 1 (bv [UInt8.ofNat (q % 256)]) := by
  have := Row.new (n := 1) (sz := 1) (e := 5) wr #[.int .u8 ((q : Int) % 256)] rfl
  simpa [bv, byte_mod] using this

theorem ba_append (a b : Array UInt8) : (ByteArray.mk a ++ ByteArray.mk b) = ByteArray.mk (a ++ b) := by
  apply ByteArray.ext
  simp
theorem str_cat (a b : List UInt8) : Value.string ((ByteArray.mk a.toArray) ++ (ByteArray.mk b.toArray)) = str (a ++ b) := by
  rw [ba_append]
  simp
theorem toBe_cons (s m : Nat) : toBe (s + 1) m = UInt8.ofNat (m / 256 ^ s % 256) :: toBe s m := by
  induction s generalizing m with
  | zero => simp [toBe]
  | succ s ih =>
    rw [toBe, ih (m / 256), Nat.div_div_eq_div_mul, ← Nat.pow_succ']
    simp [toBe]

theorem ba_get (l : List UInt8) (j : Nat) (u : UInt8) (h : l[j]? = some u) : ∀ h', (ByteArray.mk l.toArray)[j]'h' = u := by
  intro h'
  obtain ⟨hj, rfl⟩ := List.getElem?_eq_some_iff.1 h
  rfl

/-- a digit of 16; below 0: none -/
def digitF (c : Nat) : Int := if 48 ≤ c ∧ c ≤ 57 then c - 48 else if 97 ≤ c ∧ c ≤ 102 then c - 87 else if 65 ≤ c ∧ c ≤ 70 then c - 55 else -1

/-- the digits of L tell the bytes of R -/
def Tells (L R : List UInt8) : Prop := L.length = 2 * R.length ∧ ∀ k, k < R.length → 0 ≤ digitF (L.getD (2 * k) 0).toNat ∧ 0 ≤ digitF (L.getD (2 * k + 1) 0).toNat ∧ 16 * digitF (L.getD (2 * k) 0).toNat + digitF (L.getD (2 * k + 1) 0).toNat = ((R.getD k 0).toNat : Int)
instance (L R : List UInt8) : Decidable (Tells L R) := by unfold Tells; infer_instance
theorem digitF_le (c : Nat) : digitF c ≤ 15 := by unfold digitF; split <;> (try split) <;> (try split) <;> omega

end Go.Proofs.Ytmpaockaeoknmaa

/- What the reference's functions on bytes (footplateref01) compute. No condition but sizes. -/
import Derived.Test.YtbabkcdhihmomaaOctet
namespace Go.Proofs.Ytbabkcdhihmomaa
open Go.RowKit
set_option linter.unusedVariables false
set_option maxRecDepth 20000

theorem byte_mod (q : Nat) : ((UInt8.ofNat (q % 256)).toNat : Int) = (q : Int) % 256 := by
  rw [UInt8.toNat_ofNat', Nat.mod_eq_of_lt (Nat.mod_lt _ (by omega))]
  omega
theorem row_one (wr : World) (q : Nat) : Row (wr.alloc (.cells #[.int .u8 ((q : Int) % 256)] 5)) (wr.heap.size + 1) 1 (some ⟨wr.heap.size, 0, none⟩) 1 (bv [UInt8.ofNat (q % 256)]) := by
  have := Row.new (n := 1) (sz := 1) (e := 5) wr #[.int .u8 ((q : Int) % 256)] rfl
  simpa [bv, byte_mod] using this

theorem ba_append (a b : Array UInt8) : (ByteArray.mk a ++ ByteArray.mk b) = ByteArray.mk (a ++ b) := by
  apply ByteArray.ext
  simp
theorem str_cat (a b : List UInt8) : Value.string ((ByteArray.mk a.toArray) ++ (ByteArray.mk b.toArray)) = str (a ++ b) := by
  rw [ba_append]
  simp
theorem toBe_cons (s m : Nat) : toBe (s + 1) m = UInt8.ofNat (m / 256 ^ s % 256) :: toBe s m := by
  induction s generalizing m with
  | zero => simp [toBe]
  | succ s ih =>
    rw [toBe, ih (m / 256), Nat.div_div_eq_div_mul, ← Nat.pow_succ']
    simp [toBe]

set_option maxHeartbeats 400000 in
theorem bytes_any (m s : Int) (w : World) (hm : 0 ≤ m) (hm2 : m ≤ 4611686018427387904) (hs : 0 ≤ s) (h8 : s ≤ 8) :
    Calls Try.prog 23 #[.int .u64 m, .int .i64 s] w fun e w' => e = .returned (str (toBe s.toNat m.toNat)) ∧ Below w.heap.size w w' := by
  obtain ⟨s, rfl⟩ := Int.eq_ofNat_of_zero_le hs
  obtain ⟨m, rfl⟩ := Int.eq_ofNat_of_zero_le hm
  simp only [Int.toNat_natCast]
  go_enter Try.func23, Try.ntmps23
  go_wp2_with fail
  go_loopw [0, 5, 6] (fun a t j wr => ∃ k : Nat, k ≤ s ∧ j = .int .i64 k ∧ a = .int .u64 (m / 256 ^ k : Nat) ∧ t = str (toBe k m) ∧ Below w.heap.size w wr) (fun _ _ j _ => s - (intOf j).toNat)
  case atStart => exact ⟨0, Nat.zero_le _, rfl, by simp, rfl, Below.refl _ _⟩
  case round =>
    obtain ⟨k, hk, rfl, rfl, rfl, hb⟩ := hrel
    by_cases hlt : k < s
    · have hd : 0 ≤ m / 256 ^ k := Nat.zero_le _
      have hd2 : m / 256 ^ k ≤ m := Nat.div_le_self _ _
      have htl : (toBe k m).length ≤ 8 := by rw [toBe_length]; omega
      generalize hq : m / 256 ^ k = q at hd hd2 ⊢
      have HQ := Lib.hid hq
      clear hq
      go_wp2_with (refine wpList_str rfl _ 26 9 5 rfl Try.underlying26 Try.underlying5 Try.underlying9 _ _ _ _ [UInt8.ofNat (q % 256)] rfl (row_one wr q) ?_)
      go_roundw
      case rel =>
        refine ⟨k + 1, by omega, by go_num, ?_, ?_, hb.alloc hb.size _⟩
        · rw [Nat.pow_succ, ← Nat.div_div_eq_div_mul, HQ.out]
          go_num
        · rw [toBe_cons, HQ.out]
          exact str_cat [_] _
      case measure => simp [intOf]; omega
    · have : k = s := by omega
      subst this
      go_wp2
      go_ret
      exact ⟨rfl, hb⟩

/-- the bytes are there: the reference's own test -/
theorem there_any (l : List UInt8) (i s : Int) (w : World) (hl : l.length ≤ 1099511627776) :
    Calls Try.prog 42 #[str l, .int .i64 i, .int .i64 s] w fun e w' => e = .returned (.bool (decide (There l.length i s))) ∧ w = w' := by
  by_cases h1 : 0 ≤ i <;> by_cases h2 : 0 ≤ s <;> by_cases h3 : i ≤ (l.length : Int) <;> by_cases h4 : s ≤ (l.length : Int) - i
  all_goals
    go_enter Try.func42, Try.ntmps42
    go_wp2_with fail
    go_ret
    refine ⟨ret_bool ?_, rfl⟩
    symm
    first | (apply decide_eq_true; unfold There; omega) | (apply decide_eq_false; unfold There; omega)

theorem ba_get (l : List UInt8) (j : Nat) (u : UInt8) (h : l[j]? = some u) : ∀ h', (ByteArray.mk l.toArray)[j]'h' = u := by
  intro h'
  obtain ⟨hj, rfl⟩ := List.getElem?_eq_some_iff.1 h
  rfl

theorem rget_no (l : List UInt8) (i s : Int) (w : World) (hl : l.length ≤ 1099511627776) (hno : ¬ (There l.length i s ∧ 1 ≤ s ∧ s ≤ 8)) :
    Calls Try.prog 30 #[str l, .int .i64 i, .int .i64 s] w fun e w' => e = .returned (.tuple #[.int .u64 0, .bool false]) ∧ w = w' := by
  by_cases ht : There l.length i s
  · have ht' : decide (There l.length i s) = true := decide_eq_true ht
    by_cases h1 : s < 1
    · clear hno ht
      go_enter Try.func30, Try.ntmps30
      go_wp2_with fail
      refine (there_any l _ _ _ hl).mono ?_
      rintro e w' ⟨rfl, rfl⟩
      go_wp2_with fail
      go_ret2
      exact ⟨rfl, rfl⟩
    · have h8 : 8 < s := Int.not_le.1 fun h8 => hno ⟨ht, by omega, h8⟩
      clear hno ht
      go_enter Try.func30, Try.ntmps30
      go_wp2_with fail
      refine (there_any l _ _ _ hl).mono ?_
      rintro e w' ⟨rfl, rfl⟩
      go_wp2_with fail
      go_ret2
      exact ⟨rfl, rfl⟩
  · have ht' : decide (There l.length i s) = false := decide_eq_false ht
    clear hno ht
    go_enter Try.func30, Try.ntmps30
    go_wp2_with fail
    refine (there_any l _ _ _ hl).mono ?_
    rintro e w' ⟨rfl, rfl⟩
    go_wp2_with fail
    go_ret2
    exact ⟨rfl, rfl⟩

set_option maxHeartbeats 400000 in
theorem rget_yes (l : List UInt8) (i s : Int) (w : World) (hl : l.length ≤ 1099511627776) (hi : 0 ≤ i) (h1 : 1 ≤ s) (h8 : s ≤ 8) (hle : i + s ≤ l.length) :
    Calls Try.prog 30 #[str l, .int .i64 i, .int .i64 s] w fun e w' => e = .returned (.tuple #[.int .u64 (be ((l.drop i.toNat).take s.toNat) : Nat), .bool true]) ∧ w = w' := by
  obtain ⟨s, rfl⟩ := Int.eq_ofNat_of_zero_le (show 0 ≤ s by omega)
  obtain ⟨i, rfl⟩ := Int.eq_ofNat_of_zero_le hi
  have ht' : decide (There l.length (i : Int) (s : Int)) = true := decide_eq_true ⟨by omega, by omega, by omega, by omega⟩
  have hL : ((l.drop i).take s).length = s := by simp; omega
  simp only [Int.toNat_natCast]
  go_enter Try.func30, Try.ntmps30
  go_wp2_with fail
  refine (there_any l _ _ _ hl).mono ?_
  rintro e w' ⟨rfl, rfl⟩
  go_wp2_with fail
  go_loop [9, 10] (fun m j => ∃ k : Nat, k ≤ s ∧ j = .int .i64 k ∧ m = .int .u64 (be (((l.drop i).take s).take k) : Nat)) (fun _ j => s - (intOf j).toNat)
  case atStart => exact ⟨0, Nat.zero_le _, rfl, by simp [be]⟩
  case round =>
    obtain ⟨k, hk, rfl, rfl⟩ := hrel
    by_cases hlt : k < s
    · obtain ⟨u, hu⟩ := get_ex ((l.drop i).take s) (k := k) (by omega)
      have hub := byte_le u
      have hlt2 : be (((l.drop i).take s).take k) < 256 ^ 7 := by
        refine Nat.lt_of_lt_of_le (be_lt _) (Nat.pow_le_pow_right (by omega) ?_)
        rw [List.length_take]
        omega
      have HS := Lib.hid (take_snoc _ k u hu)
      have HU := Lib.hid hu
      clear hu
      generalize hq : be (((l.drop i).take s).take k) = q at hlt2 ⊢
      have HQ := Lib.hid hq
      clear hq hL
      have hik : i + k < l.length := by omega
      go_wp2
      go_round
      case rel =>
        refine ⟨k + 1, by omega, by go_num, ?_⟩
        have hg := ba_get l (i + k) u (by
          have := HU.out
          rw [List.getElem?_take, if_pos hlt, List.getElem?_drop] at this
          exact this)
        simp only [hg, IntKind.wrap_u64]
        rw [HS.out, be_snoc, HQ.out]
        simp only [Value.int.injEq, true_and]
        omega
      case measure => simp [intOf]; omega
    · have : k = s := by omega
      subst this
      have ht : ((l.drop i).take k).take k = (l.drop i).take k := List.take_of_length_le (by omega)
      have HT := Lib.hid ht
      clear ht
      go_wp2
      go_ret2
      exact ⟨by simp [HT.out], rfl⟩

/-- a digit of 16; below 0: none -/
def digitF (c : Nat) : Int := if 48 ≤ c ∧ c ≤ 57 then c - 48 else if 97 ≤ c ∧ c ≤ 102 then c - 87 else if 65 ≤ c ∧ c ≤ 70 then c - 55 else -1

/-- the digits of L tell the bytes of R -/
def Tells (L R : List UInt8) : Prop := L.length = 2 * R.length ∧ ∀ k, k < R.length → 0 ≤ digitF (L.getD (2 * k) 0).toNat ∧ 0 ≤ digitF (L.getD (2 * k + 1) 0).toNat ∧ 16 * digitF (L.getD (2 * k) 0).toNat + digitF (L.getD (2 * k + 1) 0).toNat = ((R.getD k 0).toNat : Int)
instance (L R : List UInt8) : Decidable (Tells L R) := by unfold Tells; infer_instance
theorem digitF_le (c : Nat) : digitF c ≤ 15 := by unfold digitF; split <;> (try split) <;> (try split) <;> omega

end Go.Proofs.Ytbabkcdhihmomaa

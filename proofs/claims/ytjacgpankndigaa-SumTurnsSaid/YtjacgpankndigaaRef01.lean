/- What the reference's functions on bytes (footplateref01) compute. No condition but sizes. -/
import Derived.Test.YtjacgpankndigaaOctet
namespace Go.Proofs.Ytjacgpankndigaa
open Go.RowKit
set_option linter.unusedVariables false

theorem byte_mod (q : Nat) : ((UInt8.ofNat (q % 256)).toNat : Int) = (q : Int) % 256 := by
  rw [UInt8.toNat_ofNat', Nat.mod_eq_of_lt (Nat.mod_lt _ (by omega))]
  omega
theorem row_one (wr : World) (q : Nat) : Row (wr.alloc (.cells #[.int .u8 ((q : Int) % 256)] 5)) (wr.heap.size + 1) 1 (some ⟨wr.heap.size, 0, none⟩) 1 (bv [UInt8.ofNat (q % 256)]) := by
  have := Row.new (n := 1) (sz := 1) (e := 5) wr #[.int .u8 ((q : Int) % 256)] rfl
  simpa [bv, byte_mod] using this

theorem ba_append (a b : Array UInt8) : (ByteArray.mk a ++ ByteArray.mk b) = ByteArray.mk (a ++ b) := by
  apply ByteArray.ext
  simp
theorem str_cat (a b : List UInt8) : Value.string ((ByteArray.mk a.toArray) ++ (ByteArray.mk b.toArray)) = str (a ++ b) := by
  rw [ba_append]
  simp
theorem toBe_cons (s m : Nat) : toBe (s + 1) m = UInt8.ofNat (m / 256 ^ s % 256) :: toBe s m := by
  induction s generalizing m with
  | zero => simp [toBe]
  | succ s ih =>
    rw [toBe, ih (m / 256), Nat.div_div_eq_div_mul, ← Nat.pow_succ']
    simp [toBe]

set_option maxHeartbeats 400000 in
theorem bytes_any (m s : Int) (w : World) (hm : 0 ≤ m) (hm2 : m ≤ 4611686018427387904) (hs : 0 ≤ s) (h8 : s ≤ 8) :
    Calls Try.prog 24 #[.int .u64 m, .int .i64 s] w fun e w' => e = .returned (str (toBe s.toNat m.toNat)) ∧ Below w.heap.size w w' := by
  obtain ⟨s, rfl⟩ := Int.eq_ofNat_of_zero_le hs
  obtain ⟨m, rfl⟩ := Int.eq_ofNat_of_zero_le hm
  simp only [Int.toNat_natCast]
  go_enter Try.func24, Try.ntmps24
  go_wp2_with fail
  go_loopw [0, 5, 6] (fun a t j wr => ∃ k : Nat, k ≤ s ∧ j = .int .i64 k ∧ a = .int .u64 (m / 256 ^ k : Nat) ∧ t = str (toBe k m) ∧ Below w.heap.size w wr) (fun _ _ j _ => s - (intOf j).toNat)
  case atStart => exact ⟨0, Nat.zero_le _, rfl, by simp, rfl, Below.refl _ _⟩
  case round =>
    obtain ⟨k, hk, rfl, rfl, rfl, hb⟩ := hrel
    by_cases hlt : k < s
    · have hd : 0 ≤ m / 256 ^ k := Nat.zero_le _
      have hd2 : m / 256 ^ k ≤ m := Nat.div_le_self _ _
      have htl : (toBe k m).length ≤ 8 := by rw [toBe_length]; omega
      generalize hq : m / 256 ^ k = q at hd hd2 ⊢
      have HQ := Lib.hid hq
      clear hq
      go_wp2_with (refine wpList_str rfl _ 22 9 5 rfl Try.underlying22 Try.underlying5 Try.underlying9 _ _ _ _ [UInt8.ofNat (q % 256)] rfl (row_one wr q) ?_)
      go_roundw
      case rel =>
        refine ⟨k + 1, by omega, by go_num, ?_, ?_, hb.alloc hb.size _⟩
        · rw [Nat.pow_succ, ← Nat.div_div_eq_div_mul, HQ.out]
          go_num
        · rw [toBe_cons, HQ.out]
          exact str_cat [_] _
      case measure => simp [intOf]; omega
    · have : k = s := by omega
      subst this
      go_wp2
      go_ret
      exact ⟨rfl, hb⟩

theorem ba_get (l : List UInt8) (j : Nat) (u : UInt8) (h : l[j]? = some u) : ∀ h', (ByteArray.mk l.toArray)[j]'h' = u := by
  intro h'
  obtain ⟨hj, rfl⟩ := List.getElem?_eq_some_iff.1 h
  rfl

/-- a digit of 16; below 0: none -/
def digitF (c : Nat) : Int := if 48 ≤ c ∧ c ≤ 57 then c - 48 else if 97 ≤ c ∧ c ≤ 102 then c - 87 else if 65 ≤ c ∧ c ≤ 70 then c - 55 else -1

set_option maxHeartbeats 400000 in
theorem digit_any (c : Int) (w : World) (h0 : 0 ≤ c) (h1 : c ≤ 255) :
    Calls Try.prog 25 #[.int .u8 c] w fun e w' => e = .returned (.int .i64 (digitF c.toNat)) ∧ w = w' := by
  by_cases a1 : 48 ≤ c <;> by_cases a2 : c ≤ 57 <;> by_cases a3 : 97 ≤ c <;> by_cases a4 : c ≤ 102 <;> by_cases a5 : 65 ≤ c <;> by_cases a6 : c ≤ 70
  all_goals first
    | (exfalso; omega)
    | (go_enter Try.func25, Try.ntmps25
       go_wp2_with fail
       go_ret
       exact ⟨ret_int (by unfold digitF; split <;> (try split) <;> (try split) <;> omega), rfl⟩)

/-- the digits of L tell the bytes of R -/
def Tells (L R : List UInt8) : Prop := L.length = 2 * R.length ∧ ∀ k, k < R.length → 0 ≤ digitF (L.getD (2 * k) 0).toNat ∧ 0 ≤ digitF (L.getD (2 * k + 1) 0).toNat ∧ 16 * digitF (L.getD (2 * k) 0).toNat + digitF (L.getD (2 * k + 1) 0).toNat = ((R.getD k 0).toNat : Int)
instance (L R : List UInt8) : Decidable (Tells L R) := by unfold Tells; infer_instance
theorem digitF_le (c : Nat) : digitF c ≤ 15 := by unfold digitF; split <;> (try split) <;> (try split) <;> omega

set_option maxHeartbeats 400000 in
theorem unhex_any (L R : List UInt8) (w : World) (h : Tells L R) (hl : L.length ≤ 1000000) :
    Calls Try.prog 18 #[str L] w fun e w' => e = .returned (.tuple #[str R, .bool true]) ∧ Below w.heap.size w w' := by
  obtain ⟨hlen, hd⟩ := h
  have HD := Lib.hid hd
  have hlen' : 2 * R.length = L.length := hlen.symm
  have HL := Lib.hid hlen
  clear hlen hd hlen'
  go_enter Try.func18, Try.ntmps18
  go_wp2_with fail
  go_loopw [4, 5] (fun t j wr => ∃ k : Nat, k ≤ R.length ∧ j = .int .i64 (2 * k : Nat) ∧ t = str (R.take k) ∧ Below w.heap.size w wr) (fun _ j _ => L.length - (intOf j).toNat)
  case atStart => exact ⟨0, Nat.zero_le _, rfl, rfl, Below.refl _ _⟩
  case round =>
    obtain ⟨k, hk, rfl, rfl, hb⟩ := hrel
    by_cases hlt : k < R.length
    · have hlen := HL.out
      obtain ⟨u, hu⟩ := get_ex L (k := 2 * k) (by omega)
      obtain ⟨v, hv⟩ := get_ex L (k := 2 * k + 1) (by omega)
      obtain ⟨x, hx⟩ := get_ex R hlt
      obtain ⟨d1, d2, d3⟩ := HD.out k hlt
      simp only [List.getD_eq_getElem?_getD, hu, hv, hx, Option.getD_some] at d1 d2 d3
      have hub := byte_le u
      have hvb := byte_le v
      have hxb := byte_le x
      have hl1 := digitF_le u.toNat
      have hl2 := digitF_le v.toNat
      have HU := Lib.hid (ba_get L _ u hu)
      have HV := Lib.hid (ba_get L _ v hv)
      have HS := Lib.hid (take_snoc R k x hx)
      have hne : ((2 * (k : Int)) + 1 == (L.length : Int)) = false := by rw [beq_eq_false_iff_ne]; omega
      have htl : (R.take k).length ≤ 1000000 := by rw [List.length_take]; omega
      clear hu hv hx hlen
      generalize hq1 : digitF u.toNat = q1 at d1 d3 hl1
      generalize hq2 : digitF v.toNat = q2 at d2 d3 hl2
      have H1 := Lib.hid hq1
      have H2 := Lib.hid hq2
      have H3 := Lib.hid d3
      have e1 : 0 ≤ 16 * q1 + q2 := by omega
      have e2 : 16 * q1 + q2 ≤ 255 := by omega
      clear hq1 hq2 d3
      have hi1 : 2 * k < L.length := by have := HL.out; omega
      have hi2 : 2 * k + 1 < L.length := by have := HL.out; omega
      go_wp2_with fail
      rw [HU.out]
      refine (digit_any _ _ hub.1 hub.2).mono ?_
      rintro e w1 ⟨rfl, rfl⟩
      rw [Int.toNat_natCast, H1.out]
      go_wp2_with fail
      rw [HV.out]
      refine (digit_any _ _ hvb.1 hvb.2).mono ?_
      rintro e w1 ⟨rfl, rfl⟩
      rw [Int.toNat_natCast, H2.out]
      have H4 := fun W : World => row_lit (e := 5) W #[.int .u8 (16 * q1 + q2)] [x] 1 (by simp [bv, H3.out]) rfl
      have H5 := Lib.hid H4
      clear H4
      go_wp2_with (refine wpList_str rfl _ 22 9 5 rfl Try.underlying22 Try.underlying5 Try.underlying9 _ _ _ _ [x] rfl (H5.out _) ?_)
      go_roundw
      case rel =>
        refine ⟨k + 1, by omega, by go_num, ?_, hb.alloc hb.size _⟩
        rw [HS.out]
        exact str_cat _ _
      case measure => simp [intOf]; omega
    · have : k = R.length := by omega
      subst this
      have hge : (L.length : Int) ≤ 2 * (R.length : Int) := by have := HL.out; omega
      rw [List.take_length]
      go_wp2_with fail
      go_ret2
      exact ⟨rfl, hb⟩

end Go.Proofs.Ytjacgpankndigaa

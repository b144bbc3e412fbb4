/- What the small functions of the program's and the reference's IPv4 compute, and what reading bytes as a header comes to. No condition but sizes. -/
import Derived.Test.YtimkgkokidhhpaaHead4
import Derived.Test.YtimkgkokidhhpaaSum
import Derived.Test.YtimkgkokidhhpaaRef02
import Derived.Test.YtimkgkokidhhpaaConcat
import Derived.Laws.BitsAllLaws
namespace Go.Proofs.Ytimkgkokidhhpaa
open Go.RowKit
set_option linter.unusedVariables false
set_option maxRecDepth 20000
set_option linter.unusedSimpArgs false

set_option maxHeartbeats 1000000 in
theorem num4_any (i : Nat) (A : Option Addr) (n c : Nat) (l : List UInt8) (w : World) (h : Row w w.heap.size 1 A n (bv l)) (hc : n ≤ c) (hcm : c ≤ maxLen) (hn : n ≤ 1099511627776) (hle : i + 2 ≤ n) :
    Calls Try.prog 54 #[.slice A n c, .int .i64 i] w fun e w' => e = .returned (.int .i64 (numF l i 2 : Nat)) ∧ Below w.heap.size w w' := by
  have hbd : numF l i 2 < 256 ^ 2 := numF_bd l i 2
  have G := get_yes A n c l i 2 w h hc hcm hn (by omega) (by omega) (by omega) (by omega)
  simp only [Int.toNat_natCast] at G
  change Calls _ _ _ _ (fun e w' => e = .returned (.tuple #[.int .u64 (numF l i 2 : Nat), .bool true]) ∧ _) at G
  generalize numF l i 2 = m at G hbd ⊢
  have HG := Lib.hid G
  clear G h
  go_enter Try.func54, Try.ntmps54
  go_wp2_with fail
  refine HG.out.mono ?_
  rintro e w1 ⟨rfl, hb1⟩
  go_wp2_with fail
  go_ret
  exact ⟨rfl, hb1⟩

theorem rnum4_any (i s : Nat) (l : List UInt8) (w : World) (hn : l.length ≤ 1099511627776) (h1 : 1 ≤ s) (h4 : s ≤ 4) (hle : i + s ≤ l.length) :
    Calls Try.prog 58 #[str l, .int .i64 i, .int .i64 s] w fun e w' => e = .returned (.int .i64 (numF l i s : Nat)) ∧ w = w' := by
  have hbd : numF l i s < 256 ^ 4 := Nat.lt_of_lt_of_le (numF_bd l i s) (Nat.pow_le_pow_right (by omega) h4)
  have G := rget_yes l i s w hn (by omega) (by omega) (by omega) (by omega)
  simp only [Int.toNat_natCast] at G
  change Calls _ _ _ _ (fun e w' => e = .returned (.tuple #[.int .u64 (numF l i s : Nat), .bool true]) ∧ _) at G
  generalize numF l i s = m at G hbd ⊢
  have HG := Lib.hid G
  clear G
  go_enter Try.func58, Try.ntmps58
  go_wp2_with fail
  refine HG.out.mono ?_
  rintro e w1 ⟨rfl, rfl⟩
  go_wp2_with fail
  go_ret
  exact ⟨rfl, rfl⟩

set_option maxHeartbeats 1000000 in
theorem size4_any (h : H4) (hk : h.ok) (w : World) (hm : h.opt.length ≤ 1099511627776) :
    Calls Try.prog 79 #[.agg h.cells.toArray] w fun e w' => e = .returned (.int .i64 (20 + h.opt.length)) ∧ Below w.heap.size w w' := by
  have HO := Lib.hid (h.get_opt hk)
  go_enter Try.func79, Try.ntmps79
  go_wp2_with (refine wpList_box_blk rfl 42 _ rfl h.cells rfl ?_; intro w1 hb1 hB1 hs1; have c16 : w1.cell? ⟨w.heap.size, 16, none⟩ = some (str h.opt) := (hb1.cell 16).trans HO.out)
  go_ret
  exact ⟨rfl, hB1⟩

set_option maxHeartbeats 1000000 in
theorem size4_wrap (h : H4) (hk : h.ok) (w : World) :
    Calls Try.prog 79 #[.agg h.cells.toArray] w fun e w' => e = .returned (.int .i64 (wrap64 (20 + h.opt.length))) ∧ Below w.heap.size w w' := by
  have HO := Lib.hid (h.get_opt hk)
  go_enter Try.func79, Try.ntmps79
  go_wp2_with (refine wpList_box_blk rfl 42 _ rfl h.cells rfl ?_; intro w1 hb1 hB1 hs1; have c16 : w1.cell? ⟨w.heap.size, 16, none⟩ = some (str h.opt) := (hb1.cell 16).trans HO.out)
  go_ret
  exact ⟨rfl, hB1⟩

set_option maxHeartbeats 1000000 in
theorem rsize4_any (h : H4) (hk : h.ok) (w : World) (hm : h.opt.length ≤ 1099511627776) :
    Calls Try.prog 52 #[.agg h.cells.toArray] w fun e w' => e = .returned (.int .i64 (20 + h.opt.length)) ∧ Below w.heap.size w w' := by
  have HO := Lib.hid (h.get_opt hk)
  go_enter Try.func52, Try.ntmps52
  go_wp2_with (refine wpList_box_blk rfl 42 _ rfl h.cells rfl ?_; intro w1 hb1 hB1 hs1; have c16 : w1.cell? ⟨w.heap.size, 16, none⟩ = some (str h.opt) := (hb1.cell 16).trans HO.out)
  go_ret
  exact ⟨rfl, hB1⟩

set_option maxHeartbeats 1000000 in
theorem text4_any (l : List UInt8) (w : World) (hl : l.length = 4) :
    Calls Try.prog 53 #[.agg (bv l).toArray] w fun e w' => e = .returned (str l) ∧ Below w.heap.size w w' := by
  obtain ⟨a, b, c, d, rfl⟩ := list4 l hl
  clear hl
  go_enter Try.func53, Try.ntmps53
  go_wp2_with (first
    | (refine wpList_box_blk rfl 37 _ rfl (bv [a, b, c, d]) rfl ?_; intro w1 hb1 hB1 hs1; have c0 : w1.cell? ⟨w.heap.size, 0, none⟩ = some (.int .u8 (a.toNat : Int)) := hb1.cell 0; have c1 : w1.cell? ⟨w.heap.size, 1, none⟩ = some (.int .u8 (b.toNat : Int)) := hb1.cell 1; have c2 : w1.cell? ⟨w.heap.size, 2, none⟩ = some (.int .u8 (c.toNat : Int)) := hb1.cell 2; have c3 : w1.cell? ⟨w.heap.size, 3, none⟩ = some (.int .u8 (d.toNat : Int)) := hb1.cell 3)
    | (refine wpList_str rfl _ 22 9 5 rfl Try.underlying22 Try.underlying5 Try.underlying9 _ _ _ _ [a, b, c, d] rfl (row_litN w1 _ [a, b, c, d] 4 _ (by simp [bv]) rfl hs1) ?_))
  go_ret
  exact ⟨rfl, hB1.alloc hB1.size _⟩

/-- numbers of two bytes, one behind the other -/
def twos (xs : List Int) : List UInt8 := xs.flatMap fun x => toBe 2 x.toNat
theorem twos_snoc (xs : List Int) (x : Int) : twos (xs ++ [x]) = twos xs ++ toBe 2 x.toNat := by simp [twos]
theorem twos_length (xs : List Int) : (twos xs).length = 2 * xs.length := by
  induction xs with
  | nil => rfl
  | cons x xs ih =>
    have h1 : twos (x :: xs) = toBe 2 x.toNat ++ twos xs := rfl
    rw [h1, List.length_append, ih, toBe_length, List.length_cons]
    omega
theorem toBe2 (x : Nat) (h : x ≤ 65535) : toBe 2 x = [UInt8.ofNat (x / 256), UInt8.ofNat (x % 256)] := by
  have e : x / 256 % 256 = x / 256 := Nat.mod_eq_of_lt (by omega)
  simp [toBe, e]
theorem two_bytes (x : Int) (h0 : 0 ≤ x) (h1 : x ≤ 65535) : [Value.int .u8 (x / 256), .int .u8 (x % 256)] = bv (toBe 2 x.toNat) := by
  obtain ⟨m, rfl⟩ := Int.eq_ofNat_of_zero_le h0
  rw [Int.toNat_natCast, toBe2 m (by omega)]
  simp only [bv, List.map_cons, List.map_nil]
  have e1 : ((UInt8.ofNat (m / 256)).toNat : Int) = (m : Int) / 256 := by rw [UInt8.toNat_ofNat', Nat.mod_eq_of_lt (by omega)]; omega
  have e2 : ((UInt8.ofNat (m % 256)).toNat : Int) = (m : Int) % 256 := by rw [UInt8.toNat_ofNat', Nat.mod_eq_of_lt (by omega)]; omega
  rw [e1, e2]

theorem i64_and_nat (a b : Nat) (ha : a < 9223372036854775808) (hb : b < 9223372036854775808) : bits .and .i64 (a : Int) (b : Int) = ((a &&& b : Nat) : Int) := by
  have h1 : (BitVec.ofInt 64 (a : Int)).toNat = a := by rw [BitVec.toNat_ofInt]; omega
  have h2 : (BitVec.ofInt 64 (b : Int)).toNat = b := by rw [BitVec.toNat_ofInt]; omega
  have h3 : a &&& b ≤ a := Nat.and_le_left
  show IntKind.i64.wrap ((BitVec.ofInt 64 (a : Int) &&& BitVec.ofInt 64 (b : Int)).toNat : Nat) = _
  rw [BitVec.toNat_and, h1, h2, IntKind.wrap_i64]
  omega
theorem i64_or_nat (a b : Nat) (ha : a < 4294967296) (hb : b < 4294967296) : bits .or .i64 (a : Int) (b : Int) = ((a ||| b : Nat) : Int) := by
  have h1 : (BitVec.ofInt 64 (a : Int)).toNat = a := by rw [BitVec.toNat_ofInt]; omega
  have h2 : (BitVec.ofInt 64 (b : Int)).toNat = b := by rw [BitVec.toNat_ofInt]; omega
  have h3 : a ||| b < 2 ^ 32 := Nat.or_lt_two_pow (by omega) (by omega)
  show IntKind.i64.wrap ((BitVec.ofInt 64 (a : Int) ||| BitVec.ofInt 64 (b : Int)).toNat : Nat) = _
  rw [BitVec.toNat_or, h1, h2, IntKind.wrap_i64]
  omega
theorem i64_bit (F i : Nat) (hF : F < 65536) (hi : i < 16) : bits .and .i64 (F : Int) ((2 ^ i : Nat) : Int) = ((F / 2 ^ i % 2 * 2 ^ i : Nat) : Int) := by
  have h2 : 2 ^ i < 2 ^ 16 := Nat.pow_lt_pow_right (by omega) hi
  rw [i64_and_nat F (2 ^ i) (by omega) (by omega)]
  congr 1
  apply Nat.eq_of_testBit_eq
  intro j
  rw [Nat.testBit_and, Nat.testBit_two_pow]
  by_cases hj : i = j
  · subst hj
    rw [Nat.testBit_eq_decide_div_mod_eq]
    rcases Nat.mod_two_eq_zero_or_one (F / 2 ^ i) with h | h <;> simp [h]
  · rcases Nat.mod_two_eq_zero_or_one (F / 2 ^ i) with h | h
    · simp [h, hj]
    · simp [h, hj, Nat.testBit_two_pow]
theorem keep4 (F : Nat) (hF : F < 65536) : (bits .and .i64 (F : Int) 16384 != 0) = decide (F / 16384 % 2 = 1) := by
  have h := i64_bit F 14 hF (by omega)
  have h' : bits .and .i64 (F : Int) 16384 = ((F / 16384 % 2 * 16384 : Nat) : Int) := h
  rw [h']
  rcases Nat.mod_two_eq_zero_or_one (F / 16384) with h | h <;> simp [h]
theorem more4 (F : Nat) (hF : F < 65536) : (bits .and .i64 (F : Int) 8192 != 0) = decide (F / 8192 % 2 = 1) := by
  have h := i64_bit F 13 hF (by omega)
  have h' : bits .and .i64 (F : Int) 8192 = ((F / 8192 % 2 * 8192 : Nat) : Int) := h
  rw [h']
  rcases Nat.mod_two_eq_zero_or_one (F / 8192) with h | h <;> simp [h]
theorem off4 (F : Nat) (hF : F < 65536) : bits .and .i64 (F : Int) 8191 = ((F % 8192 : Nat) : Int) := by
  have h := i64_and_nat F 8191 (by omega) (by omega)
  rw [show (8191 : Nat) = 2 ^ 13 - 1 from rfl, Nat.and_two_pow_sub_one_eq_mod] at h
  exact h
theorem low4 (u : Nat) (h : u < 256) : bits .and .u8 (u : Int) 15 = ((u % 16 : Nat) : Int) := by
  have := u8_and_nat u 15 h (by omega)
  rw [nat_mask4] at this
  exact this

/-- how long the header is, by its first byte -/
def size4n (l : List UInt8) : Nat := (l.getD 0 0).toNat % 16 * 4
/-- the header that bytes begin with, and its error -/
def par4 (l : List UInt8) : H4 × Int :=
  if l.length < 20 then (H4.zero, 10) else
  if (l.getD 0 0).toNat / 16 ≠ 4 then (H4.zero, 12) else
  if size4n l < 20 ∨ numF l 2 2 < size4n l ∨ l.length < numF l 2 2 then (H4.zero, 13) else
  if rawN (l.take (size4n l)) ≠ 65535 then (H4.zero, 14) else
  (⟨((l.getD 1 0).toNat : Nat), (numF l 2 2 : Nat), (numF l 4 2 : Nat), decide (numF l 6 2 / 16384 % 2 = 1), decide (numF l 6 2 / 8192 % 2 = 1), (numF l 6 2 % 8192 : Nat), ((l.getD 8 0).toNat : Nat), ((l.getD 9 0).toNat : Nat), (l.drop 12).take 4, (l.drop 16).take 4, (l.take (size4n l)).drop 20⟩, 0)
theorem par4_ok (l : List UInt8) : (par4 l).1.ok := by
  unfold par4
  repeat' split
  · exact H4.zero_ok
  · exact H4.zero_ok
  · exact H4.zero_ok
  · exact H4.zero_ok
  · rename_i h1 h2 h3 h4
    exact ⟨by simp; omega, by simp; omega⟩
end Go.Proofs.Ytimkgkokidhhpaa

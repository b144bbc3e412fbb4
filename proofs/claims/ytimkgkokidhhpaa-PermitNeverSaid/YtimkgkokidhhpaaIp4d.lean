/- What the program's Put of IPv4 computes. No condition but sizes. -/
import Derived.Test.YtimkgkokidhhpaaIp4c
namespace Go.Proofs.Ytimkgkokidhhpaa
open Go.RowKit
set_option linter.unusedVariables false
set_option maxRecDepth 20000
set_option linter.unusedSimpArgs false

/-- a header's numbers are those of its fields' kinds -/
structure H4.fit (h : H4) : Prop where
  ok : h.ok
  tos : 0 ≤ h.tos ∧ h.tos ≤ 255
  len : -9223372036854775808 ≤ h.len ∧ h.len ≤ 9223372036854775807
  id : 0 ≤ h.id ∧ h.id ≤ 65535
  off : -9223372036854775808 ≤ h.off ∧ h.off ≤ 9223372036854775807
  ttl : 0 ≤ h.ttl ∧ h.ttl ≤ 255
  pro : 0 ≤ h.pro ∧ h.pro ≤ 255
  opt : h.opt.length ≤ 9223372036854775807
/-- a header may not be put -/
def H4.bad (h : H4) : Prop := 40 < h.opt.length ∨ h.opt.length % 4 ≠ 0 ∨ h.off < 0 ∨ 8192 ≤ h.off
instance (h : H4) : Decidable h.bad := by unfold H4.bad; infer_instance
def flag4 (h : H4) : Int := h.off + (if h.keep then 16384 else 0) + (if h.more then 8192 else 0)
def word0 (h : H4) : Int := (64 + ((20 + h.opt.length : Nat) : Int) / 4) * 256 + h.tos
def word4 (h : H4) : Int := h.ttl * 256 + h.pro
/-- the header's bytes ahead of the checksum, and behind it -/
def hdA (h : H4) (all : Nat) : List UInt8 := twos [word0 h, (all : Int), h.id, flag4 h, word4 h]
def bk4 (h : H4) : List UInt8 := h.src ++ h.dst ++ h.opt
def sumC (h : H4) (all : Nat) : Nat := 65535 - rawN (hdA h all ++ bk4 h)
/-- a packet's header, and a packet -/
def head4 (h : H4) (all : Nat) : List UInt8 := hdA h all ++ toBe 2 (sumC h all) ++ bk4 h
def pkt4 (h : H4) (l : List UInt8) : List UInt8 := head4 h (20 + h.opt.length + l.length) ++ l
def put4 (h : H4) (l : List UInt8) : List UInt8 × Int :=
  if h.bad then ([], 1) else if 65535 < 20 + h.opt.length + l.length then ([], 13) else (pkt4 h l, 0)
theorem hdA_length (h : H4) (all : Nat) : (hdA h all).length = 10 := twos_length _
theorem bk4_length (h : H4) (hk : h.ok) : (bk4 h).length = 8 + h.opt.length := by simp only [bk4, List.length_append, hk.src, hk.dst]
theorem head4_length (h : H4) (hk : h.ok) (all : Nat) : (head4 h all).length = 20 + h.opt.length := by
  simp only [head4, List.length_append, hdA_length, toBe_length, bk4_length h hk]; omega
theorem pkt4_length (h : H4) (hk : h.ok) (l : List UInt8) : (pkt4 h l).length = 20 + h.opt.length + l.length := by
  simp only [pkt4, List.length_append, head4_length h hk]
theorem raw_mid (X Y : List UInt8) (hX : X.length % 2 = 0) : rawN (X ++ [0, 0] ++ Y) = rawN (X ++ Y) := by
  unfold rawN
  rw [sumB_append, sumB_append, sumB_append, sumB_zeros]
  unfold oddB
  simp [hX]

theorem head4_cut (X T Y : List UInt8) (hX : X.length = 10) : (X ++ [0, 0] ++ Y).take 10 ++ T ++ (X ++ [0, 0] ++ Y).drop (10 + 2) = X ++ T ++ Y := by
  rw [List.append_assoc X, List.take_left' hX, ← List.drop_drop, List.drop_left' hX]
  rfl
theorem or_64 (q : Int) (h0 : 0 ≤ q) (h1 : q ≤ 63) : bits .or .i64 64 q = 64 + q := by
  obtain ⟨q, rfl⟩ := Int.eq_ofNat_of_zero_le h0
  have := i64_or_nat 64 q (by omega) (by omega)
  rw [nat_join 6 64 q (by omega) (by omega)] at this
  rw [show (64 : Int) = ((64 : Nat) : Int) from rfl, this]
  omega
theorem or_byte (a b : Int) (h0 : 0 ≤ a) (h1 : a ≤ 65535) (h2 : 0 ≤ b) (h3 : b ≤ 255) : bits .or .i64 (a * 256) b = a * 256 + b := by
  obtain ⟨a, rfl⟩ := Int.eq_ofNat_of_zero_le h0
  obtain ⟨b, rfl⟩ := Int.eq_ofNat_of_zero_le h2
  have := i64_or_nat (a * 256) b (by omega) (by omega)
  rw [nat_join 8 _ _ (by omega) (by omega)] at this
  rw [show (a : Int) * 256 = ((a * 256 : Nat) : Int) by omega, this]
  omega
theorem or_keep (q : Int) (h0 : 0 ≤ q) (h1 : q < 8192) : bits .or .i64 q 16384 = q + 16384 := by
  obtain ⟨q, rfl⟩ := Int.eq_ofNat_of_zero_le h0
  have := i64_or_nat q 16384 (by omega) (by omega)
  rw [Nat.or_comm, nat_join 14 16384 q (by omega) (by omega)] at this
  rw [show (16384 : Int) = ((16384 : Nat) : Int) from rfl, this]
  omega
theorem or_more (q : Int) (h0 : 0 ≤ q) (h1 : q < 8192) : bits .or .i64 q 8192 = q + 8192 := by
  obtain ⟨q, rfl⟩ := Int.eq_ofNat_of_zero_le h0
  have := i64_or_nat q 8192 (by omega) (by omega)
  rw [Nat.or_comm, nat_join 13 8192 q (by omega) (by omega)] at this
  rw [show (8192 : Int) = ((8192 : Nat) : Int) from rfl, this]
  omega
theorem or_both (q : Int) (h0 : 0 ≤ q) (h1 : q < 8192) : bits .or .i64 (q + 16384) 8192 = q + 16384 + 8192 := by
  obtain ⟨q, rfl⟩ := Int.eq_ofNat_of_zero_le h0
  have h := i64_or_nat (q + 16384) 8192 (by omega) (by omega)
  have e : (q + 16384) ||| 8192 = q + 16384 + 8192 := by
    have h1 := nat_join 14 16384 q (by omega) (by omega)
    have h2 := nat_join 13 8192 q (by omega) (by omega)
    rw [show q + 16384 = 16384 + q by omega, ← h1, Nat.or_assoc, Nat.or_comm q 8192, h2, nat_join 14 16384 (8192 + q) (by omega) (by omega)]
    omega
  rw [e] at h
  rw [show ((q : Int) + 16384) = ((q + 16384 : Nat) : Int) by omega, show (8192 : Int) = ((8192 : Nat) : Int) from rfl, h]
  omega
/- What the program's and the reference's Put of IPv6 compute. No condition but sizes. -/
import Derived.Test.YtimkgkokidhhpaaIp6b
namespace Go.Proofs.Ytimkgkokidhhpaa
open Go.RowKit
set_option linter.unusedVariables false
set_option maxRecDepth 20000
set_option linter.unusedSimpArgs false

/-- a header's numbers are those of its fields' kinds -/
structure H6.fit (h : H6) : Prop where
  ok : h.ok
  cls : 0 ≤ h.cls ∧ h.cls ≤ 255
  flow : -9223372036854775808 ≤ h.flow ∧ h.flow ≤ 9223372036854775807
  len : -9223372036854775808 ≤ h.len ∧ h.len ≤ 9223372036854775807
  next : 0 ≤ h.next ∧ h.next ≤ 255
  ttl : 0 ≤ h.ttl ∧ h.ttl ≤ 255
/-- the front of a header -/
def front6 (h : H6) (n : Nat) : List UInt8 := toBe 4 (1610612736 + h.cls * 1048576 + h.flow).toNat ++ toBe 2 n ++ [ub h.next, ub h.ttl]
/-- a packet, and its error -/
def put6 (h : H6) (l : List UInt8) : List UInt8 × Int :=
  if h.flow < 0 ∨ 1048576 ≤ h.flow then ([], 1) else if 65495 < l.length then ([], 13) else (front6 h l.length ++ h.src ++ h.dst ++ l, 0)

theorem or6 (c f : Int) (c0 : 0 ≤ c) (c1 : c ≤ 255) (f0 : 0 ≤ f) (f1 : f < 1048576) :
    bits .or .u64 1610612736 (c * 1048576) = 1610612736 + c * 1048576 ∧ bits .or .u64 (1610612736 + c * 1048576) f = 1610612736 + c * 1048576 + f := by
  obtain ⟨c, rfl⟩ := Int.eq_ofNat_of_zero_le c0
  obtain ⟨f, rfl⟩ := Int.eq_ofNat_of_zero_le f0
  refine ⟨?_, ?_⟩
  · rw [show (1610612736 : Int) = ((6 * 268435456 : Nat) : Int) by omega, show ((c : Int) * 1048576) = ((c * 1048576 : Nat) : Int) by omega, u64_or_nat _ _ (by omega) (by omega), nat_join 28 _ _ (by omega) (by omega)]
    omega
  · rw [show (1610612736 + (c : Int) * 1048576) = (((1536 + c) * 1048576 : Nat) : Int) by omega, u64_or_nat _ _ (by omega) (by omega), nat_join 20 _ _ (by omega) (by omega)]
    omega
theorem make8 (W : World) : (Instr.makeSlice 22 (.int .i64 8) (.int .i64 8)).run Try.prog W = .ok (.slice (some ⟨W.heap.size, 0, none⟩) 8 8) (W.alloc (.cells (bv [0, 0, 0, 0, 0, 0, 0, 0]).toArray 5)) := by kernel_rfl

theorem set2_bv (l : List UInt8) (x y : Int) (h : l.length = 8) (x0 : 0 ≤ x) (x1 : x ≤ 255) (y0 : 0 ≤ y) (y1 : y ≤ 255) : ((bv l).set 6 (.int .u8 x)).set 7 (.int .u8 y) = bv (l.take 6 ++ [ub x, ub y]) := by
  rw [set_bv l 6 x x0 x1 (by omega), set_bv _ 7 y y0 y1 (by simp; omega)]
  congr 1
  have h7 : (l.take 6 ++ UInt8.ofNat x.toNat :: l.drop 7) = l.take 6 ++ [UInt8.ofNat x.toNat] ++ l.drop 7 := by simp
  rw [h7, List.take_left' (by simp; omega), List.drop_of_length_le (by simp; omega)]
  simp [ub]
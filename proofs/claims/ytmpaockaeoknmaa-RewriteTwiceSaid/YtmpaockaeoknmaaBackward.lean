/- slices.Backward over numbers: what its iterator hands to a loop's body, in the last one's order. No condition but sizes. -/
import Derived.Test.YtmpaockaeoknmaaOpen
import Derived.RangeFuncNested
import Derived.RangeFuncBound
import Derived.RangeFuncCalls
import Derived.RangeFuncLeaves
import Derived.RangeFuncBox
import Derived.Shelf.Abstract
import Derived.Shelf.RegionOpen
import Derived.OwnWalkIn
import Derived.TacticsInMore
import Derived.LoopNIn
import Derived.LoopIn
import Derived.Maps.AppendAt
namespace Go.Proofs.Ytmpaockaeoknmaa
open Go.RowKit Go.Shelf
set_option linter.unusedVariables false
set_option maxRecDepth 20000

attribute [local go_sem] Oper.semAt_some

/-- the pairs that come, the last one first -/
def back (l : List Int) : List (Nat × Int) := (List.range l.length).map fun j => (l.length - 1 - j, l[l.length - 1 - j]?.getD 0)
theorem back_length (l : List Int) : (back l).length = l.length := by simp [back]
theorem back_take (l : List Int) (k : Nat) (h : k < l.length) (x : Int) (hx : l[l.length - 1 - k]? = some x) : (back l).take (k + 1) = (back l).take k ++ [(l.length - 1 - k, x)] := by
  apply take_snoc
  simp [back, h, hx]

/-- what a round must keep: what lay below n₀, and the iterator's own box -/
def Keeps1 (n₀ Bx : Nat) (W W' : World) : Prop := Below n₀ W W' ∧ W'.cell? ⟨Bx, 0, none⟩ = W.cell? ⟨Bx, 0, none⟩
theorem Keeps1.refl (n₀ Bx : Nat) (W : World) : Keeps1 n₀ Bx W W := ⟨Below.refl _ _, rfl⟩
theorem Keeps1.trans {n₀ Bx : Nat} {A B C : World} (h : Keeps1 n₀ Bx A B) (k : Keeps1 n₀ Bx B C) : Keeps1 n₀ Bx A C := ⟨h.1.trans k.1, k.2.trans h.2⟩
theorem keeps1_b {n₀ Bx : Nat} {w : World} (h0 : n₀ ≤ w.heap.size) (hB : Bx < w.heap.size) : ∀ (W : World) (l : Nat) (o o' : Obj), w.heap.size ≤ l → W.heap[l]? = some o → o.isCells = false → o.isWalk = false → Keeps1 n₀ Bx W (W.putObj l o') := by
  intro W l o o' hl ho hc hw
  have hg := grownBy_putObj' W l o'
  refine ⟨belowK_b (w := w) h0 W l o o' hl ho hc hw, ?_⟩
  by_cases hlt : Bx < W.heap.size
  · exact World.cell?_of_block (a := ⟨Bx, 0, none⟩) (hg.block Bx hlt (by intro e; injection e; omega))
  · have := (Array.getElem?_eq_some_iff.1 ho).1
    omega

set_option maxRecDepth 100000 in
set_option maxHeartbeats 2000000 in
theorem backward1_in (F : Fence) (n : Nat) (h7 : F.fn 46) (hro : F.round = none) (hn : 1 ≤ n) (l Bx n₀ : Nat) (A : Option Addr) (len cap : Nat) (zs : List Int) (hlen : len ≤ 1099511627776) (hz : zs.length = len) (J Jx : List (Nat × Int) → World → Prop)
    (hY : ∀ pre x W, J pre W → pre.length < len → YieldAt F (n - 1) Try.prog l #[.int .i64 (x.1 : Int), .int .i64 x.2] W fun e W' =>
      (e = .returned (.bool true) ∧ J (pre ++ [x]) W' ∧ Keeps1 n₀ Bx W W') ∨ (e = .returned (.bool false) ∧ Jx (pre ++ [x]) W'))
    (W : World) (hB : W.cell? ⟨Bx, 0, none⟩ = some (.slice A len cap)) (hr : Row W n₀ 1 A len (nv .i64 zs)) (h0 : J [] W) :
    CallsIn F n Try.prog 46 #[.func (.yield l) #[] #[], .pointer (some ⟨Bx, 0, none⟩)] W fun e W' => (∃ v, e = .returned v) ∧
      ((∃ ys, ys = back zs ∧ J ys W') ∨ (∃ pre, (∃ k, k ≤ len ∧ pre = (back zs).take k) ∧ Jx pre W')) := by
  refine callsIn_of_wp Try.func46 rfl h7 ?_ hro
  simp only [Try.ntmps46, List.size_toArray, List.length_cons, List.length_nil, Nat.reduceAdd, Nat.reduceSub, Array.replicate_succ, Array.replicate_zero, List.push_toArray, List.append_toArray, List.nil_append, List.cons_append]
  have HZ := Lib.hid hz
  clear hz
  gi_wp2
  gi_loopw [3] (fun i wr => ∃ k : Nat, k ≤ len ∧ i = .int .i64 ((len : Int) - 1 - k) ∧ J ((back zs).take k) wr ∧ Keeps1 n₀ Bx W wr)
    (fun i _ => ((intOf i) + 1).toNat)
  case atStart => exact ⟨0, Nat.zero_le _, by simp, by simpa using h0, Keeps1.refl _ _ _⟩
  case round =>
    obtain ⟨k, hk, rfl, hJs, hnx⟩ := hrel
    have hBx := hnx.2.trans hB
    by_cases hlt : k < len
    · obtain ⟨b, o, rfl, hbB, hcell⟩ := hr.2 (by omega)
      have hz := HZ.out
      obtain ⟨x, hx⟩ := get_ex zs (k := len - 1 - k) (by omega)
      have hcx := (hnx.1.cell (p := ⟨b, o + (len - 1 - k), none⟩) hbB).trans (hcell _ _ (nv_get .i64 zs _ x hx))
      have HS := Lib.hid (back_take zs k (by omega) x (by rw [hz]; exact hx))
      obtain ⟨fn, tmps, assign, body, hy, hR⟩ := hY _ (len - 1 - k, x) wr hJs (by rw [List.length_take, back_length]; omega)
      dsimp only at hy
      have he : ((len - 1 - k : Nat) : Int) = (len : Int) - 1 - (k : Int) := by omega
      rw [he] at hy
      clear hz hx hcell he
      gi_wp2
      refine hR.mono ?_
      rintro e W3 (⟨rfl, hJ3, hk3⟩ | ⟨rfl, hJx3⟩)
      · gi_wp2
        go_roundw
        case rel =>
          refine ⟨k + 1, by omega, ?_, by rw [HS.out, HZ.out]; exact hJ3, hnx.trans hk3⟩
          simp only [Value.int.injEq, true_and]
          omega
        case measure => simp only [intOf]; omega
      · gi_wp2
        refine bodyPost_ret (results_none rfl _ _ _) rfl ?_
        exact ⟨⟨_, rfl⟩, .inr ⟨_, ⟨k + 1, by omega, by rw [HS.out, HZ.out]⟩, hJx3⟩⟩
    · obtain rfl : k = len := by omega
      have HT : (back zs).take k = back zs := List.take_of_length_le (by rw [back_length, HZ.out]; exact Nat.le_refl _)
      rw [HT] at hJs
      clear HT
      gi_wp2
      go_end0
      exact ⟨⟨_, rfl⟩, .inl ⟨_, rfl, hJs⟩⟩

set_option maxHeartbeats 1000000 in
theorem backward_in (F : Fence) (n : Nat) (h5 : F.fn 40) (hro : F.round = none) (a : Option Addr) (len cap : Nat) (w : World) :
    CallsIn F n Try.prog 40 #[.slice a len cap] w fun e w' => e = .returned (.func (.func 46) #[] #[.pointer (some ⟨w.heap.size, 0, none⟩)]) ∧ w' = w.alloc (.cells #[.slice a len cap] 23) := by
  refine callsIn_of_wp Try.func40 rfl h5 ?_ hro
  simp only [Try.ntmps40, List.size_toArray, List.length_cons, List.length_nil, Nat.reduceAdd, Nat.reduceSub, Array.replicate_succ, Array.replicate_zero, List.push_toArray, List.append_toArray, List.nil_append, List.cons_append]
  gi_wp2
  go_ret
  exact ⟨rfl, rfl⟩

theorem backward_stops (F : Fence) (n : Nat) (h7 : F.fn 46) (hro : F.round = none) (hn : 1 ≤ n) (Bx n₀ : Nat) (A : Option Addr) (len cap : Nat) (zs : List Int) (hlen : len ≤ 1099511627776) (hz : zs.length = len) (w : World) (hBx : Bx < w.heap.size) (hn₀ : n₀ ≤ w.heap.size)
    (hc : w.cell? ⟨Bx, 0, none⟩ = some (.slice A len cap)) (hr : Row w n₀ 1 A len (nv .i64 zs)) :
    SeqStopsK F n Try.prog 46 #[.pointer (some ⟨Bx, 0, none⟩)] (fun x : Nat × Int => #[Value.int .i64 (x.1 : Int), Value.int .i64 x.2]) (Keeps1 n₀ Bx) (fun ys => ys = back zs)
      (fun pre => ∃ k, k ≤ len ∧ pre = (back zs).take k) len w := fun l J Jx W hW _ _ hY h0 =>
  backward1_in F n h7 hro hn l Bx n₀ A len cap zs hlen hz J Jx hY W ((hW.cell (p := ⟨Bx, 0, none⟩) hBx).trans hc) (hr.below (hW.mono hn₀)) h0
end Go.Proofs.Ytmpaockaeoknmaa

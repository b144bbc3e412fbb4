/- entry.each: what its iterator hands to a loop's body. No condition but sizes. -/
import Derived.Test.YtfcnohhcgbebdaaRangeC
namespace Go.Proofs.Ytfcnohhcgbebdaa
open Go.RowKit Go.Shelf
set_option linter.unusedVariables false

attribute [local go_sem] Oper.semAt_some

/-- what a round must keep: what lay below n₀, and the iterator's own box -/
def Keeps1 (n₀ Bx : Nat) (W W' : World) : Prop := Below n₀ W W' ∧ W'.heap[Bx]? = W.heap[Bx]?
theorem Keeps1.refl (n₀ Bx : Nat) (W : World) : Keeps1 n₀ Bx W W := ⟨Below.refl _ _, rfl⟩
theorem Keeps1.trans {n₀ Bx : Nat} {A B C : World} (h : Keeps1 n₀ Bx A B) (k : Keeps1 n₀ Bx B C) : Keeps1 n₀ Bx A C := ⟨h.1.trans k.1, k.2.trans h.2⟩
theorem keeps1_b {n₀ Bx : Nat} {w : World} (h0 : n₀ ≤ w.heap.size) (hB : Bx < w.heap.size) : ∀ (W : World) (l : Nat) (o o' : Obj), w.heap.size ≤ l → W.heap[l]? = some o → o.isCells = false → o.isWalk = false → Keeps1 n₀ Bx W (W.putObj l o') := by
  intro W l o o' hl ho hc hw
  have hg := grownBy_putObj' W l o'
  refine ⟨belowK_b (w := w) h0 W l o o' hl ho hc hw, ?_⟩
  have := (Array.getElem?_eq_some_iff.1 ho).1
  exact hg.block Bx (by omega) (by intro e; injection e; omega)

/-- how far the iterator's own variable still goes -/
def leftOf (Bx : Nat) (W : World) : Nat := match W.cell? ⟨Bx, 0, none⟩ with | some (.slice _ n _) => n | _ => 0
theorem leftOf_eq {Bx : Nat} {W : World} {A : Option Addr} {m c : Nat} (h : W.cell? ⟨Bx, 0, none⟩ = some (.slice A m c)) : leftOf Bx W = m := by unfold leftOf; rw [h]

/-- an entry with its error, as the loop's body gets it -/
abbrev Told := Ent × Int
def tells (x : Told) : Array Value := #[.agg #[.int .i64 x.1.label, .int .u8 x.1.cls, .bool x.1.bot, .int .u8 x.1.ttl], .int .i64 x.2]
/-- the k-th that comes -/
def toldAt (l : List UInt8) (k : Nat) : Told := (entAt l k, unpN (l.drop (4 * k)))
def tolds (l : List UInt8) (k : Nat) : List Told := (List.range k).map (toldAt l)
theorem tolds_succ (l : List UInt8) (k : Nat) : tolds l (k + 1) = tolds l k ++ [toldAt l k] := by simp [tolds, List.range_succ]

set_option maxHeartbeats 1000000 in
theorem each_any (a : Option Addr) (len cap : Nat) (w : World) :
    Calls Try.prog 24 #[.slice a len cap] w fun e w' => e = .returned (.func (.func 30) #[] #[.pointer (some ⟨w.heap.size, 0, none⟩)]) ∧ w' = w.alloc (.cells #[.slice a len cap] 24) := by
  go_enter Try.func24, Try.ntmps24
  go_wp2
  go_ret
  exact ⟨rfl, rfl⟩

set_option maxRecDepth 100000 in
set_option maxHeartbeats 2000000 in
theorem each1_in (l Bx n₀ : Nat) (A : Option Addr) (len cap : Nat) (zs : List UInt8) (hlen : len ≤ 1099511627776) (hlc : len ≤ cap) (hcm : cap ≤ maxLen) (n : Nat) (hn : 2 ≤ n) (J Jx : List Told → World → Prop)
    (hJ : Lets Bx J) (hg : ∀ s W, J s W → ∀ x ∈ s, x.2 = 0)
    (hY : ∀ pre x W, J pre W → YieldAt Fence.wide (n - 1) Try.prog l (tells x) W fun e W' =>
      (e = .returned (.bool true) ∧ J (pre ++ [x]) W' ∧ Keeps1 n₀ Bx W W') ∨ (e = .returned (.bool false) ∧ Jx (pre ++ [x]) W'))
    (W : World) (hB : W.heap[Bx]? = some (.cells #[.slice A len cap] 24 (0, 0))) (hBn : n₀ ≤ Bx) (hr : Row W n₀ 1 A len (bv zs)) (h0 : J [] W) :
    CallsIn Fence.wide n Try.prog 30 #[.func (.yield l) #[] #[], .pointer (some ⟨Bx, 0, none⟩)] W fun e W' => (∃ v, e = .returned v) ∧ ∃ pre, (∃ k, pre = tolds zs (k + 1)) ∧ Jx pre W' := by
  refine callsIn_of_wp Try.func30 rfl trivial ?_ rfl
  simp only [Try.ntmps30, List.size_toArray, List.length_cons, List.length_nil, Nat.reduceAdd, Nat.reduceSub, Array.replicate_succ, Array.replicate_zero, List.push_toArray, List.append_toArray, List.nil_append, List.cons_append]
  gi_wp2
  have hn1 : 1 ≤ n := by omega
  have hz : zs.length = len := by have := hr.1; rw [bv_length] at this; omega
  gi_loopw [3] (fun _ wr => ∃ (k : Nat) (A' : Option Addr) (c' : Nat), 4 * k ≤ len ∧ J (tolds zs k) wr ∧ wr.heap[Bx]? = some (.cells #[.slice A' (len - 4 * k) c'] 24 (0, 0)) ∧ Row wr n₀ 1 A' (len - 4 * k) (bv (zs.drop (4 * k))) ∧ len - 4 * k ≤ c' ∧ c' ≤ maxLen)
    (fun _ wr => leftOf Bx wr)
  case atStart => exact ⟨0, A, cap, by omega, h0, hB, hr, by omega, hcm⟩
  case round =>
    obtain ⟨k, A', c', hk, hJs, hbx, hrow, hle, hcm'⟩ := hrel
    have hlt := heap_lt hbx
    have hn0 : n₀ ≤ wr.heap.size := by omega
    have hc0 := cell_at hbx 0
    have hf0 := frozen_at hbx 0
    have HX := Lib.hid hbx
    have HR := Lib.hid hrow
    have HU := Lib.hid (unpack_any A' (len - 4 * k) c' (zs.drop (4 * k)) wr (hrow.more hn0) hle hcm' (by omega))
    clear hbx hrow
    gi_wp2_with (refine ⟨trivial, ?_⟩; gi_at_call 11; refine (callsIn_wide.2 HU.out).mono ?_; rintro e w1 ⟨rfl, hb1⟩; obtain ⟨fn, tmps, assign, body, hy, hR⟩ := hY (tolds zs k) (toldAt zs k) w1 (hJ.below _ _ _ hJs hb1); dsimp only [tells, toldAt, entAt] at hy)
    refine hR.mono ?_
    rintro e W3 (⟨rfl, hJ3, hk3⟩ | ⟨rfl, hJx3⟩)
    · have h4 : 4 ≤ len - 4 * k := by
        have h0 := hg _ _ hJ3 (toldAt zs k) (by simp)
        simp only [toldAt, unpN] at h0
        split at h0
        · omega
        · rw [List.length_drop, hz] at *
          omega
      have hbx3 := hk3.2.trans ((hb1.block Bx hlt).trans HX.out)
      have hc3 := cell_at hbx3 0
      have hf3 := frozen_at hbx3 0
      have HX3 := Lib.hid hbx3
      have HR3 := Lib.hid (HR.out.below ((hb1.mono hn0).trans hk3.1))
      have HJ3 := Lib.hid hJ3
      have h4i : (4 : Int) ≤ ((len - 4 * k : Nat) : Int) := by omega
      obtain ⟨m, hm⟩ : ∃ m, len - 4 * k = m := ⟨_, rfl⟩
      rw [hm] at h4 hc3 HX3 HR3 hle h4i
      clear hc0 hf0 hJs hb1 hy hR hJ3 hk3 hbx3
      gi_wp2
      have hadd : (fun x : Addr => x.add (4 * 1)) = fun x : Addr => (⟨x.block, x.off + 4, none⟩ : Addr) := by funext x; simp [Addr.add]
      have hcut := HR3.out.cut (k := 4) (cap := c') h4 hle
      rw [hadd] at hcut
      generalize (if c' = 4 then A' else Option.map (fun x : Addr => (⟨x.block, x.off + 4, none⟩ : Addr)) A') = A2 at hcut ⊢
      have hset : (W3.setCell ⟨Bx, 0, none⟩ (.slice A2 (m - 4) (c' - 4))).heap[Bx]? = some (.cells #[.slice A2 (m - 4) (c' - 4)] 24 (0, 0)) := by
        have := heap_set HX3.out 0 (.slice A2 (m - 4) (c' - 4))
        simpa using this
      have hsetB : Below n₀ W3 (W3.setCell ⟨Bx, 0, none⟩ (.slice A2 (m - 4) (c' - 4))) := (Below.refl n₀ W3).setCell (p := ⟨Bx, 0, none⟩) hBn _
      have hm2 : len - 4 * (k + 1) = m - 4 := by omega
      refine ⟨⟨k + 1, A2, c' - 4, by omega, ?_, by rw [hm2]; exact hset, ?_, by omega, by omega⟩, ?_⟩
      · rw [tolds_succ]
        exact hJ.set _ _ _ HJ3.out
      · rw [hm2]
        have := hcut.below hsetB
        rw [show (bv (zs.drop (4 * k))).drop (4 * 1) = bv (zs.drop (4 * (k + 1))) from by simp only [bv, ← List.map_drop, List.drop_drop]; rfl] at this
        exact this
      · rw [leftOf_eq (cell_at hset 0), leftOf_eq (cell_at HX.out 0)]
        omega
    · gi_wp2
      refine bodyPost_end (results_none rfl _ _ _) rfl ?_
      exact ⟨⟨_, rfl⟩, _, ⟨k, (tolds_succ zs k).symm⟩, hJx3⟩

theorem each1_ends (Bx n₀ : Nat) (A : Option Addr) (len cap : Nat) (zs : List UInt8) (hlen : len ≤ 1099511627776) (hlc : len ≤ cap) (hcm : cap ≤ maxLen) (n : Nat) (hn : 2 ≤ n) (w : World) (hBx : Bx < w.heap.size)
    (hB : w.heap[Bx]? = some (.cells #[.slice A len cap] 24 (0, 0))) (hBn : n₀ ≤ Bx) (hr : Row w n₀ 1 A len (bv zs)) :
    Ends Fence.wide n Try.prog 30 #[.pointer (some ⟨Bx, 0, none⟩)] tells (Keeps1 n₀ Bx) (fun x => x.2 = 0) (fun pre => ∃ k, pre = tolds zs (k + 1)) Bx w := fun l J Jx W hW hJ hg hY h0 =>
  each1_in l Bx n₀ A len cap zs hlen hlc hcm n hn J Jx hJ hg hY W ((hW.block Bx hBx).trans hB) hBn (hr.below (hW.mono (by omega))) h0

theorem stackF_step (l : List UInt8) (k : Nat) (hk : k < 16) : stackF l (16 - k) k = if (l.drop (4 * k)).length < 4 then ([], 0, 10) else if (entAt l k).bot then (outs l (k + 1), 4 * (k + 1), 0) else stackF l (16 - (k + 1)) (k + 1) := by
  rw [show 16 - k = (16 - (k + 1)) + 1 by omega]
  rfl
theorem stackF_go (l : List UInt8) (k : Nat) (hk : k ≤ 16) (h : ∀ x ∈ tolds l k, x.2 = 0 ∧ x.1.bot = false) : stackF l 16 0 = stackF l (16 - k) k := by
  induction k with
  | zero => rfl
  | succ k ih =>
    rw [ih (by omega) (fun x hx => h x (by rw [tolds_succ]; simp [hx])), stackF_step l k (by omega)]
    obtain ⟨h1, h2⟩ := h (toldAt l k) (by rw [tolds_succ]; simp)
    have h3 : ¬ (l.drop (4 * k)).length < 4 := by
      intro hs
      simp only [toldAt, unpN, if_pos hs] at h1
      omega
    have h4 : (entAt l k).bot = false := h2
    rw [if_neg h3, h4]
    rfl
theorem tolds_length (l : List UInt8) (k : Nat) : (tolds l k).length = k := by simp [tolds]
theorem tolds_fst (l : List UInt8) (k : Nat) : (tolds l k).map (·.1) = outs l k := by simp [tolds, outs, toldAt, Function.comp_def]
end Go.Proofs.Ytfcnohhcgbebdaa

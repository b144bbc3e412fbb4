/- Texts of this claim put together, in build order: each one's own remark stands ahead of it. -/
import Derived.Test.YtbcjkjmjljfhpaaDoorG15
/- What ext.Told (layer 22) calls: its closure, slices.IndexFunc, slices.Chunk. No condition but sizes. -/
namespace Go.Proofs.YtbcjkjmjljfhpaaDoor
open Go.RowKit Go.Shelf
set_option linter.unusedVariables false
set_option maxRecDepth 20000
set_option linter.unusedSimpArgs false

attribute [local go_sem] Oper.semAt_some

/-- is an object a label stack? -/
def Ob.lab (x : Ob) : Bool := x.cls == 1 && x.kind == 1
set_option maxHeartbeats 1000000 in
theorem told1_any (x : Xo) (w : World) : Calls Tryd.prog 54 #[.agg x.cells.toArray] w fun e w' => e = .returned (.bool x.ob.lab) ∧ Below w.heap.size w w' := by
  obtain ⟨cl, kd, A, n, c, bd⟩ := x
  show Calls Tryd.prog 54 #[.agg #[.int .u8 cl, .int .u8 kd, .slice A n c]] w fun e w' => e = .returned (.bool (cl == 1 && kd == 1)) ∧ Below w.heap.size w w'
  by_cases h1 : cl = 1
  · subst h1
    by_cases h2 : kd = 1
    · subst h2
      go_enter Tryd.func54, Tryd.ntmps54
      go_wp2
      go_ret
      exact ⟨rfl, alloc_below _ _⟩
    · have e2 : (kd == 1) = false := by simp [h2]
      go_enter Tryd.func54, Tryd.ntmps54
      go_wp2
      go_ret
      exact ⟨by simp [h2], alloc_below _ _⟩
  · have e1 : (cl == 1) = false := by simp [h1]
    go_enter Tryd.func54, Tryd.ntmps54
    go_wp2
    go_ret
    exact ⟨by simp [h1], alloc_below _ _⟩

set_option maxHeartbeats 2000000 in
theorem index_no (A : Option Addr) (n c : Nat) (l : List Xo) (w : World) (hr : Row w w.heap.size 3 A n (xos l)) (hn : n ≤ 1000000000) (hno : ∀ (k : Nat) (x : Xo), k < n → l[k]? = some x → x.ob.lab = false) :
    Calls Tryd.prog 53 #[.slice A n c, .func (.func 54) #[] #[]] w fun e w' => e = .returned (.int .i64 (-1)) ∧ Below w.heap.size w w' := by
  have hlen := xo_len hr
  have HR := Lib.hid hr
  have HL := Lib.hid hlen
  have HN := Lib.hid hno
  clear hr hlen hno
  go_enter Tryd.func53, Tryd.ntmps53
  go_wp2_with fail
  go_loopw [8] (fun i wr => ∃ k : Nat, k ≤ n ∧ i = .int .i64 (k : Nat) ∧ Below w.heap.size w wr) (fun i _ => n - (intOf i).toNat)
  case atStart => exact ⟨0, by omega, rfl, Below.refl _ _⟩
  case round =>
    obtain ⟨k, hk, rfl, hB⟩ := hrel
    have HB := Lib.hid hB
    clear hB
    by_cases hlt : k < n
    · obtain ⟨x, hx⟩ : ∃ x, l[k]? = some x := ⟨_, List.getElem?_eq_getElem (by rw [HL.out]; omega)⟩
      obtain ⟨b, o, rfl, hb, a0, a1, a2⟩ := xo_row (HR.out.below HB.out) k x hx
      have hf := HN.out k x hlt hx
      have HT := Lib.hid (fun W => told1_any x W)
      have hkn : (k : Int) < (n : Int) := by omega
      clear hx
      go_wp2_with fail
      refine (HT.out _).mono ?_
      rintro e w2 ⟨rfl, hb2⟩
      rw [hf]
      have HB2 := Lib.hid (bthen HB.out hb2)
      clear a0 a1 a2 hf hb2
      go_wp2_with fail
      go_roundw
      case rel => exact ⟨k + 1, by omega, by simp, HB2.out⟩
      case measure => simp [intOf]; omega
    · have hge : ¬ (k : Int) < (n : Int) := by omega
      go_wp2_with fail
      go_ret
      exact ⟨rfl, HB.out⟩

set_option maxHeartbeats 2000000 in
theorem index_yes (A : Option Addr) (n c : Nat) (l : List Xo) (w : World) (hr : Row w w.heap.size 3 A n (xos l)) (hn : n ≤ 1000000000) (m : Nat) (x : Xo) (hx : l[m]? = some x) (hy : x.ob.lab = true) (hno : ∀ (k : Nat) (x : Xo), k < m → l[k]? = some x → x.ob.lab = false) :
    Calls Tryd.prog 53 #[.slice A n c, .func (.func 54) #[] #[]] w fun e w' => e = .returned (.int .i64 (m : Int)) ∧ Below w.heap.size w w' := by
  have hlen := xo_len hr
  have HR := Lib.hid hr
  have HL := Lib.hid hlen
  have HN := Lib.hid hno
  have hmn : m < n := by have := (List.getElem?_eq_some_iff.1 hx).1; omega
  have HX := Lib.hid hx
  have HY := Lib.hid hy
  clear hx hy
  clear hr hlen hno
  go_enter Tryd.func53, Tryd.ntmps53
  go_wp2_with fail
  go_loopw [8] (fun i wr => ∃ k : Nat, k ≤ m ∧ i = .int .i64 (k : Nat) ∧ Below w.heap.size w wr) (fun i _ => n - (intOf i).toNat)
  case atStart => exact ⟨0, by omega, rfl, Below.refl _ _⟩
  case round =>
    obtain ⟨k, hk, rfl, hB⟩ := hrel
    have HB := Lib.hid hB
    clear hB
    by_cases hlt : k < m
    · obtain ⟨x, hx⟩ : ∃ x, l[k]? = some x := ⟨_, List.getElem?_eq_getElem (by rw [HL.out]; omega)⟩
      obtain ⟨b, o, rfl, hb, a0, a1, a2⟩ := xo_row (HR.out.below HB.out) k x hx
      have hf := HN.out k x hlt hx
      have HT := Lib.hid (fun W => told1_any x W)
      have hkn : (k : Int) < (n : Int) := by omega
      clear hx
      go_wp2_with fail
      refine (HT.out _).mono ?_
      rintro e w2 ⟨rfl, hb2⟩
      rw [hf]
      have HB2 := Lib.hid (bthen HB.out hb2)
      clear a0 a1 a2 hf hb2
      go_wp2_with fail
      go_roundw
      case rel => exact ⟨k + 1, by omega, by simp, HB2.out⟩
      case measure => simp [intOf]; omega
    · obtain rfl : k = m := by omega
      obtain ⟨b, o, rfl, hb, a0, a1, a2⟩ := xo_row (HR.out.below HB.out) k x HX.out
      have HT := Lib.hid (fun W => told1_any x W)
      have hkn : (k : Int) < (n : Int) := by omega
      go_wp2_with fail
      refine (HT.out _).mono ?_
      rintro e w2 ⟨rfl, hb2⟩
      rw [HY.out]
      have HB2 := Lib.hid (bthen HB.out hb2)
      clear a0 a1 a2 hb2
      go_wp2_with fail
      go_ret
      exact ⟨rfl, HB2.out⟩

set_option maxHeartbeats 1000000 in
theorem chunk_any (A : Option Addr) (len cap : Nat) (w : World) :
    Calls Tryd.prog 55 #[.slice A len cap, .int .i64 4] w fun e w' => e = .returned (.func (.func 69) #[] #[.pointer (some ⟨w.heap.size, 0, none⟩), .pointer (some ⟨w.heap.size + 1, 0, none⟩)]) ∧ w' = (w.alloc (.cells #[.slice A len cap] 22)).alloc (.cells #[.int .i64 4] 3) := by
  go_enter Tryd.func55, Tryd.ntmps55
  go_wp2
  go_ret
  exact ⟨rfl, rfl⟩

abbrev Tc := Option Addr × List UInt8
def tellsC (x : Tc) : Array Value := #[.slice x.1 4 4]
def okC (n₀ len : Nat) (zs : List UInt8) (pre : List Tc) (x : Tc) (W : World) : Prop := 4 * pre.length + 4 ≤ len ∧ x.2 = (zs.drop (4 * pre.length)).take 4 ∧ Row W n₀ 1 x.1 4 (bv x.2)
def Keeps2 (n₀ Bx : Nat) (W W' : World) : Prop := Below n₀ W W' ∧ W'.heap[Bx]? = W.heap[Bx]? ∧ W'.heap[Bx + 1]? = W.heap[Bx + 1]?
theorem Keeps2.trans {n₀ Bx : Nat} {A B C : World} (h : Keeps2 n₀ Bx A B) (k : Keeps2 n₀ Bx B C) : Keeps2 n₀ Bx A C := ⟨h.1.trans k.1, k.2.1.trans h.2.1, k.2.2.trans h.2.2⟩
theorem keeps2_b {n₀ Bx : Nat} {w : World} (h0 : n₀ ≤ w.heap.size) (hB : Bx + 1 < w.heap.size) : ∀ (W : World) (l : Nat) (o o' : Obj), w.heap.size ≤ l → W.heap[l]? = some o → o.isCells = false → o.isWalk = false → Keeps2 n₀ Bx W (W.putObj l o') := by
  intro W l o o' hl ho hc hw
  have hg := grownBy_putObj' W l o'
  have := (Array.getElem?_eq_some_iff.1 ho).1
  exact ⟨belowK_b (w := w) h0 W l o o' hl ho hc hw, hg.block Bx (by omega) (by intro e; injection e; omega), hg.block (Bx + 1) (by omega) (by intro e; injection e; omega)⟩

set_option maxRecDepth 100000 in
set_option maxHeartbeats 8000000 in
theorem chunk1_in (l Bx n₀ : Nat) (A : Option Addr) (len cap : Nat) (zs : List UInt8) (hlen : len ≤ 1000000000) (hlc : len ≤ cap) (hcm : cap ≤ maxLen) (hmod : len % 4 = 0) (n : Nat) (hn : 2 ≤ n) (J Jx : List Tc → World → Prop)
    (hJ : Lets Bx J)
    (hY : ∀ pre x W, J pre W → okC n₀ len zs pre x W → YieldAt Fence.wide (n - 1) Tryd.prog l (tellsC x) W fun e W' =>
      (e = .returned (.bool true) ∧ J (pre ++ [x]) W' ∧ Keeps2 n₀ Bx W W') ∨ (e = .returned (.bool false) ∧ Jx (pre ++ [x]) W'))
    (W : World) (hB : W.heap[Bx]? = some (.cells #[.slice A len cap] 22 (0, 0))) (hB2 : W.heap[Bx + 1]? = some (.cells #[.int .i64 4] 3 (0, 0))) (hBn : n₀ ≤ Bx) (hr : Row W n₀ 1 A len (bv zs)) (h0 : J [] W) :
    CallsIn Fence.wide n Tryd.prog 69 #[.func (.yield l) #[] #[], .pointer (some ⟨Bx, 0, none⟩), .pointer (some ⟨Bx + 1, 0, none⟩)] W fun e W' => (∃ v, e = .returned v) ∧ ((∃ xs, 4 * xs.length = len ∧ J xs W') ∨ ∃ pre, pre ≠ [] ∧ Jx pre W') := by
  refine callsIn_of_wp Tryd.func69 rfl trivial ?_ rfl
  simp only [Tryd.ntmps69, List.size_toArray, List.length_cons, List.length_nil, Nat.reduceAdd, Nat.reduceSub, Array.replicate_succ, Array.replicate_zero, List.push_toArray, List.append_toArray, List.nil_append, List.cons_append]
  gi_wp2
  have hn1 : 1 ≤ n := by omega
  have hz : zs.length = len := by have := hr.1; rw [bv_length] at this; omega
  have HZ := Lib.hid hz
  have HMD := Lib.hid hmod
  clear hz hmod
  gi_loopw [4] (fun i wr => ∃ (pre : List Tc) (k : Nat), i = .int .i64 (k : Nat) ∧ k = 4 * pre.length ∧ k ≤ len ∧ J pre wr ∧ wr.heap[Bx]? = some (.cells #[.slice A len cap] 22 (0, 0)) ∧ wr.heap[Bx + 1]? = some (.cells #[.int .i64 4] 3 (0, 0)) ∧ Row wr n₀ 1 A len (bv zs))
    (fun i wr => len - (intOf i).toNat)
  case atStart => exact ⟨[], 0, rfl, rfl, by omega, h0, hB, hB2, hr⟩
  case round =>
    obtain ⟨pre, k, rfl, hk4, hkl, hJs, hbx, hbx2, hrow⟩ := hrel
    have hlt := heap_lt hbx
    have hlt2 := heap_lt hbx2
    have hc0 := cell_at hbx 0
    have hf0 := frozen_at hbx 0
    have hc1 := cell_at hbx2 0
    have hf1 := frozen_at hbx2 0
    have HX := Lib.hid hbx
    have HX2 := Lib.hid hbx2
    have HR := Lib.hid hrow
    have HK4 := Lib.hid hk4
    clear hbx hbx2 hrow hk4
    by_cases hklt : k < len
    · have hk4' := HK4.out
      have hmd' := HMD.out
      have hkr : k + 4 ≤ len := by omega
      have hki : (k : Int) < (len : Int) := by omega
      obtain ⟨b, o, rfl, hbB, hcell⟩ := HR.out.cells (by omega)
      have hmin : (4 : Int) ≤ ((len - k : Nat) : Int) := by omega
      clear hcell hk4' hmd'
      gi_wp2_with fail
      refine wpIn_wide.2 ?_
      refine wp_region_rel (fun A B => A.grownBy B none) (fun A => grown_refl A _) (fun A B C h k => grown_trans h k) (relAt (List.cons (fun v _ => v = .int .i64 4) (List.cons (fun v _ => v = .slice (some ⟨b, o, none⟩) len cap) (List.cons (fun v _ => v = .int .i64 (k : Int)) (List.cons (fun v _ => ∃ X, v = .slice X (len - k) (cap - k)) (List.cons (fun v _ => v = .int .i64 ((len - k : Nat) : Int)) (List.cons (fun v _ => v = .int .i64 4) (List.cons (fun v _ => v = .int .i64 4) ([]))))))))) (MonoL.at_ (.cons (mono_val _) (.cons (mono_val _) (.cons (mono_val _) (.cons (fun _ _ _ h _ => h) (.cons (mono_val _) (.cons (mono_val _) (.cons (mono_val _) .nil)))))))) (by kernel_rfl) (by kernel_rfl) ⟨?_, ?_, ?_, ?_, ?_, ?_, ?_, trivial⟩ ?_
      · intro a vs W hX hR he hf K hK
        rw [if_pos (wanted_none rfl)]
        have e2 : a.eval (.tmp 2) = .pointer (some ⟨Bx + 1, 0, none⟩) := hf 2 (by kernel_rfl)
        have hbW := bthen (below_drew _) (grow_below hX)
        have hc : W.cell? ⟨Bx + 1, 0, none⟩ = some (.int .i64 4) := (hbW.cell (p := ⟨Bx + 1, 0, none⟩) hlt2).trans hc1
        refine wp_value (v := _) ?_ (hK _ _ rfl (grown_refl W _))
        simp only [execOp, e2]
        go_simp
      · intro a vs W hX hR he hf K hK
        rw [if_pos (wanted_none rfl)]
        have e1 : a.eval (.tmp 1) = .pointer (some ⟨Bx, 0, none⟩) := hf 1 (by kernel_rfl)
        have hbW := bthen (below_drew _) (grow_below hX)
        have hc : W.cell? ⟨Bx, 0, none⟩ = some (.slice (some ⟨b, o, none⟩) len cap) := (hbW.cell (p := ⟨Bx, 0, none⟩) hlt).trans hc0
        refine wp_value (v := _) ?_ (hK _ _ rfl (grown_refl W _))
        simp only [execOp, e1]
        go_simp
      · intro a vs W hX hR he hf K hK
        rw [if_pos (wanted_none rfl)]
        have e4 : a.eval (.tmp 4) = .int .i64 (k : Int) := hf 4 (by kernel_rfl)
        refine wp_value (v := .int .i64 (k : Int)) ?_ (hK _ _ rfl (grown_refl W _))
        simp only [execOp, e4]
        try go_simp
        try (first | rfl | omega | (simp only [IntKind.wrap_i64, IntKind.wrap_u8, IntKind.wrap_u64, IntKind.wrap_u16, IntKind.wrap_u32]; omega) | (rw [Int.tmod_eq_emod_of_nonneg (by omega)]) | (rw [Int.tmod_eq_emod_of_nonneg (by omega)]; omega))
      · intro a vs W hX hR he hf K hK
        rw [if_pos (wanted_none rfl)]
        have e14 : a.eval (.tmp 14) = .slice (some ⟨b, o, none⟩) len cap := (he 1 14 (by kernel_rfl) rfl).trans (hR 1 (by kernel_rfl))
        have e15 : a.eval (.tmp 15) = .int .i64 (k : Int) := (he 2 15 (by kernel_rfl) rfl).trans (hR 2 (by kernel_rfl))
        have f14 := e14
        simp only [Act.eval, Array.getD_eq_getD_getElem?] at f14
        have f15 := e15
        simp only [Act.eval, Array.getD_eq_getD_getElem?] at f15
        have hck : (k : Int) ≤ (cap : Int) := by omega
        refine wp_value (v := .slice (if cap = k then some ⟨b, o, none⟩ else some ⟨b, o + k, none⟩) (len - k) (cap - k)) ?_ (hK _ _ ⟨_, rfl⟩ (grown_refl W _))
        simp only [execOp, e14, e15]
        go_simp
      · intro a vs W hX hR he hf K hK
        rw [if_pos (wanted_none rfl)]
        have e16 := he 3 16 (by kernel_rfl) rfl
        have p16 := hR 3 (by kernel_rfl)
        change (fun v _ => ∃ X, v = .slice X (len - k) (cap - k)) (vs 3) W at p16
        have f16 := e16
        simp only [Act.eval, Array.getD_eq_getD_getElem?] at f16
        obtain ⟨X, hv⟩ := p16
        rw [hv] at e16 f16
        refine wp_value (v := .int .i64 ((len - k : Nat) : Int)) ?_ (hK _ _ rfl (grown_refl W _))
        simp only [execOp, e16]
        go_simp
      · intro a vs W hX hR he hf K hK
        rw [if_pos (wanted_none rfl)]
        have e13 : a.eval (.tmp 13) = .int .i64 4 := (he 0 13 (by kernel_rfl) rfl).trans (hR 0 (by kernel_rfl))
        have e17 : a.eval (.tmp 17) = .int .i64 ((len - k : Nat) : Int) := (he 4 17 (by kernel_rfl) rfl).trans (hR 4 (by kernel_rfl))
        have f13 := e13
        simp only [Act.eval, Array.getD_eq_getD_getElem?] at f13
        have f17 := e17
        simp only [Act.eval, Array.getD_eq_getD_getElem?] at f17
        refine wp_value (v := .int .i64 4) ?_ (hK _ _ rfl (grown_refl W _))
        simp only [execOp, e13, e17, f13, f17]
        go_simp
        intro h9
        omega
      · intro a vs W hX hR he hf K hK
        rw [if_pos (wanted_none rfl)]
        have e18 : a.eval (.tmp 18) = .int .i64 4 := (he 5 18 (by kernel_rfl) rfl).trans (hR 5 (by kernel_rfl))
        refine wp_value (v := .int .i64 4) ?_ (hK _ _ rfl (grown_refl W _))
        simp only [execOp, e18]
        try go_simp
        try (first | rfl | omega | (simp only [IntKind.wrap_i64, IntKind.wrap_u8, IntKind.wrap_u64, IntKind.wrap_u16, IntKind.wrap_u32]; omega) | (rw [Int.tmod_eq_emod_of_nonneg (by omega)]) | (rw [Int.tmod_eq_emod_of_nonneg (by omega)]; omega))
      · intro vs W2 hX2 hR
        have q0 := hR 0 (by decide)
        have q1 := hR 1 (by decide)
        have q2 := hR 2 (by decide)
        have q3 := hR 3 (by decide)
        have q4 := hR 4 (by decide)
        have q5 := hR 5 (by decide)
        have q6 := hR 6 (by decide)
        change vs 0 = .int .i64 4 at q0
        change vs 1 = .slice (some ⟨b, o, none⟩) len cap at q1
        change vs 2 = .int .i64 (k : Int) at q2
        change (fun v _ => ∃ X, v = .slice X (len - k) (cap - k)) (vs 3) W2 at q3
        change vs 4 = .int .i64 ((len - k : Nat) : Int) at q4
        change vs 5 = .int .i64 4 at q5
        change vs 6 = .int .i64 4 at q6
        simp only [putAll, Act.put, List.setIfInBounds_toArray, List.set_cons_zero, List.set_cons_succ, q0, q1, q2, q4, q5, q6]
        clear q0 q1 q2 q4 q5 q6
        clear hR
        obtain ⟨X, hv⟩ := q3
        rw [hv]
        have hbW := bthen (below_drew _) (grow_below hX2)
        have hbx2 := (hbW.block Bx hlt).trans HX.out
        have hbx3 := (hbW.block (Bx + 1) hlt2).trans HX2.out
        have hn0 : n₀ ≤ wr.heap.size := by omega
        have hJ2 := hJ.below _ _ _ hJs hbW
        have hrow2 := HR.out.below (hbW.mono hn0)
        have hok : okC n₀ len zs pre (some ⟨b, o + k, none⟩, (zs.drop k).take 4) W2 := ⟨by have := HK4.out; omega, by rw [← HK4.out], by
          have := hrow2.sub1 (i := k) (k := 4) (by omega)
          rw [addr_add1] at this
          rw [show bv ((zs.drop k).take 4) = ((bv zs).drop k).take 4 by simp only [bv, ← List.map_take, ← List.map_drop]]
          exact this⟩
        obtain ⟨fn, tmps, assign, bodyC, hy, hR⟩ := hY pre _ W2 hJ2 hok
        dsimp only [tellsC] at hy
        have hd0 := cell_at hbx2 0
        have hd1 := cell_at hbx3 0
        have hkc : (k : Int) + 4 ≤ (cap : Int) := by omega
        have hck : (k : Int) ≤ (cap : Int) := by omega
        have HB2 := Lib.hid hbx2
        have HB3 := Lib.hid hbx3
        have HRW := Lib.hid hrow2
        clear hc0 hf0 hc1 hf1 hJs hbW hX2 hv hok hbx2 hbx3 hJ2 hrow2 hmin
        gi_wp2
        refine hR.mono ?_
        rintro e W3 (⟨rfl, hJ3, hk3⟩ | ⟨rfl, hJx3⟩)
        · have hg2 := hk3.2.1.trans HB2.out
          have hg3 := hk3.2.2.trans HB3.out
          have hq1 := cell_at hg3 0
          have HG2 := Lib.hid hg2
          have HG3 := Lib.hid hg3
          have HR3 := Lib.hid (HRW.out.below hk3.1)
          have HJ3 := Lib.hid hJ3
          clear hg2 hg3 hJ3 hk3 hR hy hd0 hd1
          gi_wp2
          refine ⟨⟨_, k + 4, by simp, ?_, by omega, HJ3.out, HG2.out, HG3.out, HR3.out⟩, ?_⟩
          · have := HK4.out
            simp
            omega
          · simp [intOf]
            omega
        · gi_wp2
          refine bodyPost_ret (results_none rfl _ _ _) rfl ?_
          exact ⟨⟨_, rfl⟩, .inr ⟨_, by simp, hJx3⟩⟩
    · obtain rfl : k = len := by omega
      gi_wp2
      refine bodyPost_end (results_none rfl _ _ _) rfl ?_
      exact ⟨⟨_, rfl⟩, .inl ⟨pre, HK4.out.symm, hJs⟩⟩
theorem chunk1_ends (Bx n₀ : Nat) (A : Option Addr) (len cap : Nat) (zs : List UInt8) (hlen : len ≤ 1000000000) (hlc : len ≤ cap) (hcm : cap ≤ maxLen) (hmod : len % 4 = 0) (n : Nat) (hn : 2 ≤ n) (w : World) (hBx : Bx + 1 < w.heap.size)
    (hB : w.heap[Bx]? = some (.cells #[.slice A len cap] 22 (0, 0))) (hB2 : w.heap[Bx + 1]? = some (.cells #[.int .i64 4] 3 (0, 0))) (hBn : n₀ ≤ Bx) (hr : Row w n₀ 1 A len (bv zs)) :
    EndsD Fence.wide n Tryd.prog 69 #[.pointer (some ⟨Bx, 0, none⟩), .pointer (some ⟨Bx + 1, 0, none⟩)] tellsC (Keeps2 n₀ Bx) (fun _ => True) (okC n₀ len zs) (fun xs => 4 * xs.length = len) (fun pre => pre ≠ []) Bx w := fun l J Jx W hW hJ hg hY h0 =>
  chunk1_in l Bx n₀ A len cap zs hlen hlc hcm hmod n hn J Jx hJ hY W ((hW.block Bx (by omega)).trans hB) ((hW.block (Bx + 1) hBx).trans hB2) hBn (hr.below (hW.mono (by omega))) h0
end Go.Proofs.YtbcjkjmjljfhpaaDoor

/- What ext.Told (layer 22) computes. No condition but sizes. -/
namespace Go.Proofs.YtbcjkjmjljfhpaaDoor
open Go.RowKit Go.Shelf
set_option linter.unusedVariables false
set_option maxRecDepth 20000
set_option linter.unusedSimpArgs false

attribute [local go_sem] Oper.semAt_some

def entAt (l : List UInt8) (k : Nat) : Ent := unpE (l.drop (4 * k))
def outs (l : List UInt8) (k : Nat) : List Ent := (List.range k).map (entAt l)
theorem outs_succ (l : List UInt8) (k : Nat) : outs l (k + 1) = outs l k ++ [entAt l k] := by simp [outs, List.range_succ]
theorem outs_length (l : List UInt8) (k : Nat) : (outs l k).length = k := by simp [outs]
def toldG (zs : List UInt8) : List Ent × Int := if (getG zs).2 ≠ 0 then ([], (getG zs).2) else match (getG zs).1.find? Ob.lab with | none => ([], 31) | some x => if 64 < x.body.length then ([], 51) else (outs x.body (x.body.length / 4), 0)
theorem unpE_take (l : List UInt8) (h : 4 ≤ l.length) : unpE (l.take 4) = unpE l ∧ unpN (l.take 4) = 0 := by
  have h1 : (l.take 4).length = 4 := by rw [List.length_take]; omega
  unfold unpE unpN
  rw [if_neg (by omega), if_neg (by omega), if_neg (by omega), List.take_take]
  exact ⟨rfl, rfl⟩
theorem goG_mod : ∀ (f : Nat) (acc : List Ob) (zs : List UInt8), (∀ x ∈ acc, x.body.length % 4 = 0 ∧ x.body.length ≤ 65536) → ∀ x ∈ (goG f acc zs).1, x.body.length % 4 = 0 ∧ x.body.length ≤ 65536 := by
  intro f
  induction f with
  | zero => exact fun acc zs h => h
  | succ f ih =>
    intro acc zs h
    unfold goG
    split
    · exact h
    · split
      · simp
      · split
        · simp
        · rename_i h0 h4 hb
          refine ih _ _ fun x hx => ?_
          rcases List.mem_append.1 hx with hx | hx
          · exact h x hx
          · obtain rfl := List.mem_singleton.1 hx
            have hk := be_bd (zs.take 2) 2 (by rw [List.length_take]; omega)
            unfold badG at hb
            simp at hb
            unfold obG
            simp only [List.length_drop, List.length_take]
            omega
theorem getG_mod (zs : List UInt8) : ∀ x ∈ (getG zs).1, x.body.length % 4 = 0 ∧ x.body.length ≤ 65536 := by
  unfold getG
  split
  · simp
  · split
    · simp
    · split
      · simp
      · exact goG_mod _ _ _ (by simp)
theorem goG_len : ∀ (f : Nat) (acc : List Ob) (zs : List UInt8), (goG f acc zs).1.length ≤ acc.length + zs.length := by
  intro f
  induction f with
  | zero => intro acc zs; simp [goG]
  | succ f ih =>
    intro acc zs
    unfold goG
    split
    · simp
    · split
      · simp
      · split
        · simp
        · rename_i h0 h4 hb
          refine Nat.le_trans (ih _ _) ?_
          unfold badG at hb
          simp at hb
          simp only [List.length_append, List.length_drop, List.length_cons, List.length_nil]
          omega
theorem getG_len (zs : List UInt8) : (getG zs).1.length ≤ zs.length := by
  unfold getG
  split
  · simp
  · split
    · simp
    · split
      · simp
      · refine Nat.le_trans (goG_len _ _ _) ?_
        simp
theorem find_lab (l : List Xo) : (∃ (m : Nat) (x : Xo), l[m]? = some x ∧ x.ob.lab = true ∧ (∀ (k : Nat) (y : Xo), k < m → l[k]? = some y → y.ob.lab = false) ∧ (l.map Xo.ob).find? Ob.lab = some x.ob) ∨ ((∀ (k : Nat) (y : Xo), l[k]? = some y → y.ob.lab = false) ∧ (l.map Xo.ob).find? Ob.lab = none) := by
  induction l with
  | nil => exact .inr ⟨by simp, rfl⟩
  | cons a l ih =>
    by_cases ha : a.ob.lab = true
    · exact .inl ⟨0, a, rfl, ha, (fun k y h => by omega), by simp [ha]⟩
    · have ha' : a.ob.lab = false := by simpa using ha
      rcases ih with ⟨m, x, h1, h2, h3, h4⟩ | ⟨h1, h2⟩
      · refine .inl ⟨m + 1, x, by simpa using h1, h2, fun k y hk hy => ?_, by simp [ha', h4]⟩
        cases k with
        | zero => simp at hy; subst hy; exact ha'
        | succ k => exact h3 k y (by omega) (by simpa using hy)
      · refine .inr ⟨fun k y hy => ?_, by simp [ha', h2]⟩
        cases k with
        | zero => simp at hy; subst hy; exact ha'
        | succ k => exact h1 k y (by simpa using hy)

structure TlI (w : World) (zs : List UInt8) (pre : List Tc) (W : World) : Prop where
  out : ∃ A c, Boxed W w.heap.size 23 (.slice A pre.length c) ∧ Own W w.heap.size 49 4 A pre.length c (evs (outs zs pre.length))
  bx : ∃ v, Boxed W (w.heap.size + 1) 22 v
  bx2 : ∃ v, Boxed W (w.heap.size + 1 + 1) 3 v
  bel : Below w.heap.size w W
theorem TlI.turn {w : World} {zs : List UInt8} {pre : List Tc} {W W' : World} {row : Option Nat} (h : TlI w zs pre W) (hg : W.grownBy W' row) (hr : ∀ r, row = some r → w.heap.size ≤ r ∧ ∀ cs t, W.heap[r]? = some (.cells cs t (0, 0)) → False) : TlI w zs pre W' := by
  have hb : ∀ {B : Nat} {t : TypeId} {v : Value}, Boxed W B t v → Boxed W' B t v := fun hb => hb.kept hg (fun e => (hr _ e.symm).2 _ _ hb)
  obtain ⟨A, c, ho, hown⟩ := h.out
  obtain ⟨v, hv⟩ := h.bx
  obtain ⟨v2, hv2⟩ := h.bx2
  exact ⟨⟨A, c, hb ho, own_turn hown hg (fun r e => (hr r e).2)⟩, ⟨v, hb hv⟩, ⟨v2, hb hv2⟩, h.bel.grown hg h.bel.size (fun k e => (hr k e).1)⟩
theorem TlI.ownFrom (w : World) (zs : List UInt8) (B : Nat) (hB : w.heap.size ≤ B) : OwnFrom B (TlI w zs) := fun s X Y row hs hg hr =>
  hs.turn hg (fun r e => by
    obtain ⟨h1, o, ho, hc⟩ := hr r e
    refine ⟨by omega, fun cs t h2 => ?_⟩
    rw [ho] at h2
    cases h2
    cases hc)
theorem TlI.below {w : World} {zs : List UInt8} {pre : List Tc} {W W' : World} (h : TlI w zs pre W) (hb : Below W.heap.size W W') : TlI w zs pre W' := by
  have hk : ∀ {B : Nat} {t : TypeId} {v : Value}, Boxed W B t v → Boxed W' B t v := fun hx => (hb.block _ hx.lt).trans hx
  obtain ⟨A, c, ho, hown⟩ := h.out
  obtain ⟨v, hv⟩ := h.bx
  obtain ⟨v2, hv2⟩ := h.bx2
  exact ⟨⟨A, c, hk ho, hown.below hb⟩, ⟨v, hk hv⟩, ⟨v2, hk hv2⟩, h.bel.trans (hb.mono h.bel.size)⟩
theorem TlI.lets (w : World) (zs : List UInt8) : Lets (w.heap.size + 1) (TlI w zs) where
  below s W W' h hb := h.below hb
  set s W u h := by
    obtain ⟨A, c, ho, hown⟩ := h.out
    obtain ⟨v, hv⟩ := h.bx
    obtain ⟨v2, hv2⟩ := h.bx2
    exact ⟨⟨A, c, ho.other (by omega) u, own_box' hown hv (by decide) u⟩, ⟨u, hv.set u⟩, ⟨v2, hv2.other (by omega) u⟩, h.bel.setCell (p := ⟨_, 0, none⟩) (by simp only; omega) u⟩
theorem TlI.pushed {w : World} {zs : List UInt8} {pre : List Tc} {W w3 : World} (h : TlI w zs pre W) (x : Tc) (o : Obj) {Ao A3 : Option Addr} {co c3 B : Nat} (ho : Boxed W w.heap.size 23 (.slice Ao pre.length co))
    (hown : Own W w.heap.size 49 4 Ao pre.length co (evs (outs zs pre.length))) (hown3 : Own w3 w.heap.size 49 4 A3 (pre.length + 1) c3 (evs (outs zs pre.length) ++ (entAt zs pre.length).cells)) (hg : (W.alloc o).grownBy w3 (blk Ao co)) (hB : w.heap.size < B) :
    KeepsFrom B W (w3.setCell ⟨w.heap.size, 0, none⟩ (.slice A3 (pre.length + 1) c3)) ∧ Keeps2 w.heap.size (w.heap.size + 1) W (w3.setCell ⟨w.heap.size, 0, none⟩ (.slice A3 (pre.length + 1) c3)) ∧
      TlI w zs (pre ++ [x]) (w3.setCell ⟨w.heap.size, 0, none⟩ (.slice A3 (pre.length + 1) c3)) := by
  have hob : ∀ (B : Nat) (t : TypeId) (v : Value), Boxed (W.alloc o) B t v → t ≠ 49 → Boxed w3 B t v := fun B t v hb ht => hb.kept hg (not_blk (hown.alloc o) hb ht)
  have b5 := hob _ _ _ (ho.alloc o) (by decide)
  obtain ⟨v, hv⟩ := h.bx
  have bx := hob _ _ _ (hv.alloc o) (by decide)
  obtain ⟨v2, hvb⟩ := h.bx2
  have bx2 := hob _ _ _ (hvb.alloc o) (by decide)
  have hbl : ∀ k, blk Ao co = some k → w.heap.size ≤ k := fun k hk => (hown.lt k hk).1
  have hs := h.bel.size
  have hW : Below w.heap.size W (w3.setCell ⟨w.heap.size, 0, none⟩ (.slice A3 (pre.length + 1) c3)) :=
    (((Below.refl w.heap.size W).alloc hs o).grown hg (by simp; omega) hbl).setCell (p := ⟨w.heap.size, 0, none⟩) (by simp only; omega) _
  have hl : (pre ++ [x]).length = pre.length + 1 := by simp
  refine ⟨((KeepsFrom.of_grownBy (World.grownBy_alloc W o none) (by simp)).trans (own_keepsFrom B (hown.alloc o) hg)).trans (KeepsFrom.of_grownBy (grownBy_setCell' _ _ _) (by rintro j ⟨⟩; exact hB)), ⟨hW, (show _ = _ from (bx.other (by omega) _).trans hv.symm), (show _ = _ from (bx2.other (by omega) _).trans hvb.symm)⟩,
    ⟨A3, c3, by rw [hl]; exact b5.set _, ?_⟩, ⟨v, bx.other (by omega) _⟩, ⟨v2, bx2.other (by omega) _⟩, h.bel.trans hW⟩
  rw [hl, outs_succ, evs_append, show evs [entAt zs pre.length] = (entAt zs pre.length).cells by simp [evs]]
  exact own_box' hown3 b5 (by decide) _

set_option maxHeartbeats 1000000 in
theorem told22_bad (A : Option Addr) (len cap : Nat) (zs : List UInt8) (w : World) (hr : Row w w.heap.size 1 A len (bv zs)) (hlc : len ≤ cap) (hcm : cap ≤ maxLen) (hmax : len ≤ 1000000000) (hbad : (getG zs).2 ≠ 0) :
    Calls Tryd.prog 32 #[.slice A len cap] w fun e w' => e = .returned (.tuple #[.slice none 0 0, .int .i64 (getG zs).2]) ∧ Below w.heap.size w w' := by
  have HG := Lib.hid (get22_any A len cap zs w hr hlc hcm hmax)
  obtain ⟨q, hq⟩ : ∃ q, (getG zs).2 = q := ⟨_, rfl⟩
  rw [hq] at HG hbad ⊢
  have hb' : (q != 0) = true := by simpa using hbad
  have hb2 : (q == 0) = false := by simpa using hbad
  clear hr hq hbad
  go_enter Tryd.func32, Tryd.ntmps32
  go_wp2_with fail
  refine HG.out.mono ?_
  rintro e w1 ⟨l, A', c', rfl, _, _, _, hb⟩
  have HB := Lib.hid hb
  clear hb
  go_wp2_with fail
  go_ret2
  exact ⟨rfl, HB.out⟩

set_option maxHeartbeats 1000000 in
theorem told22_none (A : Option Addr) (len cap : Nat) (zs : List UInt8) (w : World) (hr : Row w w.heap.size 1 A len (bv zs)) (hlc : len ≤ cap) (hcm : cap ≤ maxLen) (hmax : len ≤ 1000000000) (hok : (getG zs).2 = 0) (hno : (getG zs).1.find? Ob.lab = none) :
    Calls Tryd.prog 32 #[.slice A len cap] w fun e w' => e = .returned (.tuple #[.slice none 0 0, .int .i64 31]) ∧ Below w.heap.size w w' := by
  have hz : zs.length = len := by have := hr.1; rw [bv_length] at this; omega
  have HG := Lib.hid (get22_any A len cap zs w hr hlc hcm hmax)
  rw [hok] at HG
  have HN := Lib.hid hno
  have HZ := Lib.hid hz
  clear hr hok hno hz
  go_enter Tryd.func32, Tryd.ntmps32
  go_wp2_with fail
  refine HG.out.mono ?_
  rintro e w1 ⟨l, A', c', rfl, hl, hown, hx, hb⟩
  have hno : ∀ (k : Nat) (x : Xo), k < l.length → l[k]? = some x → x.ob.lab = false := fun k x _ h => by
    rcases find_lab l with ⟨m, y, h1, h2, h3, h4⟩ | ⟨h1, h2⟩
    · rw [hl, HN.out] at h4; cases h4
    · exact h1 k x h
  have HB := Lib.hid hb
  have HI := Lib.hid (fun (h : l.length ≤ 1000000000) => index_no A' l.length c' l w1 hown.row h hno)
  have hln : l.length ≤ 1000000000 := by
    have h1 := getG_len zs
    rw [← hl, List.length_map, HZ.out] at h1
    omega
  clear hb hx hl hown hno
  go_wp2_with fail
  refine (HI.out hln).mono ?_
  rintro e w2 ⟨rfl, hb2⟩
  have HB2 := Lib.hid hb2
  clear hb2
  go_wp2_with fail
  go_ret2
  exact ⟨rfl, bthen HB.out HB2.out⟩

theorem row_newE (W : World) (x : Ent) : Row (W.alloc (.cells #[.int .i64 x.label, .int .u8 x.cls, .bool x.bot, .int .u8 x.ttl] 49)) (W.heap.size + 1) 4 (some ⟨W.heap.size, 0, none⟩) 1 x.cells :=
  Row.new (n := 1) (sz := 4) W _ rfl
set_option maxRecDepth 100000 in
set_option maxHeartbeats 4000000 in
theorem told22_in (A : Option Addr) (len cap : Nat) (zs : List UInt8) (w : World) (hr : Row w w.heap.size 1 A len (bv zs)) (hlc : len ≤ cap) (hcm : cap ≤ maxLen) (hmax : len ≤ 1000000000) (hok : (getG zs).2 = 0) (ob : Ob) (hno : (getG zs).1.find? Ob.lab = some ob) :
    CallsIn Fence.wide 3 Tryd.prog 32 #[.slice A len cap] w fun e w' => ∃ (A' : Option Addr) (c' : Nat), e = .returned (.tuple #[.slice A' (toldG zs).1.length c', .int .i64 (toldG zs).2]) ∧ Own w' w.heap.size 49 4 A' (toldG zs).1.length c' (evs (toldG zs).1) ∧ Below w.heap.size w w' := by
  have hz : zs.length = len := by have := hr.1; rw [bv_length] at this; omega
  have HT : Hid (toldG zs = if 64 < ob.body.length then ([], 51) else (outs ob.body (ob.body.length / 4), 0)) := Lib.hid (by unfold toldG; rw [if_neg (fun h => h hok), hno])
  have hmd := getG_mod zs ob (List.mem_of_find?_eq_some hno)
  have HMD := Lib.hid hmd
  have HG := Lib.hid (get22_any A len cap zs w hr hlc hcm hmax)
  rw [hok] at HG
  have HN := Lib.hid hno
  have HZ := Lib.hid hz
  clear hr hok hno hz hmd
  refine callsIn_of_wp_marks Tryd.func32 rfl trivial ?_ rfl
  simp only [Tryd.ntmps32, List.size_toArray, List.length_cons, List.length_nil, Nat.reduceAdd, Nat.reduceSub, Array.replicate_succ, Array.replicate_zero, List.push_toArray, List.append_toArray, List.nil_append, List.cons_append]
  gi_wp2_with fail
  refine ⟨trivial, (callsIn_wide.2 HG.out).mono ?_⟩
  rintro e w1 ⟨l, A', c', rfl, hl, hown, hxo, hb⟩
  have hln : l.length ≤ 1000000000 := by
    have h1 := getG_len zs
    rw [← hl, List.length_map, HZ.out] at h1
    omega
  obtain ⟨m, x, hm, hy, hbef, hfd⟩ : ∃ (m : Nat) (x : Xo), l[m]? = some x ∧ x.ob.lab = true ∧ (∀ (k : Nat) (y : Xo), k < m → l[k]? = some y → y.ob.lab = false) ∧ (l.map Xo.ob).find? Ob.lab = some x.ob := by
    rcases find_lab l with h | ⟨h1, h2⟩
    · exact h
    · rw [hl, HN.out] at h2
      cases h2
  have hobx : ob = x.ob := by
    rw [hl, HN.out] at hfd
    injection hfd
  have hml : m < l.length := (List.getElem?_eq_some_iff.1 hm).1
  have HI := Lib.hid (index_yes A' l.length c' l w1 hown.row hln m x hm hy hbef)
  have HXO := Lib.hid (hxo x (List.mem_of_getElem? hm))
  have HB := Lib.hid hb
  have HOW := Lib.hid hown.row
  have HM := Lib.hid hm
  subst hobx
  clear hb hxo hl hown hbef hy hm hfd
  gi_wp2_with fail
  refine ⟨trivial, (callsIn_wide.2 HI.out).mono ?_⟩
  rintro e w2 ⟨rfl, hb2⟩
  obtain ⟨b, o, hA, hbb, a0, a1, a2⟩ := xo_row (HOW.out.below hb2) m x HM.out
  subst hA
  have HB2 := Lib.hid hb2
  have hm0 : ¬ (m : Int) < 0 := by omega
  have hmi : (m : Int) < (l.length : Int) := by omega
  have HXW := Lib.hid (show Own w2 w.heap.size 5 1 x.A x.n x.c (bv x.body) from HXO.out.own.below hb2)
  have hbw : b < w2.heap.size := Nat.lt_of_lt_of_le hbb hb2.size
  clear hb2 hbb
  gi_wp2_with (refine ⟨trivial, ?_⟩; gi_at_call 55; refine (callsIn_wide.2 (chunk_any x.A x.n x.c _)).mono ?_; rintro e w' ⟨rfl, rfl⟩)
  have hxn : x.n ≤ x.c := HXW.out.le
  have hxc : x.c ≤ maxLen := HXW.out.cap
  have hxl : x.body.length = x.n := by have := HXW.out.len; rw [bv_length] at this; omega
  have hxm : x.n % 4 = 0 ∧ x.n ≤ 65536 := by
    have := HMD.out
    rw [← hxl]
    exact this
  have HXL := Lib.hid hxl
  have b4 := Boxed.new w2 23 (.slice none 0 0)
  have b5 := Boxed.new (w2.alloc (.cells #[.slice none 0 0] 23)) 22 (.slice x.A x.n x.c)
  have b6 := Boxed.new ((w2.alloc (.cells #[.slice none 0 0] 23)).alloc (.cells #[.slice x.A x.n x.c] 22)) 3 (.int .i64 4)
  simp only [World.size_alloc] at b5 b6
  have hI0 : TlI w2 x.body [] (((w2.alloc (.cells #[.slice none 0 0] 23)).alloc (.cells #[.slice x.A x.n x.c] 22)).alloc (.cells #[.int .i64 4] 3)) :=
    ⟨⟨none, 0, (b4.alloc _).alloc _, Own.nil _ _ _ _ _⟩, ⟨_, b5.alloc _⟩, ⟨_, b6⟩, (((Below.refl _ w2).alloc (Nat.le_refl _) _).alloc (by simp) _).alloc (by simp; omega) _⟩
  have hr0 := HXW.out.row.below hI0.bel
  have hx5 := b5.alloc (.cells #[.int .i64 4] 3)
  have hxm1 := hxm.1
  have hxm2 := hxm.2
  have HM1 := Lib.hid hxm1
  clear b4 b5 hxl a0 a1 a2 hxm
  refine rangeD (Bx := w2.heap.size + 1) (Kp := Keeps2 w2.heap.size (w2.heap.size + 1)) (ok := fun _ => True) rfl (by omega) (gf := 69) (lb := #[.pointer (some ⟨w2.heap.size + 1, 0, none⟩), .pointer (some ⟨w2.heap.size + 1 + 1, 0, none⟩)]) rfl trivial (enters_of Tryd.func69 (by kernel_rfl) rfl)
    (chunk1_ends (w2.heap.size + 1) w2.heap.size x.A x.n x.c x.body (by omega) hxn hxc hxm1 (3 - 1) (by omega) _ (by simp) hx5 b6 (by omega) hr0) (by simp) Keeps2.trans (keeps2_b (by simp; omega) (by simp)) (Below.refl _ _) (fun _ => rfl)
    (fun pre W => TlI w2 x.body pre W) (fun _ _ _ => False) ?hI (fun c => ownFrom_pure _ _) (TlI.lets w2 x.body) (fun _ _ _ _ _ => trivial) hI0
    (fun pre y a' W => w2.heap.size ≤ W.heap.size ∧ Row W w2.heap.size 1 y.1 4 (bv y.2) ∧ y.2 = (x.body.drop (4 * pre.length)).take 4 ∧ 4 * pre.length + 4 ≤ x.n ∧
      a' = { tmps := #[.slice A len cap, undef, .slice none 0 0, .int .i64 0, .slice (some ⟨b, o, none⟩) l.length c', .int .i64 0, .int .i64 (m : Int), .pointer (some ⟨w2.heap.size, 0, none⟩), .slice y.1 4 4, undef, undef, .tuple #[.slice (some ⟨b, o, none⟩) l.length c', .int .i64 0], .slice A len cap, .tuple #[.slice (some ⟨b, o, none⟩) l.length c', .int .i64 0], .slice (some ⟨b, o, none⟩) l.length c', .int .i64 0, .int .i64 0, .bool false, undef, .slice (some ⟨b, o, none⟩) l.length c', .int .i64 (m : Int), .int .i64 (m : Int), .bool (decide ((m : Int) < 0)), .slice (some ⟨b, o, none⟩) l.length c', .int .i64 (m : Int), .pointer (some ⟨b, o + m * 3, none⟩), .pointer (some ⟨b, o + m * 3 + 2, none⟩), .slice x.A x.n x.c, .func (.func 69) #[] #[.pointer (some ⟨w2.heap.size + 1, 0, none⟩), .pointer (some ⟨w2.heap.size + 1 + 1, 0, none⟩)], .slice y.1 4 4, undef, undef, undef, undef, undef, undef, undef, undef, undef, undef, undef, undef, undef], defers := [] }) ?hA ?assign ?body ?done ?stop
  case hI => exact TlI.ownFrom w2 x.body _ (by simp; omega)
  case hA =>
    rintro pre y a' _ X Y row ⟨h0, h1, h2, h3, h4⟩ hg hr
    exact ⟨Nat.le_trans h0 hg.size, h1.below ((Below.refl _ X).grown hg h0 (fun k e => by have := (hr k e).1; simp at this; omega)), h2, h3, h4⟩
  case assign =>
    intro l' pre y W K hI hy hK
    have HK := Lib.hid hK
    clear hK hI0 hr0 hx5 b6
    obtain ⟨hy0, hy1, hy2⟩ := hy
    have HY1 := Lib.hid hy1
    clear hy1
    dsimp only [tellsC]
    gi_wp2
    exact HK.out _ _ (KeepsFrom.of_grownBy (grown_refl W none) (by simp)) ⟨Below.refl _ _, rfl, rfl⟩ hI ⟨hI.bel.size, hy2, HY1.out, hy0, rfl⟩
  case body =>
    intro l' pre y a' W hl hrec hI hAx
    obtain ⟨hws, hrow, hy2, hpl, rfl⟩ := hAx
    have hE := unpE_take (x.body.drop (4 * pre.length)) (by rw [List.length_drop, HXL.out]; omega)
    have UP := unpack_any y.1 4 4 y.2 W (hrow.more hws) (by omega) (by simp only [maxLen]; omega) (by omega)
    rw [hy2, hE.1, hE.2] at UP
    obtain ⟨E, hEE⟩ : ∃ E, entAt x.body pre.length = E := ⟨_, rfl⟩
    rw [show unpE (x.body.drop (4 * pre.length)) = E from hEE] at UP
    have HEE := Lib.hid hEE
    obtain ⟨lb, cl, bt, tt⟩ := E
    dsimp only at UP
    have HUP := Lib.hid UP
    have HI := Lib.hid hI
    have hs2 : w2.heap.size ≤ W.heap.size := hws
    clear hI0 hr0 hx5 b6 UP hE hEE hy2 hrow hI
    gi_wp2_with (first
      | (refine ⟨trivial, ?_⟩; gi_at_call 56; refine (CallsIn.inRound l' (callsIn_wide.2 HUP.out)).mono ?_; rintro e W1 ⟨rfl, hb1⟩; obtain ⟨Ao, co, ho, hown⟩ := ((HI.out.below hb1).below (alloc_below W1 (.cells #[.int .i64 lb, .int .u8 cl, .bool bt, .int .u8 tt] 49))).out; have HOO := Lib.hid hown; have HBB := Lib.hid ho; have c7 := ho.cell; have f7 := ho.frozen; have hlt1 : w2.heap.size < W1.heap.size := (HI.out.below hb1).out.elim (fun _ h => h.elim (fun _ h => h.1.lt)); clear hown ho)
      | (gi_at_builtin; refine wpListIn_append_Own rfl _ _ 23 rfl w2.heap.size 49 _ 4 16 Tryd.underlying23 infoEntry rfl (by decide) _ _ _ _ rfl (HOO.out.alloc _) _ _ 1 1 (Ent.cells ⟨lb, cl, bt, tt⟩) rfl (by have h9 := row_newE (W1.alloc (.cells #[.int .i64 lb, .int .u8 cl, .bool bt, .int .u8 tt] 49)) ⟨lb, cl, bt, tt⟩; rw [World.size_alloc] at h9; exact h9) (by simp [Ent.cells, Value.oneCell']) (by simp only [maxLen]; omega) (by omega) (by simp; omega) ?_; intro A3 c3 w3 hown3 hg3 _; have b5 := (HBB.out.alloc (.cells #[.int .i64 lb, .int .u8 cl, .bool bt, .int .u8 tt] 49)).kept hg3 (not_blk (HOO.out.alloc (.cells #[.int .i64 lb, .int .u8 cl, .bool bt, .int .u8 tt] 49)) (HBB.out.alloc (.cells #[.int .i64 lb, .int .u8 cl, .bool bt, .int .u8 tt] 49)) (by decide)); have c5' := b5.cell; have f5' := b5.frozen))
    obtain ⟨k1, k2, k3⟩ := ((HI.out.below hb1).below (alloc_below W1 (.cells #[.int .i64 lb, .int .u8 cl, .bool bt, .int .u8 tt] 49))).pushed y _ HBB.out HOO.out (by rw [HEE.out]; exact hown3) hg3 (B := w2.heap.size + 1 + 1 + 1) (by omega)
    have hbb : Below W.heap.size W (W1.alloc (.cells #[.int .i64 lb, .int .u8 cl, .bool bt, .int .u8 tt] 49)) := bthen hb1 (alloc_below _ _)
    obtain ⟨v5, hv5⟩ := HI.out.bx
    obtain ⟨v6, hv6⟩ := HI.out.bx2
    exact ⟨by simpa using (KeepsFrom.of_grownBy (below_grow hbb none) (by simp)).trans k1, Keeps2.trans ⟨hbb.mono hs2, hbb.block _ hv5.lt, hbb.block _ hv6.lt⟩ k2, k3⟩
  case done =>
    intro D xs W hD hS hI hdef
    have hgD := grownBy_putObj' W D (.deferred none)
    have hD' : w2.heap.size ≤ D := by simp at hD; omega
    obtain ⟨A3, c3, ho, hown⟩ := hI.out
    have HOO := Lib.hid hown
    have HBL := Lib.hid hI.bel
    have hnc : ∀ r, some D = some r → ∀ cs t, W.heap[r]? = some (.cells cs t (0, 0)) → False := fun r e cs t hx => by
      cases e
      rw [hdef] at hx
      cases hx
    have hbel : Below w.heap.size w W := bthen (HB.out) (bthen HB2.out (hI.bel)) 
    have hb' := hbel.grown hgD hbel.size (fun k e => by cases e; have h1 := HB.out.size; have h2 := HB2.out.size; omega)
    have ho4 := (own_turn hown hgD hnc).mono (show w.heap.size ≤ w2.heap.size from Nat.le_trans HB.out.size HB2.out.size)
    have c7 := ho.cell
    have HT2 := Lib.hid (show x.ob.body.length = 4 * xs.length by show x.body.length = _; rw [HXL.out]; exact hS.symm)
    have HO4 := Lib.hid ho4
    have HB4 := Lib.hid hb'
    clear hI0 hr0 hx5 b6 hI ho hown hbel hS hnc ho4 hb' hgD
    by_cases h16 : 16 < xs.length
    · have h16i : (16 : Int) < (xs.length : Int) := by omega
      gi_wp2
      refine ⟨by simp, .inl ⟨_, _, rfl, run_takeDeferred hdef, ?_⟩⟩
      refine ⟨.tuple #[.slice none 0 0, .int .i64 51], by simp [results, Tryd.f32, go_sem], none, 0, ?_, ?_, HB4.out⟩
      · rw [HT.out, if_pos (by rw [HT2.out]; omega)]; rfl
      · rw [HT.out, if_pos (by rw [HT2.out]; omega)]; exact Own.nil _ _ _ _ _
    · have h16i : ¬ (16 : Int) < (xs.length : Int) := by omega
      gi_wp2
      refine ⟨by simp, .inl ⟨_, _, rfl, run_takeDeferred hdef, ?_⟩⟩
      refine ⟨.tuple #[.slice A3 xs.length c3, .int .i64 0], by simp [results, Tryd.f32, go_sem], A3, c3, ?_, ?_, HB4.out⟩
      · rw [HT.out, if_neg (by rw [HT2.out]; omega), HT2.out, show 4 * xs.length / 4 = xs.length by omega]
        simp [outs_length]
      · rw [HT.out, if_neg (by rw [HT2.out]; omega), HT2.out, show 4 * xs.length / 4 = xs.length by omega]
        simp only [outs_length]
        exact HO4.out
  case stop =>
    intro D c pre W hD hS hI hdef
    exact hI.elim

theorem told22_any (A : Option Addr) (len cap : Nat) (zs : List UInt8) (w : World) (hr : Row w w.heap.size 1 A len (bv zs)) (hlc : len ≤ cap) (hcm : cap ≤ maxLen) (hmax : len ≤ 1000000000) :
    Calls Tryd.prog 32 #[.slice A len cap] w fun e w' => ∃ (A' : Option Addr) (c' : Nat), e = .returned (.tuple #[.slice A' (toldG zs).1.length c', .int .i64 (toldG zs).2]) ∧ Own w' w.heap.size 49 4 A' (toldG zs).1.length c' (evs (toldG zs).1) ∧ Below w.heap.size w w' := by
  by_cases h0 : (getG zs).2 = 0
  · cases hf : (getG zs).1.find? Ob.lab with
    | none =>
      have hT : toldG zs = ([], 31) := by unfold toldG; rw [if_neg (fun h => h h0), hf]
      refine (told22_none A len cap zs w hr hlc hcm hmax h0 hf).mono ?_
      rintro e w' ⟨rfl, hb⟩
      exact ⟨none, 0, by rw [hT]; rfl, by rw [hT]; exact Own.nil _ _ _ _ _, hb⟩
    | some ob => exact callsIn_wide.1 (told22_in A len cap zs w hr hlc hcm hmax h0 ob hf)
  · have hT : toldG zs = ([], (getG zs).2) := by unfold toldG; rw [if_pos h0]
    refine (told22_bad A len cap zs w hr hlc hcm hmax h0).mono ?_
    rintro e w' ⟨rfl, hb⟩
    exact ⟨none, 0, by rw [hT]; rfl, by rw [hT]; exact Own.nil _ _ _ _ _, hb⟩
end Go.Proofs.YtbcjkjmjljfhpaaDoor


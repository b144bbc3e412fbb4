/- What ext.Told (layer 22) calls: its closure, slices.IndexFunc, slices.Chunk. No condition but sizes. -/
import Derived.Test.YtbabkcdhihmomaaX22e
namespace Go.Proofs.Ytbabkcdhihmomaa
open Go.RowKit Go.Shelf
set_option linter.unusedVariables false
set_option maxRecDepth 20000
set_option linter.unusedSimpArgs false

attribute [local go_sem] Oper.semAt_some

/-- is an object a label stack? -/
def Ob.lab (x : Ob) : Bool := x.cls == 1 && x.kind == 1
set_option maxHeartbeats 1000000 in
theorem told1_any (x : Xo) (w : World) : Calls Try.prog 32 #[.agg x.cells.toArray] w fun e w' => e = .returned (.bool x.ob.lab) ∧ Below w.heap.size w w' := by
  obtain ⟨cl, kd, A, n, c, bd⟩ := x
  show Calls Try.prog 32 #[.agg #[.int .u8 cl, .int .u8 kd, .slice A n c]] w fun e w' => e = .returned (.bool (cl == 1 && kd == 1)) ∧ Below w.heap.size w w'
  by_cases h1 : cl = 1
  · subst h1
    by_cases h2 : kd = 1
    · subst h2
      go_enter Try.func32, Try.ntmps32
      go_wp2
      go_ret
      exact ⟨rfl, alloc_below _ _⟩
    · have e2 : (kd == 1) = false := by simp [h2]
      go_enter Try.func32, Try.ntmps32
      go_wp2
      go_ret
      exact ⟨by simp [h2], alloc_below _ _⟩
  · have e1 : (cl == 1) = false := by simp [h1]
    go_enter Try.func32, Try.ntmps32
    go_wp2
    go_ret
    exact ⟨by simp [h1], alloc_below _ _⟩

set_option maxHeartbeats 2000000 in
theorem index_no (A : Option Addr) (n c : Nat) (l : List Xo) (w : World) (hr : Row w w.heap.size 3 A n (xos l)) (hn : n ≤ 1000000000) (hno : ∀ (k : Nat) (x : Xo), k < n → l[k]? = some x → x.ob.lab = false) :
    Calls Try.prog 31 #[.slice A n c, .func (.func 32) #[] #[]] w fun e w' => e = .returned (.int .i64 (-1)) ∧ Below w.heap.size w w' := by
  have hlen := xo_len hr
  have HR := Lib.hid hr
  have HL := Lib.hid hlen
  have HN := Lib.hid hno
  clear hr hlen hno
  go_enter Try.func31, Try.ntmps31
  go_wp2_with fail
  go_loopw [8] (fun i wr => ∃ k : Nat, k ≤ n ∧ i = .int .i64 (k : Nat) ∧ Below w.heap.size w wr) (fun i _ => n - (intOf i).toNat)
  case atStart => exact ⟨0, by omega, rfl, Below.refl _ _⟩
  case round =>
    obtain ⟨k, hk, rfl, hB⟩ := hrel
    have HB := Lib.hid hB
    clear hB
    by_cases hlt : k < n
    · obtain ⟨x, hx⟩ : ∃ x, l[k]? = some x := ⟨_, List.getElem?_eq_getElem (by rw [HL.out]; omega)⟩
      obtain ⟨b, o, rfl, hb, a0, a1, a2⟩ := xo_row (HR.out.below HB.out) k x hx
      have hf := HN.out k x hlt hx
      have HT := Lib.hid (fun W => told1_any x W)
      have hkn : (k : Int) < (n : Int) := by omega
      clear hx
      go_wp2_with fail
      refine (HT.out _).mono ?_
      rintro e w2 ⟨rfl, hb2⟩
      rw [hf]
      have HB2 := Lib.hid (bthen HB.out hb2)
      clear a0 a1 a2 hf hb2
      go_wp2_with fail
      go_roundw
      case rel => exact ⟨k + 1, by omega, by simp, HB2.out⟩
      case measure => simp [intOf]; omega
    · have hge : ¬ (k : Int) < (n : Int) := by omega
      go_wp2_with fail
      go_ret
      exact ⟨rfl, HB.out⟩

set_option maxHeartbeats 2000000 in
theorem index_yes (A : Option Addr) (n c : Nat) (l : List Xo) (w : World) (hr : Row w w.heap.size 3 A n (xos l)) (hn : n ≤ 1000000000) (m : Nat) (x : Xo) (hx : l[m]? = some x) (hy : x.ob.lab = true) (hno : ∀ (k : Nat) (x : Xo), k < m → l[k]? = some x → x.ob.lab = false) :
    Calls Try.prog 31 #[.slice A n c, .func (.func 32) #[] #[]] w fun e w' => e = .returned (.int .i64 (m : Int)) ∧ Below w.heap.size w w' := by
  have hlen := xo_len hr
  have HR := Lib.hid hr
  have HL := Lib.hid hlen
  have HN := Lib.hid hno
  have hmn : m < n := by have := (List.getElem?_eq_some_iff.1 hx).1; omega
  have HX := Lib.hid hx
  have HY := Lib.hid hy
  clear hx hy
  clear hr hlen hno
  go_enter Try.func31, Try.ntmps31
  go_wp2_with fail
  go_loopw [8] (fun i wr => ∃ k : Nat, k ≤ m ∧ i = .int .i64 (k : Nat) ∧ Below w.heap.size w wr) (fun i _ => n - (intOf i).toNat)
  case atStart => exact ⟨0, by omega, rfl, Below.refl _ _⟩
  case round =>
    obtain ⟨k, hk, rfl, hB⟩ := hrel
    have HB := Lib.hid hB
    clear hB
    by_cases hlt : k < m
    · obtain ⟨x, hx⟩ : ∃ x, l[k]? = some x := ⟨_, List.getElem?_eq_getElem (by rw [HL.out]; omega)⟩
      obtain ⟨b, o, rfl, hb, a0, a1, a2⟩ := xo_row (HR.out.below HB.out) k x hx
      have hf := HN.out k x hlt hx
      have HT := Lib.hid (fun W => told1_any x W)
      have hkn : (k : Int) < (n : Int) := by omega
      clear hx
      go_wp2_with fail
      refine (HT.out _).mono ?_
      rintro e w2 ⟨rfl, hb2⟩
      rw [hf]
      have HB2 := Lib.hid (bthen HB.out hb2)
      clear a0 a1 a2 hf hb2
      go_wp2_with fail
      go_roundw
      case rel => exact ⟨k + 1, by omega, by simp, HB2.out⟩
      case measure => simp [intOf]; omega
    · obtain rfl : k = m := by omega
      obtain ⟨b, o, rfl, hb, a0, a1, a2⟩ := xo_row (HR.out.below HB.out) k x HX.out
      have HT := Lib.hid (fun W => told1_any x W)
      have hkn : (k : Int) < (n : Int) := by omega
      go_wp2_with fail
      refine (HT.out _).mono ?_
      rintro e w2 ⟨rfl, hb2⟩
      rw [HY.out]
      have HB2 := Lib.hid (bthen HB.out hb2)
      clear a0 a1 a2 hb2
      go_wp2_with fail
      go_ret
      exact ⟨rfl, HB2.out⟩

set_option maxHeartbeats 1000000 in
theorem chunk_any (A : Option Addr) (len cap : Nat) (w : World) :
    Calls Try.prog 33 #[.slice A len cap, .int .i64 4] w fun e w' => e = .returned (.func (.func 43) #[] #[.pointer (some ⟨w.heap.size, 0, none⟩), .pointer (some ⟨w.heap.size + 1, 0, none⟩)]) ∧ w' = (w.alloc (.cells #[.slice A len cap] 26)).alloc (.cells #[.int .i64 4] 3) := by
  go_enter Try.func33, Try.ntmps33
  go_wp2
  go_ret
  exact ⟨rfl, rfl⟩

abbrev Tc := Option Addr × List UInt8
def tellsC (x : Tc) : Array Value := #[.slice x.1 4 4]
def okC (n₀ len : Nat) (zs : List UInt8) (pre : List Tc) (x : Tc) (W : World) : Prop := 4 * pre.length + 4 ≤ len ∧ x.2 = (zs.drop (4 * pre.length)).take 4 ∧ Row W n₀ 1 x.1 4 (bv x.2)
def Keeps2 (n₀ Bx : Nat) (W W' : World) : Prop := Below n₀ W W' ∧ W'.heap[Bx]? = W.heap[Bx]? ∧ W'.heap[Bx + 1]? = W.heap[Bx + 1]?
theorem Keeps2.trans {n₀ Bx : Nat} {A B C : World} (h : Keeps2 n₀ Bx A B) (k : Keeps2 n₀ Bx B C) : Keeps2 n₀ Bx A C := ⟨h.1.trans k.1, k.2.1.trans h.2.1, k.2.2.trans h.2.2⟩
theorem keeps2_b {n₀ Bx : Nat} {w : World} (h0 : n₀ ≤ w.heap.size) (hB : Bx + 1 < w.heap.size) : ∀ (W : World) (l : Nat) (o o' : Obj), w.heap.size ≤ l → W.heap[l]? = some o → o.isCells = false → o.isWalk = false → Keeps2 n₀ Bx W (W.putObj l o') := by
  intro W l o o' hl ho hc hw
  have hg := grownBy_putObj' W l o'
  have := (Array.getElem?_eq_some_iff.1 ho).1
  exact ⟨belowK_b (w := w) h0 W l o o' hl ho hc hw, hg.block Bx (by omega) (by intro e; injection e; omega), hg.block (Bx + 1) (by omega) (by intro e; injection e; omega)⟩

set_option maxRecDepth 100000 in
set_option maxHeartbeats 8000000 in
theorem chunk1_in (l Bx n₀ : Nat) (A : Option Addr) (len cap : Nat) (zs : List UInt8) (hlen : len ≤ 1000000000) (hlc : len ≤ cap) (hcm : cap ≤ maxLen) (hmod : len % 4 = 0) (n : Nat) (hn : 2 ≤ n) (J Jx : List Tc → World → Prop)
    (hJ : Lets Bx J)
    (hY : ∀ pre x W, J pre W → okC n₀ len zs pre x W → YieldAt Fence.wide (n - 1) Try.prog l (tellsC x) W fun e W' =>
      (e = .returned (.bool true) ∧ J (pre ++ [x]) W' ∧ Keeps2 n₀ Bx W W') ∨ (e = .returned (.bool false) ∧ Jx (pre ++ [x]) W'))
    (W : World) (hB : W.heap[Bx]? = some (.cells #[.slice A len cap] 26 (0, 0))) (hB2 : W.heap[Bx + 1]? = some (.cells #[.int .i64 4] 3 (0, 0))) (hBn : n₀ ≤ Bx) (hr : Row W n₀ 1 A len (bv zs)) (h0 : J [] W) :
    CallsIn Fence.wide n Try.prog 43 #[.func (.yield l) #[] #[], .pointer (some ⟨Bx, 0, none⟩), .pointer (some ⟨Bx + 1, 0, none⟩)] W fun e W' => (∃ v, e = .returned v) ∧ ((∃ xs, 4 * xs.length = len ∧ J xs W') ∨ ∃ pre, pre ≠ [] ∧ Jx pre W') := by
  refine callsIn_of_wp Try.func43 rfl trivial ?_ rfl
  simp only [Try.ntmps43, List.size_toArray, List.length_cons, List.length_nil, Nat.reduceAdd, Nat.reduceSub, Array.replicate_succ, Array.replicate_zero, List.push_toArray, List.append_toArray, List.nil_append, List.cons_append]
  gi_wp2
  have hn1 : 1 ≤ n := by omega
  have hz : zs.length = len := by have := hr.1; rw [bv_length] at this; omega
  have HZ := Lib.hid hz
  have HMD := Lib.hid hmod
  clear hz hmod
  gi_loopw [4] (fun i wr => ∃ (pre : List Tc) (k : Nat), i = .int .i64 (k : Nat) ∧ k = 4 * pre.length ∧ k ≤ len ∧ J pre wr ∧ wr.heap[Bx]? = some (.cells #[.slice A len cap] 26 (0, 0)) ∧ wr.heap[Bx + 1]? = some (.cells #[.int .i64 4] 3 (0, 0)) ∧ Row wr n₀ 1 A len (bv zs))
    (fun i wr => len - (intOf i).toNat)
  case atStart => exact ⟨[], 0, rfl, rfl, by omega, h0, hB, hB2, hr⟩
  case round =>
    obtain ⟨pre, k, rfl, hk4, hkl, hJs, hbx, hbx2, hrow⟩ := hrel
    have hlt := heap_lt hbx
    have hlt2 := heap_lt hbx2
    have hc0 := cell_at hbx 0
    have hf0 := frozen_at hbx 0
    have hc1 := cell_at hbx2 0
    have hf1 := frozen_at hbx2 0
    have HX := Lib.hid hbx
    have HX2 := Lib.hid hbx2
    have HR := Lib.hid hrow
    have HK4 := Lib.hid hk4
    clear hbx hbx2 hrow hk4
    by_cases hklt : k < len
    · have hk4' := HK4.out
      have hmd' := HMD.out
      have hkr : k + 4 ≤ len := by omega
      have hki : (k : Int) < (len : Int) := by omega
      obtain ⟨b, o, rfl, hbB, hcell⟩ := HR.out.cells (by omega)
      have hmin : (4 : Int) ≤ ((len - k : Nat) : Int) := by omega
      clear hcell hk4' hmd'
      gi_wp2_with fail
      refine wpIn_wide.2 ?_
      refine wp_region_rel (fun A B => A.grownBy B none) (fun A => grown_refl A _) (fun A B C h k => grown_trans h k) (relAt (List.cons (fun v _ => v = .int .i64 4) (List.cons (fun v _ => v = .slice (some ⟨b, o, none⟩) len cap) (List.cons (fun v _ => v = .int .i64 (k : Int)) (List.cons (fun v _ => ∃ X, v = .slice X (len - k) (cap - k)) (List.cons (fun v _ => v = .int .i64 ((len - k : Nat) : Int)) (List.cons (fun v _ => v = .int .i64 4) (List.cons (fun v _ => v = .int .i64 4) ([]))))))))) (MonoL.at_ (.cons (mono_val _) (.cons (mono_val _) (.cons (mono_val _) (.cons (fun _ _ _ h _ => h) (.cons (mono_val _) (.cons (mono_val _) (.cons (mono_val _) .nil)))))))) (by kernel_rfl) (by kernel_rfl) ⟨?_, ?_, ?_, ?_, ?_, ?_, ?_, trivial⟩ ?_
      · intro a vs W hX hR he hf K hK
        rw [if_pos (wanted_none rfl)]
        have e2 : a.eval (.tmp 2) = .pointer (some ⟨Bx + 1, 0, none⟩) := hf 2 (by kernel_rfl)
        have hbW := bthen (below_drew _) (grow_below hX)
        have hc : W.cell? ⟨Bx + 1, 0, none⟩ = some (.int .i64 4) := (hbW.cell (p := ⟨Bx + 1, 0, none⟩) hlt2).trans hc1
        refine wp_value (v := _) ?_ (hK _ _ rfl (grown_refl W _))
        simp only [execOp, e2]
        go_simp
      · intro a vs W hX hR he hf K hK
        rw [if_pos (wanted_none rfl)]
        have e1 : a.eval (.tmp 1) = .pointer (some ⟨Bx, 0, none⟩) := hf 1 (by kernel_rfl)
        have hbW := bthen (below_drew _) (grow_below hX)
        have hc : W.cell? ⟨Bx, 0, none⟩ = some (.slice (some ⟨b, o, none⟩) len cap) := (hbW.cell (p := ⟨Bx, 0, none⟩) hlt).trans hc0
        refine wp_value (v := _) ?_ (hK _ _ rfl (grown_refl W _))
        simp only [execOp, e1]
        go_simp
      · intro a vs W hX hR he hf K hK
        rw [if_pos (wanted_none rfl)]
        have e4 : a.eval (.tmp 4) = .int .i64 (k : Int) := hf 4 (by kernel_rfl)
        refine wp_value (v := .int .i64 (k : Int)) ?_ (hK _ _ rfl (grown_refl W _))
        simp only [execOp, e4]
        try go_simp
        try (first | rfl | omega | (simp only [IntKind.wrap_i64, IntKind.wrap_u8, IntKind.wrap_u64, IntKind.wrap_u16, IntKind.wrap_u32]; omega) | (rw [Int.tmod_eq_emod_of_nonneg (by omega)]) | (rw [Int.tmod_eq_emod_of_nonneg (by omega)]; omega))
      · intro a vs W hX hR he hf K hK
        rw [if_pos (wanted_none rfl)]
        have e14 : a.eval (.tmp 14) = .slice (some ⟨b, o, none⟩) len cap := (he 1 14 (by kernel_rfl) rfl).trans (hR 1 (by kernel_rfl))
        have e15 : a.eval (.tmp 15) = .int .i64 (k : Int) := (he 2 15 (by kernel_rfl) rfl).trans (hR 2 (by kernel_rfl))
        have f14 := e14
        simp only [Act.eval, Array.getD_eq_getD_getElem?] at f14
        have f15 := e15
        simp only [Act.eval, Array.getD_eq_getD_getElem?] at f15
        have hck : (k : Int) ≤ (cap : Int) := by omega
        refine wp_value (v := .slice (if cap = k then some ⟨b, o, none⟩ else some ⟨b, o + k, none⟩) (len - k) (cap - k)) ?_ (hK _ _ ⟨_, rfl⟩ (grown_refl W _))
        simp only [execOp, e14, e15]
        go_simp
      · intro a vs W hX hR he hf K hK
        rw [if_pos (wanted_none rfl)]
        have e16 := he 3 16 (by kernel_rfl) rfl
        have p16 := hR 3 (by kernel_rfl)
        change (fun v _ => ∃ X, v = .slice X (len - k) (cap - k)) (vs 3) W at p16
        have f16 := e16
        simp only [Act.eval, Array.getD_eq_getD_getElem?] at f16
        obtain ⟨X, hv⟩ := p16
        rw [hv] at e16 f16
        refine wp_value (v := .int .i64 ((len - k : Nat) : Int)) ?_ (hK _ _ rfl (grown_refl W _))
        simp only [execOp, e16]
        go_simp
      · intro a vs W hX hR he hf K hK
        rw [if_pos (wanted_none rfl)]
        have e13 : a.eval (.tmp 13) = .int .i64 4 := (he 0 13 (by kernel_rfl) rfl).trans (hR 0 (by kernel_rfl))
        have e17 : a.eval (.tmp 17) = .int .i64 ((len - k : Nat) : Int) := (he 4 17 (by kernel_rfl) rfl).trans (hR 4 (by kernel_rfl))
        have f13 := e13
        simp only [Act.eval, Array.getD_eq_getD_getElem?] at f13
        have f17 := e17
        simp only [Act.eval, Array.getD_eq_getD_getElem?] at f17
        refine wp_value (v := .int .i64 4) ?_ (hK _ _ rfl (grown_refl W _))
        simp only [execOp, e13, e17, f13, f17]
        go_simp
        intro h9
        omega
      · intro a vs W hX hR he hf K hK
        rw [if_pos (wanted_none rfl)]
        have e18 : a.eval (.tmp 18) = .int .i64 4 := (he 5 18 (by kernel_rfl) rfl).trans (hR 5 (by kernel_rfl))
        refine wp_value (v := .int .i64 4) ?_ (hK _ _ rfl (grown_refl W _))
        simp only [execOp, e18]
        try go_simp
        try (first | rfl | omega | (simp only [IntKind.wrap_i64, IntKind.wrap_u8, IntKind.wrap_u64, IntKind.wrap_u16, IntKind.wrap_u32]; omega) | (rw [Int.tmod_eq_emod_of_nonneg (by omega)]) | (rw [Int.tmod_eq_emod_of_nonneg (by omega)]; omega))
      · intro vs W2 hX2 hR
        have q0 := hR 0 (by decide)
        have q1 := hR 1 (by decide)
        have q2 := hR 2 (by decide)
        have q3 := hR 3 (by decide)
        have q4 := hR 4 (by decide)
        have q5 := hR 5 (by decide)
        have q6 := hR 6 (by decide)
        change vs 0 = .int .i64 4 at q0
        change vs 1 = .slice (some ⟨b, o, none⟩) len cap at q1
        change vs 2 = .int .i64 (k : Int) at q2
        change (fun v _ => ∃ X, v = .slice X (len - k) (cap - k)) (vs 3) W2 at q3
        change vs 4 = .int .i64 ((len - k : Nat) : Int) at q4
        change vs 5 = .int .i64 4 at q5
        change vs 6 = .int .i64 4 at q6
        simp only [putAll, Act.put, List.setIfInBounds_toArray, List.set_cons_zero, List.set_cons_succ, q0, q1, q2, q4, q5, q6]
        clear q0 q1 q2 q4 q5 q6
        clear hR
        obtain ⟨X, hv⟩ := q3
        rw [hv]
        have hbW := bthen (below_drew _) (grow_below hX2)
        have hbx2 := (hbW.block Bx hlt).trans HX.out
        have hbx3 := (hbW.block (Bx + 1) hlt2).trans HX2.out
        have hn0 : n₀ ≤ wr.heap.size := by omega
        have hJ2 := hJ.below _ _ _ hJs hbW
        have hrow2 := HR.out.below (hbW.mono hn0)
        have hok : okC n₀ len zs pre (some ⟨b, o + k, none⟩, (zs.drop k).take 4) W2 := ⟨by have := HK4.out; omega, by rw [← HK4.out], by
          have := hrow2.sub1 (i := k) (k := 4) (by omega)
          rw [addr_add1] at this
          rw [show bv ((zs.drop k).take 4) = ((bv zs).drop k).take 4 by simp only [bv, ← List.map_take, ← List.map_drop]]
          exact this⟩
        obtain ⟨fn, tmps, assign, bodyC, hy, hR⟩ := hY pre _ W2 hJ2 hok
        dsimp only [tellsC] at hy
        have hd0 := cell_at hbx2 0
        have hd1 := cell_at hbx3 0
        have hkc : (k : Int) + 4 ≤ (cap : Int) := by omega
        have hck : (k : Int) ≤ (cap : Int) := by omega
        have HB2 := Lib.hid hbx2
        have HB3 := Lib.hid hbx3
        have HRW := Lib.hid hrow2
        clear hc0 hf0 hc1 hf1 hJs hbW hX2 hv hok hbx2 hbx3 hJ2 hrow2 hmin
        gi_wp2
        refine hR.mono ?_
        rintro e W3 (⟨rfl, hJ3, hk3⟩ | ⟨rfl, hJx3⟩)
        · have hg2 := hk3.2.1.trans HB2.out
          have hg3 := hk3.2.2.trans HB3.out
          have hq1 := cell_at hg3 0
          have HG2 := Lib.hid hg2
          have HG3 := Lib.hid hg3
          have HR3 := Lib.hid (HRW.out.below hk3.1)
          have HJ3 := Lib.hid hJ3
          clear hg2 hg3 hJ3 hk3 hR hy hd0 hd1
          gi_wp2
          refine ⟨⟨_, k + 4, by simp, ?_, by omega, HJ3.out, HG2.out, HG3.out, HR3.out⟩, ?_⟩
          · have := HK4.out
            simp
            omega
          · simp [intOf]
            omega
        · gi_wp2
          refine bodyPost_ret (results_none rfl _ _ _) rfl ?_
          exact ⟨⟨_, rfl⟩, .inr ⟨_, by simp, hJx3⟩⟩
    · obtain rfl : k = len := by omega
      gi_wp2
      refine bodyPost_end (results_none rfl _ _ _) rfl ?_
      exact ⟨⟨_, rfl⟩, .inl ⟨pre, HK4.out.symm, hJs⟩⟩
theorem chunk1_ends (Bx n₀ : Nat) (A : Option Addr) (len cap : Nat) (zs : List UInt8) (hlen : len ≤ 1000000000) (hlc : len ≤ cap) (hcm : cap ≤ maxLen) (hmod : len % 4 = 0) (n : Nat) (hn : 2 ≤ n) (w : World) (hBx : Bx + 1 < w.heap.size)
    (hB : w.heap[Bx]? = some (.cells #[.slice A len cap] 26 (0, 0))) (hB2 : w.heap[Bx + 1]? = some (.cells #[.int .i64 4] 3 (0, 0))) (hBn : n₀ ≤ Bx) (hr : Row w n₀ 1 A len (bv zs)) :
    EndsD Fence.wide n Try.prog 43 #[.pointer (some ⟨Bx, 0, none⟩), .pointer (some ⟨Bx + 1, 0, none⟩)] tellsC (Keeps2 n₀ Bx) (fun _ => True) (okC n₀ len zs) (fun xs => 4 * xs.length = len) (fun pre => pre ≠ []) Bx w := fun l J Jx W hW hJ hg hY h0 =>
  chunk1_in l Bx n₀ A len cap zs hlen hlc hcm hmod n hn J Jx hJ hY W ((hW.block Bx (by omega)).trans hB) ((hW.block (Bx + 1) hBx).trans hB2) hBn (hr.below (hW.mono (by omega))) h0
end Go.Proofs.Ytbabkcdhihmomaa

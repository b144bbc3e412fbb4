/- Texts of this claim put together, in build order: each one's own remark stands ahead of it. -/
import Derived.Test.YtckbleiikldloaaDoorG02
import Derived.Test.YtckbleiikldloaaDoorG01
import Derived.Test.YtckbleiikldloaaDoorG03
import Derived.Test.YtckbleiikldloaaDoorG05
import Derived.Deep.DeepCutAuto
/- What the writer of extensions (layer 22) does: two, object. No condition but sizes. -/
namespace Go.Proofs.YtckbleiikldloaaDoor
open Go.RowKit
set_option linter.unusedVariables false
set_option maxRecDepth 20000
set_option linter.unusedSimpArgs false

/-- an object of the program's own -/
structure Xo where
  cls : Int
  kind : Int
  A : Option Addr
  n : Nat
  c : Nat
  body : List UInt8
def Xo.cells (x : Xo) : List Value := [.int .u8 x.cls, .int .u8 x.kind, .slice x.A x.n x.c]
def Xo.ob (x : Xo) : Ob := ⟨x.cls, x.kind, x.body⟩
structure Xo.ok (w : World) (x : Xo) : Prop where
  cls : 0 ≤ x.cls ∧ x.cls ≤ 255
  kind : 0 ≤ x.kind ∧ x.kind ≤ 255
  row : Row w w.heap.size 1 x.A x.n (bv x.body)
  le : x.n ≤ x.c
  cap : x.c ≤ maxLen
theorem Xo.ok.on {w w' : World} {x : Xo} (h : x.ok w) (hb : Below w.heap.size w w') : x.ok w' := ⟨h.cls, h.kind, (h.row.below hb).more hb.size, h.le, h.cap⟩
theorem Xo.ok.len {w : World} {x : Xo} (h : x.ok w) : x.body.length = x.n := by have := h.row.1; rw [bv_length] at this; omega
theorem oneXo (x : Xo) : ∀ v ∈ x.cells, v.oneCell' = true := by
  intro v hv
  simp [Xo.cells] at hv
  rcases hv with rfl | rfl | rfl <;> rfl
theorem sizeXo (x : Xo) : (Tryd.prog.info? 80).map (·.size) = some x.cells.length := by show _ = some 3; kernel_rfl
/-- what is neither bytes nor the writer's own block is as it was -/
def KeepT (gw : Nat) (w w' : World) : Prop := ∀ g t cs, t ≠ 5 → g ≠ gw → Blk w g t cs → Blk w' g t cs
theorem KeepT.trans {gw : Nat} {a b c : World} (h : KeepT gw a b) (k : KeepT gw b c) : KeepT gw a c := fun g t cs h1 h2 h3 => k g t cs h1 h2 (h g t cs h1 h2 h3)
theorem KeepT.grown {gw : Nat} {w w' : World} {row : Option Nat} (hg : w.grownBy w' row) (h : ∀ g, row = some g → g = gw ∨ ∃ cur, w.heap[g]? = some (.cells cur 5 (0, 0))) : KeepT gw w w' := by
  intro g t cs h1 h2 h3
  refine h3.grown hg (fun e => ?_)
  rcases h g e.symm with rfl | ⟨cur, hc⟩
  · exact h2 rfl
  · rw [show w.heap[g]? = _ from h3] at hc
    injection hc with hc
    injection hc with _ hc
    exact h1 hc
theorem blk_row {W : World} {base n c : Nat} {A : Option Addr} {xs : List Value} (h : Own W base 5 1 A n c xs) : ∀ g, blk A c = some g → ∃ cur, W.heap[g]? = some (.cells cur 5 (0, 0)) := fun g hg => by
  obtain ⟨_, cur, hc, _⟩ := blk_some h hg
  exact ⟨cur, hc⟩
/-- a writer: what it holds -/
def WrP (B base gw k : Nat) (s : List UInt8) (w w' : World) : Prop := ∃ A c, Blk w' gw 121 [.slice A k c] ∧ Own w' base 5 1 A k c (bv s) ∧ Below B w w' ∧ KeepT gw w w'
theorem own_other {W W' : World} {base n c gw : Nat} {A : Option Addr} {xs : List Value} {T : TypeId} {cs : List Value} (h : Own W base 5 1 A n c xs) (hb : Blk W gw T cs) (hT : T ≠ 5) (hg : W.grownBy W' (some gw)) : Own W' base 5 1 A n c xs := by
  refine h.kept hg (fun g h1 h2 => ?_)
  injection h2 with h2
  subst h2
  obtain ⟨cur, hc⟩ := blk_row h _ h1
  rw [show W.heap[_]? = _ from hb] at hc
  injection hc with hc
  injection hc with _ hc
  exact hT hc
theorem row_ne2 {W : World} {base n c gw : Nat} {A : Option Addr} {xs : List Value} {T : TypeId} {cs : List Value} (h : Own W base 5 1 A n c xs) (hb : Blk W gw T cs) (hT : T ≠ 5) : some gw ≠ blk A c := fun e => by
  obtain ⟨cur, hc⟩ := blk_row h _ e.symm
  rw [show W.heap[_]? = _ from hb] at hc
  injection hc with hc
  injection hc with _ hc
  exact hT hc

section
variable {w : World} {o : Oper} {a : Act} {ops : Array Oper} {rest : List Oper} {Q : Exit → Act → World → Prop}
theorem wp_store_sl {K : Act → World → Prop} (x y : Operand) (ho : o.op = .store 22 x y) (g j : Nat) (A : Option Addr) (n c : Nat) (hx : a.eval x = .pointer (some ⟨g, j, none⟩)) (hy : a.eval y = .slice A n c) (t : TypeId) (cs : List Value) (u : Value) (hb : Blk w g t cs) (hj : cs[j]? = some u)
    (h : ∀ w', Blk w' g t (cs.set j (.slice A n c)) → w.grownBy w' (some g) → w'.heap.size = w.heap.size → K (a.put o.dst undef) w') : o.wp Tryd.prog a w K Q :=
  wp_skip (w' := w.setCell ⟨g, j, none⟩ (.slice A n c)) (by
    have hc := (hb.cell j).trans hj
    have hf := hb.frozen j
    unfold execOp
    simp only [ho, hx, hy]
    go_simp) (h _ (hb.set j _) (grown_setCells g [.slice A n c] j w w (grown_refl w _)) (by simp))
theorem wpList_store_sl (hgd : Region.wanted o (yielded ops a.tmps) = true) (x y : Operand) (ho : o.op = .store 22 x y) (g j : Nat) (A : Option Addr) (n c : Nat) (hx : a.eval x = .pointer (some ⟨g, j, none⟩)) (hy : a.eval y = .slice A n c) (t : TypeId) (cs : List Value) (u : Value) (hb : Blk w g t cs) (hj : cs[j]? = some u)
    (h : ∀ w', Blk w' g t (cs.set j (.slice A n c)) → w.grownBy w' (some g) → w'.heap.size = w.heap.size → wpList Tryd.prog ops Q rest (a.put o.dst undef) w') : wpList Tryd.prog ops Q (o :: rest) a w :=
  wpList_wanted hgd fun _ hK => wp_store_sl x y ho g j A n c hx hy t cs u hb hj fun w' h1 h2 h3 => hK _ _ (h w' h1 h2 h3)
theorem exec_append2 (s x : Operand) (ty : TypeId) (ho : o.op = .call { callee := .builtin .append, args := #[s, x], argTypes := #[22, 22] })
    (base : Nat) (A : Option Addr) (n c : Nat) (xs : List Value) (hs : a.eval s = .slice A n c) (hown : Own w base 5 1 A n c xs)
    (B : Nat) (X : Option Addr) (m cx : Nat) (news : List Value) (hx : a.eval x = .slice X m cx) (hr : Row w B 1 X m news) (h1 : ∀ u ∈ news, u.oneCell' = true)
    (h63 : n + m ≤ 1000000000000) (hbase : base ≤ w.heap.size) :
    ∃ A' c' w', (execOp a.eval o).run Tryd.prog w = .ok (.value (.slice A' (n + m) c')) w' ∧ Own w' base 5 1 A' (n + m) c' (xs ++ news) ∧ w.grownBy w' (if n + m ≤ c then blk A c else none) ∧ (n + m ≤ c → A' = A ∧ c' = c) := by
  obtain ⟨A', c', w', hrun, h2, h3, h4, _⟩ := run_append_Own2 (P := Tryd.prog) (w := w) base 22 o.type 5 (.int .u8 0) 1 1 Tryd.underlying22 infoByte rfl (by decide) A n c xs hown B X m cx news hr h1 (by simp only [maxLen]; omega) (by omega) hbase
  refine ⟨A', c', w', ?_, h2, h3, h4⟩
  unfold execOp
  simp [ho, resolve, invoke, builtin, hs, hx, hrun, Result.andThen]
theorem wp_append2 {K : Act → World → Prop} (s x : Operand) (ho : o.op = .call { callee := .builtin .append, args := #[s, x], argTypes := #[22, 22] })
    (base : Nat) (A : Option Addr) (n c : Nat) (xs : List Value) (hs : a.eval s = .slice A n c) (hown : Own w base 5 1 A n c xs)
    (B : Nat) (X : Option Addr) (m cx : Nat) (news : List Value) (hx : a.eval x = .slice X m cx) (hr : Row w B 1 X m news) (h1 : ∀ u ∈ news, u.oneCell' = true)
    (h63 : n + m ≤ 1000000000000) (hbase : base ≤ w.heap.size)
    (h : ∀ A' c' w', Own w' base 5 1 A' (n + m) c' (xs ++ news) → w.grownBy w' (if n + m ≤ c then blk A c else none) → (n + m ≤ c → A' = A ∧ c' = c) → K (a.put o.dst (.slice A' (n + m) c')) w') : o.wp Tryd.prog a w K Q := by
  obtain ⟨A', c', w', hrun, h2, h3, h4⟩ := exec_append2 (o := o) (a := a) s x o.type ho base A n c xs hs hown B X m cx news hx hr h1 h63 hbase
  exact wp_value hrun (h A' c' w' h2 h3 h4)
theorem wpList_append2 (hgd : Region.wanted o (yielded ops a.tmps) = true) (s x : Operand) (ho : o.op = .call { callee := .builtin .append, args := #[s, x], argTypes := #[22, 22] })
    (base : Nat) (A : Option Addr) (n c : Nat) (xs : List Value) (hs : a.eval s = .slice A n c) (hown : Own w base 5 1 A n c xs)
    (B : Nat) (X : Option Addr) (m cx : Nat) (news : List Value) (hx : a.eval x = .slice X m cx) (hr : Row w B 1 X m news) (h1 : ∀ u ∈ news, u.oneCell' = true)
    (h63 : n + m ≤ 1000000000000) (hbase : base ≤ w.heap.size)
    (h : ∀ A' c' w', Own w' base 5 1 A' (n + m) c' (xs ++ news) → w.grownBy w' (blk A c) → wpList Tryd.prog ops Q rest (a.put o.dst (.slice A' (n + m) c')) w') : wpList Tryd.prog ops Q (o :: rest) a w := by
  obtain ⟨A', c', w', hrun, h2, h3, h4⟩ := exec_append2 (o := o) (a := a) s x o.type ho base A n c xs hs hown B X m cx news hx hr h1 h63 hbase
  refine wpList_value hgd hrun (h A' c' w' h2 ?_)
  split at h3
  · exact h3
  · exact grown_wide _ h3
end

theorem row_vals22 {e : TypeId} (w : World) (cs : Array Value) (n g : Nat) (hn : cs.size = n) (hg : w.heap.size = g) : Row (w.alloc (.cells cs e)) (w.alloc (.cells cs e)).heap.size 1 (some ⟨g, 0, none⟩) n cs.toList := by
  subst hg
  rw [World.size_alloc]
  exact Row.new (n := n) (sz := 1) w cs (by omega)
theorem below_drew' (B : Nat) (w : World) : Below B w w.drew := below_drewN (Below.refl _ _) 1
theorem below_drew_grown {w W : World} {row : Option Nat} (h : w.drew.grownBy W row) : w.grownBy W row := grown_trans (below_grow (below_drew w) row) h
theorem one_bv (l : List UInt8) : ∀ u ∈ bv l, u.oneCell' = true := by
  intro u hu
  simp only [bv, List.mem_map] at hu
  obtain ⟨x, _, rfl⟩ := hu
  rfl
theorem bgrown' {B : Nat} {w0 w w' : World} {row : Option Nat} (h : Below B w0 w) (hg : w.grownBy w' row) (hB : B ≤ w.heap.size) (hb : ∀ g, row = some g → B ≤ g) : Below B w0 w' := h.grown hg hB hb
theorem byte2 (m : Int) (h0 : 0 ≤ m) (h1 : m ≤ 65535) : [Value.int .u8 (m / 256), Value.int .u8 (m % 256)] = bv (toBe 2 m.toNat) := by
  obtain ⟨v, rfl⟩ := Int.eq_ofNat_of_zero_le h0
  have e : toBe 2 v = [UInt8.ofNat (v / 256 % 256), UInt8.ofNat (v % 256)] := by
    have h1 := toBe_cons 1 v
    have h2 := toBe_cons 0 v
    rw [h1, h2]
    simp [toBe]
  rw [show ((v : Nat) : Int).toNat = v from rfl, e]
  simp [bv]
  omega

set_option maxHeartbeats 2000000 in
theorem two_any (B base gw : Nat) (A : Option Addr) (n c : Nat) (s : List UInt8) (m : Int) (w : World) (hw : Blk w gw 121 [.slice A n c]) (ho : Own w base 5 1 A n c (bv s)) (hB : B ≤ base) (hBg : B ≤ gw) (hbase : base ≤ w.heap.size) (hn : n ≤ 100000000000) (h0 : 0 ≤ m) (h1 : m ≤ 65535) :
    Calls Tryd.prog 72 #[.pointer (some ⟨gw, 0, none⟩), .int .i64 m] w fun e w' => e = .returned (.tuple #[]) ∧ WrP B base gw (n + 2) (s ++ toBe 2 m.toNat) w w' := by
  have d0 : w.cell? ⟨gw, 0, none⟩ = some (.slice A n c) := hw.cell 0
  have HO := Lib.hid ho
  have HW := Lib.hid hw
  have HB2 := Lib.hid (byte2 m h0 h1)
  have HO1 := Lib.hid (ho.alloc (.cells #[.int .u8 (m / 256), .int .u8 (m % 256)] 5))
  have HW0 := Lib.hid (hw.alloc (.cells #[.int .u8 (m / 256), .int .u8 (m % 256)] 5))
  clear ho hw
  go_enter Tryd.func72, Tryd.ntmps72
  go_wp2_with (first
    | (refine wpList_append2 (by rfl) _ _ rfl base A n c (bv s) rfl HO1.out _ _ 2 2 (bv (toBe 2 m.toNat)) rfl (by rw [← HB2.out]; exact row_vals22 w _ 2 _ rfl rfl) (by intro u hu; rw [← HB2.out] at hu; simp at hu; rcases hu with rfl | rfl <;> rfl) (by omega) (by simp; omega) ?_; intro A' c' w1 hown1 hg1; have hw1 := HW0.out.grown hg1 (row_ne2 HO1.out HW0.out (by decide)))
    | (refine wpList_store_sl (by rfl) _ _ rfl gw 0 A' (n + 2) c' rfl rfl 121 _ _ hw1 rfl ?_; intro w2 hb2 hg2 hs2))
  refine bodyPost_end (results_none rfl _ _ _) rfl ?_
  have hal := alloc_below w (.cells #[.int .u8 (m / 256), .int .u8 (m % 256)] 5)
  refine ⟨rfl, A', c', hb2, ?_, ?_, ?_⟩
  · rw [bv_append]
    exact own_other hown1 hw1 (by decide) hg2
  · exact bgrown (bgrown' ((Below.refl B w).trans (hal.mono (by omega))) hg1 (by simp; omega) (fun g hg => by have := (HO1.out.lt g hg).1; omega)) hg2 (by have := hg1.size; simp at this; omega) hBg
  · refine (KeepT.grown (World.grownBy_alloc w _ none) (fun g e => by cases e)).trans ((KeepT.grown hg1 (fun g e => .inr (blk_row HO1.out g e))).trans (KeepT.grown hg2 (fun g e => .inl (by injection e with e; exact e.symm))))

set_option maxHeartbeats 4000000 in
theorem object_any (B base gw : Nat) (A : Option Addr) (n c : Nat) (s : List UInt8) (x : Xo) (w : World) (hw : Blk w gw 121 [.slice A n c]) (ho : Own w base 5 1 A n c (bv s)) (hB : B ≤ base) (hBg : B ≤ gw) (hbase : base ≤ w.heap.size) (hn : n ≤ 10000000000) (hx : x.ok w) (hxB : Row w B 1 x.A x.n (bv x.body)) (hxn : x.n ≤ 60000) :
    Calls Tryd.prog 67 #[.pointer (some ⟨gw, 0, none⟩), .agg x.cells.toArray] w fun e w' => e = .returned (.tuple #[]) ∧ WrP B base gw (n + (x.n + 4)) (s ++ obB x.ob) w w' := by
  have HX := Lib.hid hx
  have HXB := Lib.hid hxB
  have HXL := Lib.hid hx.len
  have LIT := Lib.hid (show bv [ub x.cls, ub x.kind] = [.int .u8 x.cls, .int .u8 x.kind] by simp [bv, ub_nat x.cls hx.cls.1 hx.cls.2, ub_nat x.kind hx.kind.1 hx.kind.2])
  have HW := Lib.hid hw
  have HO := Lib.hid ho
  have hlt := hw.lt
  clear hx hxB hw ho
  go_enter Tryd.func67, Tryd.ntmps67
  go_upto_region 1 with (refine wpList_box_blk (by rfl) 80 _ rfl x.cells rfl ?_; intro w1 hb1 hB1 hs1)
  obtain ⟨g3, hg3⟩ : ∃ g, w.heap.size = g := ⟨_, rfl⟩
  rw [hg3] at hb1 hlt
  try rw [hg3]
  replace HW := Lib.hid (HW.out.on hB1)
  replace HO := Lib.hid (HO.out.below hB1)
  replace HXB := Lib.hid (HXB.out.below (hB1.mono (by omega)))
  have HB := Lib.hid hb1
  have HBE := Lib.hid (show Below B w w1 from hB1.mono (by omega))
  have HKT := Lib.hid (show KeepT gw w w1 from fun g t cs _ _ h => h.on hB1)
  have HS := Lib.hid (show w1.heap.size = g3 + 1 by omega)
  have HLT := Lib.hid (show base ≤ w.heap.size ∧ B ≤ w.heap.size by omega)
  have HBS := Lib.hid (show base ≤ g3 ∧ gw < g3 ∧ B ≤ g3 by omega)
  clear hb1 hB1 hs1 hg3
  refine wp_region_last 7 (fun A B => A.grownBy B none) (fun A => grown_refl A _) (fun A B C h k => grown_trans h k) (relAt (List.cons (fun v _ => v = .pointer (some ⟨gw, 0, none⟩)) (List.cons (fun v _ => v = .pointer (some ⟨gw, 0, none⟩)) (List.cons (fun v _ => v = .pointer (some ⟨gw, 0, none⟩)) (List.cons (fun v _ => v = .pointer (some ⟨g3, 2, none⟩)) (List.cons (fun v _ => v = .slice x.A x.n x.c) (List.cons (fun v _ => v = .int .i64 (x.n : Int)) (List.cons (fun v _ => v = .int .i64 (4 + (x.n : Int))) ([]))))))))) (MonoL.at_ (.cons (mono_val _) (.cons (mono_val _) (.cons (mono_val _) (.cons (mono_val _) (.cons (mono_val _) (.cons (mono_val _) (.cons (mono_val _) .nil)))))))) (by kernel_rfl) (by kernel_rfl) rfl (by kernel_rfl) _ rfl rfl ⟨?_, ?_, ?_, ?_, ?_, ?_, ?_, trivial⟩ ?_
  · intro a vs W hX hR he hf K hK
    rw [if_pos (wanted_none rfl)]
    have e0 : a.eval (.tmp 0) = .pointer (some ⟨gw, 0, none⟩) := hf 0 (by kernel_rfl)
    refine wp_value (v := .pointer (some ⟨gw, 0, none⟩)) ?_ (hK _ _ rfl (grown_refl W _))
    simp only [execOp, e0]
    try go_simp
    try (first | rfl | omega | (simp only [IntKind.wrap_i64, IntKind.wrap_u8, IntKind.wrap_u64, IntKind.wrap_u16, IntKind.wrap_u32]; omega) | (rw [Int.tmod_eq_emod_of_nonneg (by omega)]) | (rw [Int.tmod_eq_emod_of_nonneg (by omega)]; omega))
  · intro a vs W hX hR he hf K hK
    rw [if_pos (wanted_none rfl)]
    have e4 : a.eval (.tmp 4) = .pointer (some ⟨gw, 0, none⟩) := (he 0 4 (by kernel_rfl) rfl).trans (hR 0 (by kernel_rfl))
    refine wp_value (v := .pointer (some ⟨gw, 0, none⟩)) ?_ (hK _ _ rfl (grown_refl W _))
    simp only [execOp, e4]
    try go_simp
    try (first | rfl | omega | (simp only [IntKind.wrap_i64, IntKind.wrap_u8, IntKind.wrap_u64, IntKind.wrap_u16, IntKind.wrap_u32]; omega) | (rw [Int.tmod_eq_emod_of_nonneg (by omega)]) | (rw [Int.tmod_eq_emod_of_nonneg (by omega)]; omega))
  · intro a vs W hX hR he hf K hK
    rw [if_pos (wanted_none rfl)]
    have e5 : a.eval (.tmp 5) = .pointer (some ⟨gw, 0, none⟩) := (he 1 5 (by kernel_rfl) rfl).trans (hR 1 (by kernel_rfl))
    refine wp_value (v := .pointer (some ⟨gw, 0, none⟩)) ?_ (hK _ _ rfl (grown_refl W _))
    simp only [execOp, e5]
    try go_simp
    try (first | rfl | omega | (simp only [IntKind.wrap_i64, IntKind.wrap_u8, IntKind.wrap_u64, IntKind.wrap_u16, IntKind.wrap_u32]; omega) | (rw [Int.tmod_eq_emod_of_nonneg (by omega)]) | (rw [Int.tmod_eq_emod_of_nonneg (by omega)]; omega))
  · intro a vs W hX hR he hf K hK
    rw [if_pos (wanted_none rfl)]
    have e3 : a.eval (.tmp 3) = .pointer (some ⟨g3, 0, none⟩) := hf 3 (by kernel_rfl)
    refine wp_value (v := .pointer (some ⟨g3, 2, none⟩)) ?_ (hK _ _ rfl (grown_refl W _))
    simp only [execOp, e3]
    try go_simp
    try (first | rfl | omega | (simp only [IntKind.wrap_i64, IntKind.wrap_u8, IntKind.wrap_u64, IntKind.wrap_u16, IntKind.wrap_u32]; omega) | (rw [Int.tmod_eq_emod_of_nonneg (by omega)]) | (rw [Int.tmod_eq_emod_of_nonneg (by omega)]; omega))
  · intro a vs W hX hR he hf K hK
    rw [if_pos (wanted_none rfl)]
    have e7 : a.eval (.tmp 7) = .pointer (some ⟨g3, 2, none⟩) := (he 3 7 (by kernel_rfl) rfl).trans (hR 3 (by kernel_rfl))
    have hbW := bthen (below_drew _) (grow_below hX)
    have hc : W.cell? ⟨g3, 2, none⟩ = some (.slice x.A x.n x.c) := ((HB.out.on hbW).cell 2).trans (rfl : x.cells[2]? = some (.slice x.A x.n x.c))
    refine wp_value (v := _) ?_ (hK _ _ rfl (grown_refl W _))
    simp only [execOp, e7]
    try go_simp
  · intro a vs W hX hR he hf K hK
    rw [if_pos (wanted_none rfl)]
    have e8 : a.eval (.tmp 8) = .slice x.A x.n x.c := (he 4 8 (by kernel_rfl) rfl).trans (hR 4 (by kernel_rfl))
    have f8 := e8
    simp only [Act.eval, Array.getD_eq_getD_getElem?] at f8
    refine wp_value (v := .int .i64 (x.n : Int)) ?_ (hK _ _ rfl (grown_refl W _))
    simp only [execOp, e8]
    try go_simp
    try (first | rfl | omega | (simp only [IntKind.wrap_i64, IntKind.wrap_u8, IntKind.wrap_u64, IntKind.wrap_u16, IntKind.wrap_u32]; omega) | (rw [Int.tmod_eq_emod_of_nonneg (by omega)]) | (rw [Int.tmod_eq_emod_of_nonneg (by omega)]; omega))
  · intro a vs W hX hR he hf K hK
    rw [if_pos (wanted_none rfl)]
    have e9 : a.eval (.tmp 9) = .int .i64 (x.n : Int) := (he 5 9 (by kernel_rfl) rfl).trans (hR 5 (by kernel_rfl))
    refine wp_value (v := .int .i64 (4 + (x.n : Int))) ?_ (hK _ _ rfl (grown_refl W _))
    simp only [execOp, e9]
    try go_simp
    try (first | rfl | omega | (simp only [IntKind.wrap_i64, IntKind.wrap_u8, IntKind.wrap_u64, IntKind.wrap_u16, IntKind.wrap_u32]; omega) | (rw [Int.tmod_eq_emod_of_nonneg (by omega)]) | (rw [Int.tmod_eq_emod_of_nonneg (by omega)]; omega))
  · intro vs w2 hX2 hR
    have q0 := hR 0 (by decide)
    have q1 := hR 1 (by decide)
    have q2 := hR 2 (by decide)
    have q3 := hR 3 (by decide)
    have q4 := hR 4 (by decide)
    have q5 := hR 5 (by decide)
    have q6 := hR 6 (by decide)
    change vs 0 = .pointer (some ⟨gw, 0, none⟩) at q0
    change vs 1 = .pointer (some ⟨gw, 0, none⟩) at q1
    change vs 2 = .pointer (some ⟨gw, 0, none⟩) at q2
    change vs 3 = .pointer (some ⟨g3, 2, none⟩) at q3
    change vs 4 = .slice x.A x.n x.c at q4
    change vs 5 = .int .i64 (x.n : Int) at q5
    change vs 6 = .int .i64 (4 + (x.n : Int)) at q6
    simp only [putAll, Act.put, List.setIfInBounds_toArray, List.set_cons_zero, List.set_cons_succ, List.take_succ_cons, List.take_zero, q0, q1, q2, q3, q4, q5, q6]
    clear q0 q1 q2 q3 q4 q5 q6
    clear hR
    have hB2 := bthen (below_drew w1) (grow_below hX2)
    have hw2 := HW.out.on hB2
    have ho2 := HO.out.below hB2
    refine wp_enter (f := 72) (args := #[.pointer (some ⟨gw, 0, none⟩), .int .i64 (4 + (x.n : Int))]) (by simp only [execOp]; go_simp) ((two_any B base gw A n c s (4 + (x.n : Int)) w2 hw2 ho2 hB hBg (by have := hB2.size; have := HS.out; have := HBS.out; omega) (by omega) (by omega) (by omega)).mono ?_)
    rintro e w3 ⟨rfl, A3, c3, hw3, ho3, hb3, hk3⟩
    refine ⟨_, rfl, ?_⟩
    try simp only [List.getElem_toArray, List.getElem_cons_succ, List.getElem_cons_zero, Act.put, List.setIfInBounds_toArray, List.set_cons_zero, List.set_cons_succ]
    have hk23 : KeepT gw w1 w3 := (show KeepT gw w1 w2 from fun g t cs _ _ h => h.on hB2).trans hk3
    replace HB := Lib.hid (hk23 _ _ _ (by decide) (by have := HBS.out; omega) HB.out)
    replace HKT := Lib.hid (HKT.out.trans hk23)
    have hbe : Below B w1 w3 := (hB2.mono (by have := HBS.out; have := HS.out; omega)).trans hb3
    replace HBE := Lib.hid (HBE.out.trans hbe)
    replace HXB := Lib.hid (HXB.out.below hbe)
    have HS3 := Lib.hid (show g3 + 1 ≤ w3.heap.size by have h1 := hB2.size; have h2 := hb3.size; have := HS.out; omega)
    have htn : (4 + (x.n : Int)).toNat = x.n + 4 := by omega
    rw [htn] at ho3
    have HW3 := Lib.hid hw3
    have HO3 := Lib.hid ho3
    clear hX2 hB2 hw2 ho2 hw3 ho3 hb3 hk3 hk23 hbe htn HW HO HS
    obtain ⟨s3, hs3⟩ : ∃ q, s ++ toBe 2 (x.n + 4) = q := ⟨_, rfl⟩
    rw [hs3] at HO3
    have HS3Q := Lib.hid hs3
    clear hs3
    go_wp2_with fail
    have HRW := Lib.hid (show ∀ r, blk A3 c3 = some r → r < w3.heap.size ∧ base ≤ r from fun r hr => ⟨(HO3.out.lt r hr).2, (HO3.out.lt r hr).1⟩)
    have HGW := Lib.hid (show ∀ W, ExtA ⟨base, n + 2, c3, A3⟩ (bv s3) (bv [ub x.cls, ub x.kind]) w3.drew W → Blk W gw 121 [.slice A3 (n + 2) c3] from fun W hX => (HW3.out.drew).grown hX.grown (row_ne2 HO3.out HW3.out (by decide)))
    have HG3 := Lib.hid (show ∀ W, ExtA ⟨base, n + 2, c3, A3⟩ (bv s3) (bv [ub x.cls, ub x.kind]) w3.drew W → Blk W g3 80 x.cells from fun W hX => (HB.out.drew).grown hX.grown (row_ne2 HO3.out HB.out (by decide)))
    have HBX := Lib.hid (show ∀ W, ExtA ⟨base, n + 2, c3, A3⟩ (bv s3) (bv [ub x.cls, ub x.kind]) w3.drew W → Below B w W from fun W hX => bgrown' (HBE.out.trans (below_drew' B w3)) hX.grown (by have := HBS.out; have := HS3.out; show B ≤ w3.heap.size; omega) (fun r hr => by have := (HRW.out r hr).2; omega))
    have HKX := Lib.hid (show ∀ W, ExtA ⟨base, n + 2, c3, A3⟩ (bv s3) (bv [ub x.cls, ub x.kind]) w3.drew W → KeepT gw w W from fun W hX => HKT.out.trans (KeepT.grown (w := w3) (row := blk A3 c3) (below_drew_grown hX.grown) (fun r hr => .inr (blk_row HO3.out r hr))))
    have HOX := Lib.hid (show ∀ W, ExtA ⟨base, n + 2, c3, A3⟩ (bv s3) (bv [ub x.cls, ub x.kind]) w3.drew W → Own W base 5 1 A3 (n + 2) c3 (bv s3) from fun W hX => hX.pre HO3.out.drew)
    refine wp_region_last 15 (ExtA ⟨base, n + 2, c3, A3⟩ (bv s3) (bv [ub x.cls, ub x.kind])) (ExtA.refl ⟨base, n + 2, c3, A3⟩ (bv s3) (bv [ub x.cls, ub x.kind])) (fun A B C h k => h.trans k) (relAt (List.cons (fun v _ => v = .pointer (some ⟨gw, 0, none⟩)) (List.cons (fun v _ => v = .pointer (some ⟨gw, 0, none⟩)) (List.cons (fun v _ => v = .pointer (some ⟨gw, 0, none⟩)) (List.cons (fun v _ => v = .pointer (some ⟨gw, 0, none⟩)) (List.cons (fun v _ => v = .pointer (some ⟨gw, 0, none⟩)) (List.cons (fun v _ => v = .slice A3 (n + 2) c3) (List.cons (fun v _ => v = .pointer (some ⟨g3, 0, none⟩)) (List.cons (fun v _ => v = .int .u8 x.cls) (List.cons (fun v _ => v = .pointer (some ⟨g3, 1, none⟩)) (List.cons (fun v _ => v = .int .u8 x.kind) (List.cons (fun v W => ∃ g, v = .slice (some ⟨g, 0, none⟩) 2 2 ∧ w3.heap.size ≤ g ∧ Blk W g 5 [.int .u8 x.cls, .int .u8 x.kind]) (List.cons (OwnV base (n + 2 + (bv [ub x.cls, ub x.kind]).length) (bv s3 ++ bv [ub x.cls, ub x.kind])) (List.cons (fun v _ => v = .pointer (some ⟨gw, 0, none⟩)) (List.cons (fun v _ => v = .pointer (some ⟨gw, 0, none⟩)) (List.cons (fun v _ => v = .pointer (some ⟨gw, 0, none⟩)) ([]))))))))))))))))) (MonoL.at_ (.cons (mono_val _) (.cons (mono_val _) (.cons (mono_val _) (.cons (mono_val _) (.cons (mono_val _) (.cons (mono_val _) (.cons (mono_val _) (.cons (mono_val _) (.cons (mono_val _) (.cons (mono_val _) (.cons (fun _ _ _ ⟨g, h1, h2, h3⟩ k => ⟨g, h1, h2, h3.grown k.grown (fun e => by have := (HRW.out _ e.symm).1; omega)⟩) (.cons (fun v _ _ h k => k.stays v h) (.cons (mono_val _) (.cons (mono_val _) (.cons (mono_val _) .nil)))))))))))))))) (by kernel_rfl) (by kernel_rfl) rfl (by kernel_rfl) _ rfl rfl ⟨?_, ?_, ?_, ?_, ?_, ?_, ?_, ?_, ?_, ?_, ?_, ?_, ?_, ?_, ?_, trivial⟩ ?_
    · intro a vs W hX hR he hf K hK
      rw [if_pos (wanted_none rfl)]
      have e0 : a.eval (.tmp 0) = .pointer (some ⟨gw, 0, none⟩) := hf 0 (by kernel_rfl)
      refine wp_value (v := .pointer (some ⟨gw, 0, none⟩)) ?_ (hK _ _ rfl (ExtA.refl _ _ _ W))
      simp only [execOp, e0]
      try go_simp
      try (first | rfl | omega | (simp only [IntKind.wrap_i64, IntKind.wrap_u8, IntKind.wrap_u64, IntKind.wrap_u16, IntKind.wrap_u32]; omega) | (rw [Int.tmod_eq_emod_of_nonneg (by omega)]) | (rw [Int.tmod_eq_emod_of_nonneg (by omega)]; omega))
    · intro a vs W hX hR he hf K hK
      rw [if_pos (wanted_none rfl)]
      have e0 : a.eval (.tmp 0) = .pointer (some ⟨gw, 0, none⟩) := hf 0 (by kernel_rfl)
      refine wp_value (v := .pointer (some ⟨gw, 0, none⟩)) ?_ (hK _ _ rfl (ExtA.refl _ _ _ W))
      simp only [execOp, e0]
      try go_simp
      try (first | rfl | omega | (simp only [IntKind.wrap_i64, IntKind.wrap_u8, IntKind.wrap_u64, IntKind.wrap_u16, IntKind.wrap_u32]; omega) | (rw [Int.tmod_eq_emod_of_nonneg (by omega)]) | (rw [Int.tmod_eq_emod_of_nonneg (by omega)]; omega))
    · intro a vs W hX hR he hf K hK
      rw [if_pos (wanted_none rfl)]
      have e13 : a.eval (.tmp 13) = .pointer (some ⟨gw, 0, none⟩) := (he 1 13 (by kernel_rfl) rfl).trans (hR 1 (by kernel_rfl))
      refine wp_value (v := .pointer (some ⟨gw, 0, none⟩)) ?_ (hK _ _ rfl (ExtA.refl _ _ _ W))
      simp only [execOp, e13]
      try go_simp
      try (first | rfl | omega | (simp only [IntKind.wrap_i64, IntKind.wrap_u8, IntKind.wrap_u64, IntKind.wrap_u16, IntKind.wrap_u32]; omega) | (rw [Int.tmod_eq_emod_of_nonneg (by omega)]) | (rw [Int.tmod_eq_emod_of_nonneg (by omega)]; omega))
    · intro a vs W hX hR he hf K hK
      rw [if_pos (wanted_none rfl)]
      have e14 : a.eval (.tmp 14) = .pointer (some ⟨gw, 0, none⟩) := (he 2 14 (by kernel_rfl) rfl).trans (hR 2 (by kernel_rfl))
      refine wp_value (v := .pointer (some ⟨gw, 0, none⟩)) ?_ (hK _ _ rfl (ExtA.refl _ _ _ W))
      simp only [execOp, e14]
      try go_simp
      try (first | rfl | omega | (simp only [IntKind.wrap_i64, IntKind.wrap_u8, IntKind.wrap_u64, IntKind.wrap_u16, IntKind.wrap_u32]; omega) | (rw [Int.tmod_eq_emod_of_nonneg (by omega)]) | (rw [Int.tmod_eq_emod_of_nonneg (by omega)]; omega))
    · intro a vs W hX hR he hf K hK
      rw [if_pos (wanted_none rfl)]
      have e15 : a.eval (.tmp 15) = .pointer (some ⟨gw, 0, none⟩) := (he 3 15 (by kernel_rfl) rfl).trans (hR 3 (by kernel_rfl))
      refine wp_value (v := .pointer (some ⟨gw, 0, none⟩)) ?_ (hK _ _ rfl (ExtA.refl _ _ _ W))
      simp only [execOp, e15]
      try go_simp
      try (first | rfl | omega | (simp only [IntKind.wrap_i64, IntKind.wrap_u8, IntKind.wrap_u64, IntKind.wrap_u16, IntKind.wrap_u32]; omega) | (rw [Int.tmod_eq_emod_of_nonneg (by omega)]) | (rw [Int.tmod_eq_emod_of_nonneg (by omega)]; omega))
    · intro a vs W hX hR he hf K hK
      rw [if_pos (wanted_none rfl)]
      have e16 : a.eval (.tmp 16) = .pointer (some ⟨gw, 0, none⟩) := (he 4 16 (by kernel_rfl) rfl).trans (hR 4 (by kernel_rfl))
      have hc : W.cell? ⟨gw, 0, none⟩ = some (.slice A3 (n + 2) c3) := (HGW.out W hX).cell 0
      refine wp_value (v := _) ?_ (hK _ _ rfl (ExtA.refl _ _ _ W))
      simp only [execOp, e16]
      go_simp
    · intro a vs W hX hR he hf K hK
      rw [if_pos (wanted_none rfl)]
      have e3 : a.eval (.tmp 3) = .pointer (some ⟨g3, 0, none⟩) := hf 3 (by kernel_rfl)
      refine wp_value (v := .pointer (some ⟨g3, 0, none⟩)) ?_ (hK _ _ rfl (ExtA.refl _ _ _ W))
      simp only [execOp, e3]
      try go_simp
      try (first | rfl | omega | (simp only [IntKind.wrap_i64, IntKind.wrap_u8, IntKind.wrap_u64, IntKind.wrap_u16, IntKind.wrap_u32]; omega) | (rw [Int.tmod_eq_emod_of_nonneg (by omega)]) | (rw [Int.tmod_eq_emod_of_nonneg (by omega)]; omega))
    · intro a vs W hX hR he hf K hK
      rw [if_pos (wanted_none rfl)]
      have e18 : a.eval (.tmp 18) = .pointer (some ⟨g3, 0, none⟩) := (he 6 18 (by kernel_rfl) rfl).trans (hR 6 (by kernel_rfl))
      have hc : W.cell? ⟨g3, 0, none⟩ = some (.int .u8 x.cls) := (HG3.out W hX).cell 0
      refine wp_value (v := _) ?_ (hK _ _ rfl (ExtA.refl _ _ _ W))
      simp only [execOp, e18]
      go_simp
    · intro a vs W hX hR he hf K hK
      rw [if_pos (wanted_none rfl)]
      have e3 : a.eval (.tmp 3) = .pointer (some ⟨g3, 0, none⟩) := hf 3 (by kernel_rfl)
      refine wp_value (v := .pointer (some ⟨g3, 1, none⟩)) ?_ (hK _ _ rfl (ExtA.refl _ _ _ W))
      simp only [execOp, e3]
      try go_simp
      try (first | rfl | omega | (simp only [IntKind.wrap_i64, IntKind.wrap_u8, IntKind.wrap_u64, IntKind.wrap_u16, IntKind.wrap_u32]; omega) | (rw [Int.tmod_eq_emod_of_nonneg (by omega)]) | (rw [Int.tmod_eq_emod_of_nonneg (by omega)]; omega))
    · intro a vs W hX hR he hf K hK
      rw [if_pos (wanted_none rfl)]
      have e20 : a.eval (.tmp 20) = .pointer (some ⟨g3, 1, none⟩) := (he 8 20 (by kernel_rfl) rfl).trans (hR 8 (by kernel_rfl))
      have hc : W.cell? ⟨g3, 1, none⟩ = some (.int .u8 x.kind) := (HG3.out W hX).cell 1
      refine wp_value (v := _) ?_ (hK _ _ rfl (ExtA.refl _ _ _ W))
      simp only [execOp, e20]
      go_simp
    · intro a vs W hX hR he hf K hK
      rw [if_pos (wanted_none rfl)]
      have e19 : a.eval (.tmp 19) = .int .u8 x.cls := (he 7 19 (by kernel_rfl) rfl).trans (hR 7 (by kernel_rfl))
      have e21 : a.eval (.tmp 21) = .int .u8 x.kind := (he 9 21 (by kernel_rfl) rfl).trans (hR 9 (by kernel_rfl))
      have f19 := e19
      simp only [Act.eval, Array.getD_eq_getD_getElem?] at f19
      have f21 := e21
      simp only [Act.eval, Array.getD_eq_getD_getElem?] at f21
      refine wp_value (v := .slice (some ⟨W.heap.size, 0, none⟩) 2 2) (w' := W.alloc (.cells #[.int .u8 x.cls, .int .u8 x.kind] 5)) ?_ (hK _ _ ⟨_, rfl, by have := hX.grown.size; simpa using this, Blk.new W 5 [.int .u8 x.cls, .int .u8 x.kind]⟩ (ExtA.plain (World.grownBy_alloc _ _ _)))
      simp only [execOp, f19, f21]
      go_simp
    · intro a vs W hX hR he hf K hK
      rw [if_pos (wanted_none rfl)]
      have e17 : a.eval (.tmp 17) = .slice A3 (n + 2) c3 := (he 5 17 (by kernel_rfl) rfl).trans (hR 5 (by kernel_rfl))
      have e22 := he 10 22 (by kernel_rfl) rfl
      have p22 := hR 10 (by kernel_rfl)
      change (fun v W => ∃ g, v = .slice (some ⟨g, 0, none⟩) 2 2 ∧ w3.heap.size ≤ g ∧ Blk W g 5 [.int .u8 x.cls, .int .u8 x.kind]) (vs 10) W at p22
      have f17 := e17
      simp only [Act.eval, Array.getD_eq_getD_getElem?] at f17
      have f22 := e22
      simp only [Act.eval, Array.getD_eq_getD_getElem?] at f22
      obtain ⟨g, hv, hg, hblk⟩ := p22
      rw [hv] at e22
      have hrw := hblk.row 1 0 2 (by simp)
      refine wp_append2 (w := W) (.tmp 17) (.tmp 22) rfl base (A3) (n + 2) c3 (bv s3) e17 (HOX.out W hX) _ _ 2 _ (bv [ub x.cls, ub x.kind]) e22 (by rw [LIT.out]; exact hrw) (one_bv _) (by omega) (by have h1 := HBS.out; have h2 := (HBX.out W hX).size; have h3 := HLT.out; omega) ?_
      intro A' c' w' hown' hg' hin
      rw [show (2 : Nat) = (bv [ub x.cls, ub x.kind]).length from rfl] at hown' hg' hin ⊢
      exact hK _ _ ⟨A', c', rfl, hown'⟩ (ExtA.app (p := ⟨base, n + 2, c3, A3⟩) (HOX.out W hX) hown' hg' hin)
    · intro a vs W hX hR he hf K hK
      rw [if_pos (wanted_none rfl)]
      have e12 : a.eval (.tmp 12) = .pointer (some ⟨gw, 0, none⟩) := (he 0 12 (by kernel_rfl) rfl).trans (hR 0 (by kernel_rfl))
      refine wp_value (v := .pointer (some ⟨gw, 0, none⟩)) ?_ (hK _ _ rfl (ExtA.refl _ _ _ W))
      simp only [execOp, e12]
      try go_simp
      try (first | rfl | omega | (simp only [IntKind.wrap_i64, IntKind.wrap_u8, IntKind.wrap_u64, IntKind.wrap_u16, IntKind.wrap_u32]; omega) | (rw [Int.tmod_eq_emod_of_nonneg (by omega)]) | (rw [Int.tmod_eq_emod_of_nonneg (by omega)]; omega))
    · intro a vs W hX hR he hf K hK
      rw [if_pos (wanted_none rfl)]
      have e24 : a.eval (.tmp 24) = .pointer (some ⟨gw, 0, none⟩) := (he 12 24 (by kernel_rfl) rfl).trans (hR 12 (by kernel_rfl))
      refine wp_value (v := .pointer (some ⟨gw, 0, none⟩)) ?_ (hK _ _ rfl (ExtA.refl _ _ _ W))
      simp only [execOp, e24]
      try go_simp
      try (first | rfl | omega | (simp only [IntKind.wrap_i64, IntKind.wrap_u8, IntKind.wrap_u64, IntKind.wrap_u16, IntKind.wrap_u32]; omega) | (rw [Int.tmod_eq_emod_of_nonneg (by omega)]) | (rw [Int.tmod_eq_emod_of_nonneg (by omega)]; omega))
    · intro a vs W hX hR he hf K hK
      rw [if_pos (wanted_none rfl)]
      have e25 : a.eval (.tmp 25) = .pointer (some ⟨gw, 0, none⟩) := (he 13 25 (by kernel_rfl) rfl).trans (hR 13 (by kernel_rfl))
      refine wp_value (v := .pointer (some ⟨gw, 0, none⟩)) ?_ (hK _ _ rfl (ExtA.refl _ _ _ W))
      simp only [execOp, e25]
      try go_simp
      try (first | rfl | omega | (simp only [IntKind.wrap_i64, IntKind.wrap_u8, IntKind.wrap_u64, IntKind.wrap_u16, IntKind.wrap_u32]; omega) | (rw [Int.tmod_eq_emod_of_nonneg (by omega)]) | (rw [Int.tmod_eq_emod_of_nonneg (by omega)]; omega))
    · intro vs wq hXq hR
      have q0 := hR 0 (by decide)
      have q1 := hR 1 (by decide)
      have q2 := hR 2 (by decide)
      have q3 := hR 3 (by decide)
      have q4 := hR 4 (by decide)
      have q5 := hR 5 (by decide)
      have q6 := hR 6 (by decide)
      have q7 := hR 7 (by decide)
      have q8 := hR 8 (by decide)
      have q9 := hR 9 (by decide)
      have q10 := hR 10 (by decide)
      have q11 := hR 11 (by decide)
      have q12 := hR 12 (by decide)
      have q13 := hR 13 (by decide)
      have q14 := hR 14 (by decide)
      change vs 0 = .pointer (some ⟨gw, 0, none⟩) at q0
      change vs 1 = .pointer (some ⟨gw, 0, none⟩) at q1
      change vs 2 = .pointer (some ⟨gw, 0, none⟩) at q2
      change vs 3 = .pointer (some ⟨gw, 0, none⟩) at q3
      change vs 4 = .pointer (some ⟨gw, 0, none⟩) at q4
      change vs 5 = .slice A3 (n + 2) c3 at q5
      change vs 6 = .pointer (some ⟨g3, 0, none⟩) at q6
      change vs 7 = .int .u8 x.cls at q7
      change vs 8 = .pointer (some ⟨g3, 1, none⟩) at q8
      change vs 9 = .int .u8 x.kind at q9
      change (fun v W => ∃ g, v = .slice (some ⟨g, 0, none⟩) 2 2 ∧ w3.heap.size ≤ g ∧ Blk W g 5 [.int .u8 x.cls, .int .u8 x.kind]) (vs 10) wq at q10
      change (OwnV base (n + 2 + (bv [ub x.cls, ub x.kind]).length) (bv s3 ++ bv [ub x.cls, ub x.kind])) (vs 11) wq at q11
      change vs 12 = .pointer (some ⟨gw, 0, none⟩) at q12
      change vs 13 = .pointer (some ⟨gw, 0, none⟩) at q13
      change vs 14 = .pointer (some ⟨gw, 0, none⟩) at q14
      simp only [putAll, Act.put, List.setIfInBounds_toArray, List.set_cons_zero, List.set_cons_succ, List.take_succ_cons, List.take_zero, q0, q1, q2, q3, q4, q5, q6, q7, q8, q9, q12, q13, q14]
      clear q0 q1 q2 q3 q4 q5 q6 q7 q8 q9 q12 q13 q14
      clear hR
      obtain ⟨A9, c9, hv9, ho9⟩ := q11
      rw [hv9]
      have hw9 := HGW.out wq hXq
      refine wp_store_sl _ _ rfl gw 0 A9 (n + 2 + (bv [ub x.cls, ub x.kind]).length) c9 rfl rfl 121 _ _ hw9 rfl ?_
      intro wr hbr hgr hsr
      have ho10 := own_other ho9 hw9 (by decide) hgr
      have hbe := bgrown (HBX.out wq hXq) hgr (by have := (HBX.out wq hXq).size; have := HBS.out; have := HLT.out; omega) hBg
      have hkt := (HKX.out wq hXq).trans (KeepT.grown hgr (fun r hr => .inl (by injection hr with hr; exact hr.symm)))
      try simp only [List.getElem_toArray, List.getElem_cons_succ, List.getElem_cons_zero, Act.put, List.setIfInBounds_toArray, List.set_cons_zero, List.set_cons_succ]
      have HW5 := Lib.hid hbr
      have HO5 := Lib.hid (show Own wr base 5 1 A9 (n + 2 + 2) c9 (bv (s3 ++ [ub x.cls, ub x.kind])) by rw [bv_append]; exact ho10)
      replace HB := Lib.hid ((HG3.out wq hXq).grown hgr (by intro e; injection e with e; have := HBS.out; omega))
      replace HXB := Lib.hid (HXB.out.below (show Below B w3 wr from bgrown (bgrown' (below_drew' B w3) hXq.grown (by have := HBS.out; have := HS3.out; show B ≤ w3.heap.size; omega) (fun r hr => by have := (HRW.out r hr).2; omega)) hgr (by have := hXq.grown.size; have := HS3.out; have := HBS.out; have h5 : w3.drew.heap.size = w3.heap.size := rfl; omega) hBg))
      replace HKT := Lib.hid hkt
      replace HBE := Lib.hid hbe
      have HS5 := Lib.hid (show g3 + 1 ≤ wr.heap.size by have := hXq.grown.size; have := HS3.out; have h5 : w3.drew.heap.size = w3.heap.size := rfl; omega)
      obtain ⟨w5, hw5⟩ : ∃ q, q = wr := ⟨_, rfl⟩
      obtain ⟨A5, hA5⟩ : ∃ q, q = A9 := ⟨_, rfl⟩
      obtain ⟨c5, hc5⟩ : ∃ q, q = c9 := ⟨_, rfl⟩
      subst hw5 hA5 hc5
      obtain ⟨N5, hN5⟩ : ∃ q, n + 2 + 2 = q := ⟨_, rfl⟩
      obtain ⟨s5, hs5⟩ : ∃ q, s3 ++ [ub x.cls, ub x.kind] = q := ⟨_, rfl⟩
      rw [show n + 2 + (bv [ub x.cls, ub x.kind]).length = N5 from hN5]
      replace HW5 := Lib.hid (show Blk w5 gw 121 [.slice A5 N5 c5] by rw [← hN5]; exact HW5.out)
      rw [hN5, hs5] at HO5
      have HN5 := Lib.hid hN5
      have HS5Q := Lib.hid hs5
      have hN5b : N5 ≤ 20000000000 := by omega
      clear hN5 hs5 HRW HGW HG3 HBX HKX HOX hXq hv9 ho9 hw9 hbr hgr hsr ho10 hbe hkt HW3 HO3 HS3
      go_wp2_with fail
      have HRW := Lib.hid (show ∀ r, blk A5 c5 = some r → r < w5.heap.size ∧ base ≤ r from fun r hr => ⟨(HO5.out.lt r hr).2, (HO5.out.lt r hr).1⟩)
      have HGW := Lib.hid (show ∀ W, ExtA ⟨base, N5, c5, A5⟩ (bv s5) (bv x.body) w5.drew W → Blk W gw 121 [.slice A5 (N5) c5] from fun W hX => (HW5.out.drew).grown hX.grown (row_ne2 HO5.out HW5.out (by decide)))
      have HG3 := Lib.hid (show ∀ W, ExtA ⟨base, N5, c5, A5⟩ (bv s5) (bv x.body) w5.drew W → Blk W g3 80 x.cells from fun W hX => (HB.out.drew).grown hX.grown (row_ne2 HO5.out HB.out (by decide)))
      have HBX := Lib.hid (show ∀ W, ExtA ⟨base, N5, c5, A5⟩ (bv s5) (bv x.body) w5.drew W → Below B w W from fun W hX => bgrown' (HBE.out.trans (below_drew' B w5)) hX.grown (by have := HBS.out; have := HS5.out; show B ≤ w5.heap.size; omega) (fun r hr => by have := (HRW.out r hr).2; omega))
      have HKX := Lib.hid (show ∀ W, ExtA ⟨base, N5, c5, A5⟩ (bv s5) (bv x.body) w5.drew W → KeepT gw w W from fun W hX => HKT.out.trans (KeepT.grown (w := w5) (row := blk A5 c5) (below_drew_grown hX.grown) (fun r hr => .inr (blk_row HO5.out r hr))))
      have HOX := Lib.hid (show ∀ W, ExtA ⟨base, N5, c5, A5⟩ (bv s5) (bv x.body) w5.drew W → Own W base 5 1 A5 (N5) c5 (bv s5) from fun W hX => hX.pre HO5.out.drew)
      refine wp_region_last 12 (ExtA ⟨base, N5, c5, A5⟩ (bv s5) (bv x.body)) (ExtA.refl ⟨base, N5, c5, A5⟩ (bv s5) (bv x.body)) (fun A B C h k => h.trans k) (relAt (List.cons (fun v _ => v = .pointer (some ⟨gw, 0, none⟩)) (List.cons (fun v _ => v = .pointer (some ⟨gw, 0, none⟩)) (List.cons (fun v _ => v = .pointer (some ⟨gw, 0, none⟩)) (List.cons (fun v _ => v = .pointer (some ⟨gw, 0, none⟩)) (List.cons (fun v _ => v = .pointer (some ⟨gw, 0, none⟩)) (List.cons (fun v _ => v = .slice A5 (N5) c5) (List.cons (fun v _ => v = .pointer (some ⟨g3, 2, none⟩)) (List.cons (fun v _ => v = .slice x.A x.n x.c) (List.cons (OwnV base (N5 + (bv x.body).length) (bv s5 ++ bv x.body)) (List.cons (fun v _ => v = .pointer (some ⟨gw, 0, none⟩)) (List.cons (fun v _ => v = .pointer (some ⟨gw, 0, none⟩)) (List.cons (fun v _ => v = .pointer (some ⟨gw, 0, none⟩)) ([])))))))))))))) (MonoL.at_ (.cons (mono_val _) (.cons (mono_val _) (.cons (mono_val _) (.cons (mono_val _) (.cons (mono_val _) (.cons (mono_val _) (.cons (mono_val _) (.cons (mono_val _) (.cons (fun v _ _ h k => k.stays v h) (.cons (mono_val _) (.cons (mono_val _) (.cons (mono_val _) .nil))))))))))))) (by kernel_rfl) (by kernel_rfl) rfl (by kernel_rfl) _ rfl rfl ⟨?_, ?_, ?_, ?_, ?_, ?_, ?_, ?_, ?_, ?_, ?_, ?_, trivial⟩ ?_
      · intro a vs W hX hR he hf K hK
        rw [if_pos (wanted_none rfl)]
        have e0 : a.eval (.tmp 0) = .pointer (some ⟨gw, 0, none⟩) := hf 0 (by kernel_rfl)
        refine wp_value (v := .pointer (some ⟨gw, 0, none⟩)) ?_ (hK _ _ rfl (ExtA.refl _ _ _ W))
        simp only [execOp, e0]
        try go_simp
        try (first | rfl | omega | (simp only [IntKind.wrap_i64, IntKind.wrap_u8, IntKind.wrap_u64, IntKind.wrap_u16, IntKind.wrap_u32]; omega) | (rw [Int.tmod_eq_emod_of_nonneg (by omega)]) | (rw [Int.tmod_eq_emod_of_nonneg (by omega)]; omega))
      · intro a vs W hX hR he hf K hK
        rw [if_pos (wanted_none rfl)]
        have e0 : a.eval (.tmp 0) = .pointer (some ⟨gw, 0, none⟩) := hf 0 (by kernel_rfl)
        refine wp_value (v := .pointer (some ⟨gw, 0, none⟩)) ?_ (hK _ _ rfl (ExtA.refl _ _ _ W))
        simp only [execOp, e0]
        try go_simp
        try (first | rfl | omega | (simp only [IntKind.wrap_i64, IntKind.wrap_u8, IntKind.wrap_u64, IntKind.wrap_u16, IntKind.wrap_u32]; omega) | (rw [Int.tmod_eq_emod_of_nonneg (by omega)]) | (rw [Int.tmod_eq_emod_of_nonneg (by omega)]; omega))
      · intro a vs W hX hR he hf K hK
        rw [if_pos (wanted_none rfl)]
        have e28 : a.eval (.tmp 28) = .pointer (some ⟨gw, 0, none⟩) := (he 1 28 (by kernel_rfl) rfl).trans (hR 1 (by kernel_rfl))
        refine wp_value (v := .pointer (some ⟨gw, 0, none⟩)) ?_ (hK _ _ rfl (ExtA.refl _ _ _ W))
        simp only [execOp, e28]
        try go_simp
        try (first | rfl | omega | (simp only [IntKind.wrap_i64, IntKind.wrap_u8, IntKind.wrap_u64, IntKind.wrap_u16, IntKind.wrap_u32]; omega) | (rw [Int.tmod_eq_emod_of_nonneg (by omega)]) | (rw [Int.tmod_eq_emod_of_nonneg (by omega)]; omega))
      · intro a vs W hX hR he hf K hK
        rw [if_pos (wanted_none rfl)]
        have e29 : a.eval (.tmp 29) = .pointer (some ⟨gw, 0, none⟩) := (he 2 29 (by kernel_rfl) rfl).trans (hR 2 (by kernel_rfl))
        refine wp_value (v := .pointer (some ⟨gw, 0, none⟩)) ?_ (hK _ _ rfl (ExtA.refl _ _ _ W))
        simp only [execOp, e29]
        try go_simp
        try (first | rfl | omega | (simp only [IntKind.wrap_i64, IntKind.wrap_u8, IntKind.wrap_u64, IntKind.wrap_u16, IntKind.wrap_u32]; omega) | (rw [Int.tmod_eq_emod_of_nonneg (by omega)]) | (rw [Int.tmod_eq_emod_of_nonneg (by omega)]; omega))
      · intro a vs W hX hR he hf K hK
        rw [if_pos (wanted_none rfl)]
        have e30 : a.eval (.tmp 30) = .pointer (some ⟨gw, 0, none⟩) := (he 3 30 (by kernel_rfl) rfl).trans (hR 3 (by kernel_rfl))
        refine wp_value (v := .pointer (some ⟨gw, 0, none⟩)) ?_ (hK _ _ rfl (ExtA.refl _ _ _ W))
        simp only [execOp, e30]
        try go_simp
        try (first | rfl | omega | (simp only [IntKind.wrap_i64, IntKind.wrap_u8, IntKind.wrap_u64, IntKind.wrap_u16, IntKind.wrap_u32]; omega) | (rw [Int.tmod_eq_emod_of_nonneg (by omega)]) | (rw [Int.tmod_eq_emod_of_nonneg (by omega)]; omega))
      · intro a vs W hX hR he hf K hK
        rw [if_pos (wanted_none rfl)]
        have e31 : a.eval (.tmp 31) = .pointer (some ⟨gw, 0, none⟩) := (he 4 31 (by kernel_rfl) rfl).trans (hR 4 (by kernel_rfl))
        have hc : W.cell? ⟨gw, 0, none⟩ = some (.slice A5 (N5) c5) := (HGW.out W hX).cell 0
        refine wp_value (v := _) ?_ (hK _ _ rfl (ExtA.refl _ _ _ W))
        simp only [execOp, e31]
        go_simp
      · intro a vs W hX hR he hf K hK
        rw [if_pos (wanted_none rfl)]
        have e3 : a.eval (.tmp 3) = .pointer (some ⟨g3, 0, none⟩) := hf 3 (by kernel_rfl)
        refine wp_value (v := .pointer (some ⟨g3, 2, none⟩)) ?_ (hK _ _ rfl (ExtA.refl _ _ _ W))
        simp only [execOp, e3]
        try go_simp
        try (first | rfl | omega | (simp only [IntKind.wrap_i64, IntKind.wrap_u8, IntKind.wrap_u64, IntKind.wrap_u16, IntKind.wrap_u32]; omega) | (rw [Int.tmod_eq_emod_of_nonneg (by omega)]) | (rw [Int.tmod_eq_emod_of_nonneg (by omega)]; omega))
      · intro a vs W hX hR he hf K hK
        rw [if_pos (wanted_none rfl)]
        have e33 : a.eval (.tmp 33) = .pointer (some ⟨g3, 2, none⟩) := (he 6 33 (by kernel_rfl) rfl).trans (hR 6 (by kernel_rfl))
        have hc : W.cell? ⟨g3, 2, none⟩ = some (.slice x.A x.n x.c) := (HG3.out W hX).cell 2
        refine wp_value (v := _) ?_ (hK _ _ rfl (ExtA.refl _ _ _ W))
        simp only [execOp, e33]
        go_simp
      · intro a vs W hX hR he hf K hK
        rw [if_pos (wanted_none rfl)]
        have e32 : a.eval (.tmp 32) = .slice A5 (N5) c5 := (he 5 32 (by kernel_rfl) rfl).trans (hR 5 (by kernel_rfl))
        have e34 : a.eval (.tmp 34) = .slice x.A x.n x.c := (he 7 34 (by kernel_rfl) rfl).trans (hR 7 (by kernel_rfl))
        have f32 := e32
        simp only [Act.eval, Array.getD_eq_getD_getElem?] at f32
        have f34 := e34
        simp only [Act.eval, Array.getD_eq_getD_getElem?] at f34
        refine wp_append2 (w := W) (.tmp 32) (.tmp 34) rfl base (A5) (N5) c5 (bv s5) e32 (HOX.out W hX) _ _ x.n _ (bv x.body) e34 ((HXB.out.below (show Below B w5 W from bgrown' (below_drew' B w5) hX.grown (by have := HBS.out; have := HS5.out; show B ≤ w5.heap.size; omega) (fun r hr => by have := (HRW.out r hr).2; omega)))) (one_bv _) (by omega) (by have h1 := HBS.out; have h2 := (HBX.out W hX).size; have h3 := HLT.out; omega) ?_
        intro A' c' w' hown' hg' hin
        rw [show (x.n : Nat) = (bv x.body).length from (by rw [bv_length]; exact HXL.out.symm)] at hown' hg' hin ⊢
        exact hK _ _ ⟨A', c', rfl, hown'⟩ (ExtA.app (p := ⟨base, N5, c5, A5⟩) (HOX.out W hX) hown' hg' hin)
      · intro a vs W hX hR he hf K hK
        rw [if_pos (wanted_none rfl)]
        have e27 : a.eval (.tmp 27) = .pointer (some ⟨gw, 0, none⟩) := (he 0 27 (by kernel_rfl) rfl).trans (hR 0 (by kernel_rfl))
        refine wp_value (v := .pointer (some ⟨gw, 0, none⟩)) ?_ (hK _ _ rfl (ExtA.refl _ _ _ W))
        simp only [execOp, e27]
        try go_simp
        try (first | rfl | omega | (simp only [IntKind.wrap_i64, IntKind.wrap_u8, IntKind.wrap_u64, IntKind.wrap_u16, IntKind.wrap_u32]; omega) | (rw [Int.tmod_eq_emod_of_nonneg (by omega)]) | (rw [Int.tmod_eq_emod_of_nonneg (by omega)]; omega))
      · intro a vs W hX hR he hf K hK
        rw [if_pos (wanted_none rfl)]
        have e36 : a.eval (.tmp 36) = .pointer (some ⟨gw, 0, none⟩) := (he 9 36 (by kernel_rfl) rfl).trans (hR 9 (by kernel_rfl))
        refine wp_value (v := .pointer (some ⟨gw, 0, none⟩)) ?_ (hK _ _ rfl (ExtA.refl _ _ _ W))
        simp only [execOp, e36]
        try go_simp
        try (first | rfl | omega | (simp only [IntKind.wrap_i64, IntKind.wrap_u8, IntKind.wrap_u64, IntKind.wrap_u16, IntKind.wrap_u32]; omega) | (rw [Int.tmod_eq_emod_of_nonneg (by omega)]) | (rw [Int.tmod_eq_emod_of_nonneg (by omega)]; omega))
      · intro a vs W hX hR he hf K hK
        rw [if_pos (wanted_none rfl)]
        have e37 : a.eval (.tmp 37) = .pointer (some ⟨gw, 0, none⟩) := (he 10 37 (by kernel_rfl) rfl).trans (hR 10 (by kernel_rfl))
        refine wp_value (v := .pointer (some ⟨gw, 0, none⟩)) ?_ (hK _ _ rfl (ExtA.refl _ _ _ W))
        simp only [execOp, e37]
        try go_simp
        try (first | rfl | omega | (simp only [IntKind.wrap_i64, IntKind.wrap_u8, IntKind.wrap_u64, IntKind.wrap_u16, IntKind.wrap_u32]; omega) | (rw [Int.tmod_eq_emod_of_nonneg (by omega)]) | (rw [Int.tmod_eq_emod_of_nonneg (by omega)]; omega))
      · intro vs wq hXq hR
        have q0 := hR 0 (by decide)
        have q1 := hR 1 (by decide)
        have q2 := hR 2 (by decide)
        have q3 := hR 3 (by decide)
        have q4 := hR 4 (by decide)
        have q5 := hR 5 (by decide)
        have q6 := hR 6 (by decide)
        have q7 := hR 7 (by decide)
        have q8 := hR 8 (by decide)
        have q9 := hR 9 (by decide)
        have q10 := hR 10 (by decide)
        have q11 := hR 11 (by decide)
        change vs 0 = .pointer (some ⟨gw, 0, none⟩) at q0
        change vs 1 = .pointer (some ⟨gw, 0, none⟩) at q1
        change vs 2 = .pointer (some ⟨gw, 0, none⟩) at q2
        change vs 3 = .pointer (some ⟨gw, 0, none⟩) at q3
        change vs 4 = .pointer (some ⟨gw, 0, none⟩) at q4
        change vs 5 = .slice A5 (N5) c5 at q5
        change vs 6 = .pointer (some ⟨g3, 2, none⟩) at q6
        change vs 7 = .slice x.A x.n x.c at q7
        change (OwnV base (N5 + (bv x.body).length) (bv s5 ++ bv x.body)) (vs 8) wq at q8
        change vs 9 = .pointer (some ⟨gw, 0, none⟩) at q9
        change vs 10 = .pointer (some ⟨gw, 0, none⟩) at q10
        change vs 11 = .pointer (some ⟨gw, 0, none⟩) at q11
        simp only [putAll, Act.put, List.setIfInBounds_toArray, List.set_cons_zero, List.set_cons_succ, List.take_succ_cons, List.take_zero, q0, q1, q2, q3, q4, q5, q6, q7, q9, q10, q11]
        clear q0 q1 q2 q3 q4 q5 q6 q7 q9 q10 q11
        clear hR
        obtain ⟨A9, c9, hv9, ho9⟩ := q8
        rw [hv9]
        have hw9 := HGW.out wq hXq
        refine wp_store_sl _ _ rfl gw 0 A9 (N5 + (bv x.body).length) c9 rfl rfl 121 _ _ hw9 rfl ?_
        intro wr hbr hgr hsr
        have ho10 := own_other ho9 hw9 (by decide) hgr
        have hbe := bgrown (HBX.out wq hXq) hgr (by have := (HBX.out wq hXq).size; have := HBS.out; have := HLT.out; omega) hBg
        have hkt := (HKX.out wq hXq).trans (KeepT.grown hgr (fun r hr => .inl (by injection hr with hr; exact hr.symm)))
        try simp only [List.getElem_toArray, List.getElem_cons_succ, List.getElem_cons_zero, Act.put, List.setIfInBounds_toArray, List.set_cons_zero, List.set_cons_succ]
        refine bodyPost_end (results_none rfl _ _ _) rfl ?_
        refine ⟨rfl, A9, c9, ?_, ?_, hbe, hkt⟩
        · rw [show n + (x.n + 4) = N5 + (bv x.body).length by rw [bv_length, HXL.out, ← HN5.out]; omega]
          exact hbr
        · rw [show n + (x.n + 4) = N5 + (bv x.body).length by rw [bv_length, HXL.out, ← HN5.out]; omega, show bv (s ++ obB x.ob) = bv s5 ++ bv x.body by rw [← bv_append, ← HS5Q.out, ← HS3Q.out]; simp [obB, Xo.ob, HXL.out, List.append_assoc]]
          exact ho10
end Go.Proofs.YtckbleiikldloaaDoor


/- Texts of this claim put together, in build order: each one's own remark stands ahead of it. -/
import Derived.Test.YtdmgomknamdcfaaG13
import Derived.Test.YtdmgomknamdcfaaG02
import Derived.Deep.DeepCutAuto
/- Stores and appends that the table (layer 9) does. No condition but sizes. -/
namespace Go.Proofs.Ytdmgomknamdcfaa
open Go.RowKit
set_option linter.unusedVariables false
set_option maxRecDepth 20000
set_option linter.unusedSimpArgs false

theorem Own.shrink {w : World} {base : Nat} {e : TypeId} {sz n c m : Nat} {A : Option Addr} {xs : List Value} (h : Own w base e sz A n c xs) (hm : m ≤ n) : Own w base e sz A m c (xs.take (m * sz)) := by
 have hms : m * sz ≤ n * sz := Nat.mul_le_mul_right _ hm
 have hl := h.len
 refine ⟨by rw [List.length_take, hl]; omega, by have := h.le; omega, h.cap, ?_⟩
 rcases h.own with ⟨h0, hc⟩ | ⟨g, cur, hA, hb, hg, hs, ht⟩
 ·exact .inl ⟨by omega, hc⟩
 refine .inr ⟨g, cur, hA, hb, hg, hs, ?_⟩
 rw [← ht, List.take_take, Nat.min_eq_left hms]
section
variable {P : Program} {w : World} {ops : Array Oper} {rest : List Oper} {o : Oper} {a : Act} {Q : Exit → Act → World → Prop} {K : Act → World → Prop}
theorem exec_append_own (s x : Operand) (t : TypeId) (ho : o.op = .call { callee := .builtin .append, args := #[s, x], argTypes := #[t, t] })
  (base : Nat) (e : TypeId) (z : Value) (sz bytes : Nat) (ht : P.underlying t = some (.slice e)) (hinfo : (P.info? e).map (fun i => (i.zero, i.size, i.bytes)) = some (some z, sz, bytes))
  (hzs : z.cells.size = sz) (hsz : 0 < sz)
  (A : Option Addr) (n c : Nat) (xs : List Value) (hs : a.eval s = .slice A n c) (hown : Own w base e sz A n c xs)
  (B : Nat) (X : Option Addr) (m cx : Nat) (news : List Value) (hx : a.eval x = .slice X m cx) (hr : Row w B sz X m news) (h1 : ∀ u ∈ news, u.oneCell' = true)
  (h63 : n + m ≤ maxLen) (hbytes : (n + m) * bytes ≤ 140737488355328) (hbase : base ≤ w.heap.size) :
  ∃ A' c' w', (execOp a.eval o).run P w = .ok (.value (.slice A' (n + m) c')) w' ∧ Own w' base e sz A' (n + m) c' (xs ++ news) ∧ w.grownBy w' (blk A c) ∧ ((A' = A ∧ c' = c) ∨ ∃ g, A' = some ⟨g, 0, none⟩ ∧ w.heap.size ≤ g) := by
 obtain ⟨A', c', w', hrun, h2, h3, h4⟩ := run_append_Own (P := P) w base t o.type e z sz bytes ht hinfo hzs hsz A n c xs hown B X m cx news hr h1 h63 hbytes hbase
 refine ⟨A', c', w', ?_, h2, h3, h4⟩
 unfold execOp
 simp only [ho, resolve, invoke, builtin, Sem.run_bind, Sem.run_pure, Result.andThen_ok, List.map_toArray, List.map_cons, List.map_nil, hs, hx, hrun]
theorem wp_append_own (s x : Operand) (t : TypeId) (ho : o.op = .call { callee := .builtin .append, args := #[s, x], argTypes := #[t, t] })
  (base : Nat) (e : TypeId) (z : Value) (sz bytes : Nat) (ht : P.underlying t = some (.slice e)) (hinfo : (P.info? e).map (fun i => (i.zero, i.size, i.bytes)) = some (some z, sz, bytes))
  (hzs : z.cells.size = sz) (hsz : 0 < sz)
  (A : Option Addr) (n c : Nat) (xs : List Value) (hs : a.eval s = .slice A n c) (hown : Own w base e sz A n c xs)
  (B : Nat) (X : Option Addr) (m cx : Nat) (news : List Value) (hx : a.eval x = .slice X m cx) (hr : Row w B sz X m news) (h1 : ∀ u ∈ news, u.oneCell' = true)
  (h63 : n + m ≤ maxLen) (hbytes : (n + m) * bytes ≤ 140737488355328) (hbase : base ≤ w.heap.size)
  (h : ∀ A' c' w', Own w' base e sz A' (n + m) c' (xs ++ news) → w.grownBy w' (blk A c) → ((A' = A ∧ c' = c) ∨ ∃ g, A' = some ⟨g, 0, none⟩ ∧ w.heap.size ≤ g) → K (a.put o.dst (.slice A' (n + m) c')) w') : o.wp P a w K Q := by
 obtain ⟨A', c', w', hrun, h2, h3, h4⟩ := exec_append_own (P := P) s x t ho base e z sz bytes ht hinfo hzs hsz A n c xs hs hown B X m cx news hx hr h1 h63 hbytes hbase
 exact wp_value hrun (h A' c' w' h2 h3 h4)
end
section
variable {w : World} {ops : Array Oper} {rest : List Oper} {o : Oper} {a : Act} {Q : Exit → Act → World → Prop} {K : Act → World → Prop}
theorem wp_store_slN (x y : Operand) (ho : o.op = .store 90 x y) (g j : Nat) (A : Option Addr) (n c : Nat) (hx : a.eval x = .pointer (some ⟨g, j, none⟩)) (hy : a.eval y = .slice A n c) (t : TypeId) (cs : List Value) (u : Value) (hb : Blk w g t cs) (hj : cs[j]? = some u)
  (h : ∀ w', Blk w' g t (cs.set j (.slice A n c)) → w.grownBy w' (some g) → w'.heap.size = w.heap.size → K (a.put o.dst undef) w') : o.wp Try.prog a w K Q :=
 wp_skip (w' := w.setCell ⟨g, j, none⟩ (.slice A n c)) (by
  have hc := (hb.cell j).trans hj
  have hf := hb.frozen j
  unfold execOp
  simp only [ho, hx, hy]
  go_simp) (h _ (hb.set j _) (grown_setCells g [.slice A n c] j w w (grown_refl w _)) (by simp))
theorem wp_store_slI (x y : Operand) (ho : o.op = .store 91 x y) (g j : Nat) (A : Option Addr) (n c : Nat) (hx : a.eval x = .pointer (some ⟨g, j, none⟩)) (hy : a.eval y = .slice A n c) (t : TypeId) (cs : List Value) (u : Value) (hb : Blk w g t cs) (hj : cs[j]? = some u)
  (h : ∀ w', Blk w' g t (cs.set j (.slice A n c)) → w.grownBy w' (some g) → w'.heap.size = w.heap.size → K (a.put o.dst undef) w') : o.wp Try.prog a w K Q :=
 wp_skip (w' := w.setCell ⟨g, j, none⟩ (.slice A n c)) (by
  have hc := (hb.cell j).trans hj
  have hf := hb.frozen j
  unfold execOp
  simp only [ho, hx, hy]
  go_simp) (h _ (hb.set j _) (grown_setCells g [.slice A n c] j w w (grown_refl w _)) (by simp))
theorem wpList_store_slI (hgd : Region.wanted o (yielded ops a.tmps) = true) (x y : Operand) (ho : o.op = .store 91 x y) (g j : Nat) (A : Option Addr) (n c : Nat) (hx : a.eval x = .pointer (some ⟨g, j, none⟩)) (hy : a.eval y = .slice A n c) (t : TypeId) (cs : List Value) (u : Value) (hb : Blk w g t cs) (hj : cs[j]? = some u)
  (h : ∀ w', Blk w' g t (cs.set j (.slice A n c)) → w.grownBy w' (some g) → w'.heap.size = w.heap.size → wpList Try.prog ops Q rest (a.put o.dst undef) w') : wpList Try.prog ops Q (o :: rest) a w :=
 wpList_wanted hgd fun _ hK => wp_store_slI x y ho g j A n c hx hy t cs u hb hj fun w' h1 h2 h3 => hK _ _ (h w' h1 h2 h3)
theorem wp_store_int (x y : Operand) (ho : o.op = .store 3 x y) (g j : Nat) (z : Int) (hx : a.eval x = .pointer (some ⟨g, j, none⟩)) (hy : a.eval y = .int .i64 z) (t : TypeId) (cs : List Value) (u : Value) (hb : Blk w g t cs) (hj : cs[j]? = some u)
  (h : ∀ w', Blk w' g t (cs.set j (.int .i64 z)) → w.grownBy w' (some g) → w'.heap.size = w.heap.size → K (a.put o.dst undef) w') : o.wp Try.prog a w K Q :=
 wp_skip (w' := w.setCell ⟨g, j, none⟩ (.int .i64 z)) (by
  have hc := (hb.cell j).trans hj
  have hf := hb.frozen j
  unfold execOp
  simp only [ho, hx, hy]
  go_simp) (h _ (hb.set j _) (grown_setCells g [.int .i64 z] j w w (grown_refl w _)) (by simp))
theorem wpList_store_int (hgd : Region.wanted o (yielded ops a.tmps) = true) (x y : Operand) (ho : o.op = .store 3 x y) (g j : Nat) (z : Int) (hx : a.eval x = .pointer (some ⟨g, j, none⟩)) (hy : a.eval y = .int .i64 z) (t : TypeId) (cs : List Value) (u : Value) (hb : Blk w g t cs) (hj : cs[j]? = some u)
  (h : ∀ w', Blk w' g t (cs.set j (.int .i64 z)) → w.grownBy w' (some g) → w'.heap.size = w.heap.size → wpList Try.prog ops Q rest (a.put o.dst undef) w') : wpList Try.prog ops Q (o :: rest) a w :=
 wpList_wanted hgd fun _ hK => wp_store_int x y ho g j z hx hy t cs u hb hj fun w' h1 h2 h3 => hK _ _ (h w' h1 h2 h3)
theorem wp_store_ownI (x y : Operand) (ho : o.op = .store 3 x y) (b j : Nat) (z : Int) (hx : a.eval x = .pointer (some ⟨b, j, none⟩)) (hy : a.eval y = .int .i64 z) {base : Nat} {e : TypeId} {sz n c : Nat} {xs : List Value} (hown : Own w base e sz (some ⟨b, 0, none⟩) n c xs) (hj : j < n * sz)
  (h : ∀ w', Own w' base e sz (some ⟨b, 0, none⟩) n c (xs.set j (.int .i64 z)) → w.grownBy w' (some b) → w'.heap.size = w.heap.size → K (a.put o.dst undef) w') : o.wp Try.prog a w K Q :=
 wp_skip (w' := w.setCell ⟨b, j, none⟩ (.int .i64 z)) (by
  obtain ⟨b', hA, _, _, hcs, hfs⟩ := hown.open_ (Nat.pos_of_ne_zero fun h0 => by rw [h0] at hj; omega)
  injection hA with hA
  injection hA with hA
  subst hA
  have hc := hcs j _ (List.getElem?_eq_getElem (by rw [hown.len]; exact hj))
  have hf := hfs j
  unfold execOp
  simp only [ho, hx, hy]
  go_simp) (h _ (hown.set hj _) (grown_setCells b [.int .i64 z] j w w (grown_refl w _)) (by simp))
theorem wpList_store_ownI (hgd : Region.wanted o (yielded ops a.tmps) = true) (x y : Operand) (ho : o.op = .store 3 x y) (b j : Nat) (z : Int) (hx : a.eval x = .pointer (some ⟨b, j, none⟩)) (hy : a.eval y = .int .i64 z) {base : Nat} {e : TypeId} {sz n c : Nat} {xs : List Value} (hown : Own w base e sz (some ⟨b, 0, none⟩) n c xs) (hj : j < n * sz)
  (h : ∀ w', Own w' base e sz (some ⟨b, 0, none⟩) n c (xs.set j (.int .i64 z)) → w.grownBy w' (some b) → w'.heap.size = w.heap.size → wpList Try.prog ops Q rest (a.put o.dst undef) w') : wpList Try.prog ops Q (o :: rest) a w :=
 wpList_wanted hgd fun _ hK => wp_store_ownI x y ho b j z hx hy hown hj fun w' h1 h2 h3 => hK _ _ (h w' h1 h2 h3)
theorem wp_store_ownB (x y : Operand) (ho : o.op = .store 4 x y) (b j : Nat) (z : Bool) (hx : a.eval x = .pointer (some ⟨b, j, none⟩)) (hy : a.eval y = .bool z) {base : Nat} {e : TypeId} {sz n c : Nat} {xs : List Value} (hown : Own w base e sz (some ⟨b, 0, none⟩) n c xs) (hj : j < n * sz)
  (h : ∀ w', Own w' base e sz (some ⟨b, 0, none⟩) n c (xs.set j (.bool z)) → w.grownBy w' (some b) → w'.heap.size = w.heap.size → K (a.put o.dst undef) w') : o.wp Try.prog a w K Q :=
 wp_skip (w' := w.setCell ⟨b, j, none⟩ (.bool z)) (by
  obtain ⟨b', hA, _, _, hcs, hfs⟩ := hown.open_ (Nat.pos_of_ne_zero fun h0 => by rw [h0] at hj; omega)
  injection hA with hA
  injection hA with hA
  subst hA
  have hc := hcs j _ (List.getElem?_eq_getElem (by rw [hown.len]; exact hj))
  have hf := hfs j
  unfold execOp
  simp only [ho, hx, hy]
  go_simp) (h _ (hown.set hj _) (grown_setCells b [.bool z] j w w (grown_refl w _)) (by simp))
theorem wpList_store_ownB (hgd : Region.wanted o (yielded ops a.tmps) = true) (x y : Operand) (ho : o.op = .store 4 x y) (b j : Nat) (z : Bool) (hx : a.eval x = .pointer (some ⟨b, j, none⟩)) (hy : a.eval y = .bool z) {base : Nat} {e : TypeId} {sz n c : Nat} {xs : List Value} (hown : Own w base e sz (some ⟨b, 0, none⟩) n c xs) (hj : j < n * sz)
  (h : ∀ w', Own w' base e sz (some ⟨b, 0, none⟩) n c (xs.set j (.bool z)) → w.grownBy w' (some b) → w'.heap.size = w.heap.size → wpList Try.prog ops Q rest (a.put o.dst undef) w') : wpList Try.prog ops Q (o :: rest) a w :=
 wpList_wanted hgd fun _ hK => wp_store_ownB x y ho b j z hx hy hown hj fun w' h1 h2 h3 => hK _ _ (h w' h1 h2 h3)
theorem wpList_store_own (hgd : Region.wanted o (yielded ops a.tmps) = true) (ty : TypeId) (x y : Operand) (ho : o.op = .store ty x y) (b off : Nat) (new : List Value) (hx : a.eval x = .pointer (some ⟨b, off, none⟩)) (hy : a.eval y = .agg new.toArray)
  {base : Nat} {e : TypeId} {sz n c : Nat} {xs : List Value} (hown : Own w base e sz (some ⟨b, 0, none⟩) n c xs) (hi : (Try.prog.info? ty).map (·.size) = some new.length) (hoff : off + new.length ≤ n * sz) (hn : 0 < n) (h1 : ∀ v ∈ new, v.oneCell' = true)
  (h : ∀ w', Own w' base e sz (some ⟨b, 0, none⟩) n c (xs.take off ++ new ++ xs.drop (off + new.length)) → w.grownBy w' (some b) → w'.heap.size = w.heap.size → wpList Try.prog ops Q rest (a.put o.dst undef) w') : wpList Try.prog ops Q (o :: rest) a w :=
 wpList_wanted hgd fun _ hK => wp_store_own ty x y ho b off new hx hy hown hi hoff hn h1 fun w' h1 h2 h3 => hK _ _ (h w' h1 h2 h3)
end
theorem exec_sliceNd {w : World} {o : Oper} {q : Act} (x0 : Operand) (ho : o.op = .buildSlice 90 1 #[(0, x0)]) (n : Nd) (hp : n.p.addr.length = 16) (h0 : q.eval x0 = .agg n.cells.toArray) :
  (execOp q.eval o).run Try.prog w = .ok (.value (.slice (some ⟨w.heap.size, 0, none⟩) 1 1)) (w.alloc (.cells n.cells.toArray 98)) := by
 unfold execOp
 simp only [ho, List.map_toArray, List.map_cons, List.map_nil, h0]
 clear h0 ho
 obtain ⟨⟨b, l, m⟩, i, v, k0, k1⟩ := n
 obtain ⟨s0, s1, s2, s3, s4, s5, s6, s7, s8, s9, s10, s11, s12, s13, s14, s15, rfl⟩ := list16p l hp
 first | kernel_rfl | rfl
theorem exec_buildNd0 {w : World} {o : Oper} {q : Act} (ho : o.op = .build 98 #[]) : (execOp q.eval o).run Try.prog w = .ok (.value (.agg Nd.zero.cells.toArray)) w := by
 unfold execOp
 simp only [ho, List.map_toArray, List.map_nil, Sem.run_bind, show (Instr.build 98 #[]).run Try.prog w = .ok (.agg Nd.zero.cells.toArray) w by kernel_rfl, Result.andThen_ok]
 rfl
theorem infoInt : (Try.prog.info? 3).map (fun i => (i.zero, i.size, i.bytes)) = some (some (.int .i64 0), 1, 8) := by kernel_rfl
theorem ints_append (x y : List Nat) : ints (x ++ y) = ints x ++ ints y := by simp [ints]
theorem ints_one (F : List Nat) : ∀ u ∈ ints F, u.oneCell' = true := by
 intro u hu
 obtain ⟨x, _, rfl⟩ := List.mem_map.1 hu
 rfl
theorem ints_get (F : List Nat) (k a : Nat) (h : F[k]? = some a) : (ints F)[k]? = some (.int .i64 (a : Int)) := by simp [ints, h]
theorem blk_some {A : Option Addr} {c b : Nat} (h : Go.Proofs.Ytdmgomknamdcfaa.blk A c = some b) : ∃ x, A = some x ∧ x.block = b ∧ c ≠ 0 := by
 unfold blk at h
 split at h
 ·cases h
 cases A with
 | none => cases h
 | some x => simp at h; exact ⟨x, rfl, h, by assumption⟩
/-- a table behind a change: what it has is what it had, or new -/
def TabTo (w : World) (g : Nat) (A : Option Addr) (c : Nat) (Af : Option Addr) (cf : Nat) (w' : World) (t' : Tb) (A' : Option Addr) (c' : Nat) (Af' : Option Addr) (cf' : Nat) : Prop :=
 Tab w' g t' A' c' Af' cf' ∧ Kept (own3 g A c Af cf) w w' ∧ ∀ b, own3 g A' c' Af' cf' b → own3 g A c Af cf b ∨ w.heap.size ≤ b
theorem TabTo.trans {w w1 w2 : World} {g c c1 c2 cf cf1 cf2 : Nat} {A A1 A2 Af Af1 Af2 : Option Addr} {t1 t2 : Tb} (h : TabTo w g A c Af cf w1 t1 A1 c1 Af1 cf1) (k : TabTo w1 g A1 c1 Af1 cf1 w2 t2 A2 c2 Af2 cf2) : TabTo w g A c Af cf w2 t2 A2 c2 Af2 cf2 := by
 refine ⟨k.1, h.2.1.trans k.2.1 (fun x hx hlt => ?_), fun b hb => ?_⟩
 ·rcases h.2.2 x hx with e | e
  ·exact e
  omega
 rcases k.2.2 b hb with e | e
 ·exact h.2.2 b e
 have := h.2.1.size
 exact .inr (by omega)
theorem TabTo.refl {w : World} {g c cf : Nat} {A Af : Option Addr} {t : Tb} (h : Tab w g t A c Af cf) : TabTo w g A c Af cf w t A c Af cf := ⟨h, Kept.refl _ _, fun _ => .inl⟩
theorem TabTo.on {w w1 w2 : World} {g c c1 cf cf1 : Nat} {A A1 Af Af1 : Option Addr} {t1 : Tb} (h : TabTo w g A c Af cf w1 t1 A1 c1 Af1 cf1) (hb : Below w1.heap.size w1 w2) : TabTo w g A c Af cf w2 t1 A1 c1 Af1 cf1 := ⟨h.1.on hb, h.2.1.then_below hb, h.2.2⟩
theorem TabTo.of {w w0 w1 : World} {g c c1 cf cf1 : Nat} {A A1 Af Af1 : Option Addr} {t1 : Tb} (hb : Below w.heap.size w w0) (h : TabTo w0 g A c Af cf w1 t1 A1 c1 Af1 cf1) : TabTo w g A c Af cf w1 t1 A1 c1 Af1 cf1 :=
 ⟨h.1, (Kept.of_below hb).trans h.2.1 (fun x hx _ => hx), fun b hb' => by
  rcases h.2.2 b hb' with e | e
  ·exact .inl e
  have := hb.size
  exact .inr (by omega)⟩
end Go.Proofs.Ytdmgomknamdcfaa

/- What the table's add and drop (layer 9) compute. No condition but sizes. -/
namespace Go.Proofs.Ytdmgomknamdcfaa
open Go.RowKit
set_option linter.unusedVariables false
set_option maxRecDepth 20000
set_option linter.unusedSimpArgs false

/-- a node laid in: its place, and the table -/
def addT (t : Tb) (n : Nd) : Nat × Tb :=
 match t.F.getLast? with
 | some pl => (pl, { t with N := t.N.set pl n, F := t.F.dropLast })
 | none => (t.N.length, { t with N := t.N ++ [n] })
/-- it can be -/
def addOk (t : Tb) : Prop := (∀ a ∈ t.F, a < t.N.length) ∧ t.N.length ≤ 1000000 ∧ t.F.length ≤ 1000000
theorem set_fit {N : List Nd} (h : ∀ x ∈ N, x.p.fit) {k : Nat} {y : Nd} (hy : y.p.fit) : ∀ x ∈ N.set k y, x.p.fit := fun x hx => by
 rcases List.mem_or_eq_of_mem_set hx with e | e
 ·exact h x e
 rw [e]; exact hy
set_option maxHeartbeats 4000000 in
theorem tadd_any (w : World) (g : Nat) (t : Tb) (A Af : Option Addr) (c cf : Nat) (hT : Tab w g t A c Af cf) (hok : addOk t) (n : Nd) (hn : n.p.fit) :
  Calls Try.prog 70 #[.pointer (some ⟨g, 0, none⟩), .agg n.cells.toArray] w fun e w' => ∃ A' c' Af' cf', e = .returned (.int .i64 (((addT t n).1 : Nat) : Int)) ∧ TabTo w g A c Af cf w' (addT t n).2 A' c' Af' cf' := by
 have HN := Hh hn
 have HFIT := Hh hT.fit
 have HNL := Hh (n.cells_length hn.addr)
 obtain ⟨hF, hNl, hFl⟩ := hok
 have HT := Hh hT
 rcases List.eq_nil_or_concat t.F with he | ⟨F', pl, he⟩
 ·have HC := Hh (show addT t n = (t.N.length, { t with N := t.N ++ [n] }) by unfold addT; rw [he]; rfl)
  have hcf : t.F.length = 0 := by rw [he]; rfl
  clear hT hn hF
  go_enter Try.func70, Try.ntmps70
  go_upto_region 1 with (refine wpList_box_blk (by rfl) 98 (.tmp 1) rfl n.cells rfl ?_; intro w1 hb1 hB1 hs1; clear hs1)
  obtain ⟨g1, hg1⟩ : ∃ g, w.heap.size = g := ⟨_, rfl⟩
  have HW := Hh hB1
  have hT1 := HT.out.on hB1
  have hgg : g ≠ g1 := by have := HT.out.blk.lt; omega
  have HGG := Hh hgg
  rw [hg1] at hb1
  try rw [hg1]
  have HX := Hh hb1
  have HWG := Hh (show ∀ b, own3 g A c Af cf b → b ≠ g1 by intro b hb; have := HT.out.lt b hb; omega)
  replace HT := Hh hT1
  have c0 : w1.cell? ⟨g, 4, none⟩ = some (.slice Af t.F.length cf) := hT1.blk.cell 4
  clear hb1 hB1 hg1 hT1 hgg
  go_wp2_with fail
  clear c0
  refine wp_region_mid 7 10 [true, true, true, true, true, true, false, true, true, true] (fun _ => True) (fun v W => ∃ A7 c7, v = .slice A7 (t.N.length + 1) c7 ∧ Own W 0 98 22 A7 (t.N.length + 1) c7 (nds (t.N ++ [n])) ∧ Blk W g 93 (tbC t A c Af cf) ∧ Own W 0 3 1 Af t.F.length cf (ints t.F) ∧ Kept (own3 g A c Af cf) w1 W ∧ ((A7 = A ∧ c7 = c) ∨ ∃ g7, A7 = some ⟨g7, 0, none⟩ ∧ w1.heap.size ≤ g7)) (fun A B => A.grownBy B none) (fun A => grown_refl A _) (fun A B C h k => grown_trans h k) (relAt (List.cons (fun v _ => v = .pointer (some ⟨g, 0, none⟩)) (List.cons (fun v _ => v = .pointer (some ⟨g, 0, none⟩)) (List.cons (fun v _ => v = .pointer (some ⟨g, 0, none⟩)) (List.cons (fun v _ => v = .pointer (some ⟨g, 3, none⟩)) (List.cons (fun v _ => v = .slice A t.N.length c) (List.cons (fun v _ => v = .agg n.cells.toArray) (List.cons (fun v W => ∃ b, v = .slice (some ⟨b, 0, none⟩) 1 1 ∧ Blk W b 98 n.cells) (List.cons (fun _ _ => True) (List.cons (fun v _ => v = .pointer (some ⟨g, 0, none⟩)) (List.cons (fun v _ => v = .pointer (some ⟨g, 3, none⟩)) ([])))))))))))) (MonoL.at_ (.cons (mono_val _) (.cons (mono_val _) (.cons (mono_val _) (.cons (mono_val _) (.cons (mono_val _) (.cons (mono_val _) (.cons (fun _ _ _ ⟨b, hv, hz⟩ hx => ⟨b, hv, hz.on (grow_below hx)⟩) (.cons ((fun _ _ _ h _ => h)) (.cons (mono_val _) (.cons (mono_val _) .nil))))))))))) (ConstL.at_ (.cons (fun _ _ _ h => h) (.cons (fun _ _ _ h => h) (.cons (fun _ _ _ h => h) (.cons (fun _ _ _ h => h) (.cons (fun _ _ _ h => h) (.cons (fun _ _ _ h => h) (.skip (.cons (fun _ _ _ h => h) (.cons (fun _ _ _ h => h) (.cons (fun _ _ _ h => h) .nil))))))))))) (fun v W h => True.intro) (fun W hX => True.intro) (fun v W h => True.intro) (by kernel_rfl) (by kernel_rfl) rfl (by decide) (by kernel_rfl) (by kernel_rfl) _ rfl rfl ⟨?_, ?_, ?_, ?_, ?_, ?_, ?_, ?_, ?_, ?_, trivial⟩ ?_
  ·refine stepM_calm rfl (by kernel_rfl) ?_
   intro a vs W hS hR he hf K hK
   refine wn rfl ?_
   have e0 : a.eval (.tmp 0) = .pointer (some ⟨g, 0, none⟩) := hf 0 (by kernel_rfl)
   refine wp_value (v := .pointer (some ⟨g, 0, none⟩)) ?_ (hK _ rfl)
   simp only [execOp, e0]
   try go_simp
  ·refine stepM_anc rfl (by kernel_rfl) ?_
   intro a vs W hX hR he hf K hK
   refine wn rfl ?_
   have e0 : a.eval (.tmp 0) = .pointer (some ⟨g, 0, none⟩) := hf 0 (by kernel_rfl)
   refine wV hK rfl ?_
   simp only [execOp, e0]
   try go_simp
  ·refine stepM_anc rfl (by kernel_rfl) ?_
   intro a vs W hX hR he hf K hK
   refine wn rfl ?_
   have e41 : a.eval (.tmp 41) = .pointer (some ⟨g, 0, none⟩) := eH he hR 1 (by kernel_rfl) rfl
   refine wV hK rfl ?_
   simp only [execOp, e41]
   try go_simp
  ·refine stepM_anc rfl (by kernel_rfl) ?_
   intro a vs W hX hR he hf K hK
   refine wn rfl ?_
   have e42 : a.eval (.tmp 42) = .pointer (some ⟨g, 0, none⟩) := eH he hR 2 (by kernel_rfl) rfl
   refine wV hK rfl ?_
   simp only [execOp, e42]
   try go_simp
  ·refine stepM_anc rfl (by kernel_rfl) ?_
   intro a vs W hX hR he hf K hK
   refine wn rfl ?_
   have e43 : a.eval (.tmp 43) = .pointer (some ⟨g, 3, none⟩) := eH he hR 3 (by kernel_rfl) rfl
   have hbW := bthen (below_drew _) (grow_below hX)
   have hc : W.cell? ⟨g, 3, none⟩ = some (.slice A t.N.length c) := (HT.out.blk.on hbW).cell 3
   refine wV hK rfl ?_
   simp only [execOp, e43]
   try go_simp
  ·refine stepM_anc rfl (by kernel_rfl) ?_
   intro a vs W hX hR he hf K hK
   refine wn rfl ?_
   have e3 : a.eval (.tmp 3) = .pointer (some ⟨g1, 0, none⟩) := hf 3 (by kernel_rfl)
   have hbW := bthen (below_drew _) (grow_below hX)
   exact wp_value (exec_load 98 _ rfl g1 e3 98 n.cells _ (HX.out.on hbW) Try.underlying98 rfl (sizeNd _ HN.out.addr)) (gK hK rfl)
  ·refine stepM_anc rfl (by kernel_rfl) ?_
   intro a vs W hX hR he hf K hK
   refine wn rfl ?_
   have e45 : a.eval (.tmp 45) = .agg n.cells.toArray := eH he hR 5 (by kernel_rfl) rfl
   have f45 := e45
   simp only [Act.eval, Array.getD_eq_getD_getElem?] at f45
   refine wp_value (exec_sliceNd _ rfl n HN.out.addr e45) (hK _ _ ⟨_, rfl, Blk.new W _ _⟩ (below_grow (alloc_below W _) _))
  ·refine stepM_heavy rfl ?_
   intro a vs W hX hR he hf K hK
   refine wn rfl ?_
   have e44 : a.eval (.tmp 44) = .slice A t.N.length c := eH he hR 4 (by kernel_rfl) rfl
   have e46 := he 6 46 (by kernel_rfl) rfl
   have p46 := hR 6 (by kernel_rfl)
   change (fun v W => ∃ b, v = .slice (some ⟨b, 0, none⟩) 1 1 ∧ Blk W b 98 n.cells) (vs 6) W at p46
   have f44 := e44
   simp only [Act.eval, Array.getD_eq_getD_getElem?] at f44
   have f46 := e46
   simp only [Act.eval, Array.getD_eq_getD_getElem?] at f46
   have hbW := bthen (below_drew _) (grow_below hX)
   obtain ⟨b6, hv6, hb6⟩ := p46
   rw [hv6] at e46
   have hT2 := HT.out.on hbW
   have hrw := hb6.row 22 0 1 (by rw [HNL.out]; omega)
   rw [List.drop_zero, Nat.one_mul, List.take_of_length_le (by rw [HNL.out]; omega)] at hrw
   refine wp_append_own _ _ 90 rfl 0 98 _ 22 64 Try.underlying90 infoNd (by kernel_rfl) (by decide) A t.N.length c (nds t.N) e44 hT2.nodes W.heap.size _ 1 1 n.cells e46 hrw n.one (by simp only [maxLen]; omega) (by omega) (Nat.zero_le _) ?_
   intro A7 c7 W7 hown hgr halt
   refine hK _ _ ⟨A7, c7, rfl, ?_, ?_, ?_, ?_, ?_⟩
   ·rw [nds_append]; simpa [nds] using hown
   ·exact hT2.blk.grown hgr (fun e => HT.out.ng g e.symm rfl)
   ·exact hT2.free.kept hgr (fun b hb e => HT.out.nf b e hb)
   ·exact (Kept.of_below hbW).trans (Kept.of_grown (S := own3 g A c Af cf) hgr (fun k hk => .inr (.inl hk))) (fun x hx _ => hx)
   rcases halt with h7 | ⟨g7, h7, h8⟩
   ·exact .inl h7
   exact .inr ⟨g7, h7, by have := hbW.size; omega⟩
  ·refine stepM_calm rfl (by kernel_rfl) ?_
   intro a vs W hS hR he hf K hK
   refine wn rfl ?_
   have e40 : a.eval (.tmp 40) = .pointer (some ⟨g, 0, none⟩) := (he 0 40 (by kernel_rfl) rfl).trans (hR 0 (by kernel_rfl) rfl)
   refine wp_value (v := .pointer (some ⟨g, 0, none⟩)) ?_ (hK _ rfl)
   simp only [execOp, e40]
   try go_simp
  ·refine stepM_calm rfl (by kernel_rfl) ?_
   intro a vs W hS hR he hf K hK
   refine wn rfl ?_
   have e48 : a.eval (.tmp 48) = .pointer (some ⟨g, 0, none⟩) := (he 8 48 (by kernel_rfl) rfl).trans (hR 8 (by kernel_rfl) rfl)
   refine wp_value (v := .pointer (some ⟨g, 3, none⟩)) ?_ (hK _ rfl)
   simp only [execOp, e48]
   try go_simp
  intro vs wx hPx hR
  have q0 := hR 0 (by decide) rfl
  change vs 0 = .pointer (some ⟨g, 0, none⟩) at q0
  have q1 := hR 1 (by decide) rfl
  change vs 1 = .pointer (some ⟨g, 0, none⟩) at q1
  have q2 := hR 2 (by decide) rfl
  change vs 2 = .pointer (some ⟨g, 0, none⟩) at q2
  have q3 := hR 3 (by decide) rfl
  change vs 3 = .pointer (some ⟨g, 3, none⟩) at q3
  have q4 := hR 4 (by decide) rfl
  change vs 4 = .slice A t.N.length c at q4
  have q5 := hR 5 (by decide) rfl
  change vs 5 = .agg n.cells.toArray at q5
  have q8 := hR 8 (by decide) rfl
  change vs 8 = .pointer (some ⟨g, 0, none⟩) at q8
  have q9 := hR 9 (by decide) rfl
  change vs 9 = .pointer (some ⟨g, 3, none⟩) at q9
  simp only [putAll, Act.put, List.setIfInBounds_toArray, List.set_cons_zero, List.set_cons_succ, List.take_succ_cons, List.take_zero, q0, q1, q2, q3, q4, q5, q8, q9]
  clear q0 q1 q2 q3 q4 q5 q8 q9
  clear hR
  generalize vs 7 = vh at hPx ⊢
  obtain ⟨A7, c7, rfl, ho7, hk7, hf7, hkp, halt⟩ := hPx
  refine wp_store_slN _ _ rfl g 3 A7 (t.N.length + 1) c7 rfl rfl 93 _ _ hk7 rfl ?_
  intro wy hky hgy hsy
  try simp only [List.getElem_toArray, List.getElem_cons_succ, List.getElem_cons_zero, Act.put, List.setIfInBounds_toArray, List.set_cons_zero, List.set_cons_succ]
  have hg7 : Go.Proofs.Ytdmgomknamdcfaa.blk A7 c7 ≠ some g := by
   intro e
   rcases halt with ⟨h1, h2⟩ | ⟨g7, h1, h2⟩
   ·rw [h1, h2] at e; exact HT.out.ng g e rfl
   obtain ⟨x, hx, hxb, _⟩ := blk_some e
   rw [h1] at hx
   injection hx with hx
   rw [← hx] at hxb
   have := HT.out.blk.lt
   simp only at hxb
   omega
  have hn7 : ∀ b, Go.Proofs.Ytdmgomknamdcfaa.blk A7 c7 = some b → Go.Proofs.Ytdmgomknamdcfaa.blk Af cf ≠ some b := by
   intro b e
   rcases halt with ⟨h1, h2⟩ | ⟨g7, h1, h2⟩
   ·rw [h1, h2] at e; exact HT.out.nf b e
   obtain ⟨x, hx, hxb, _⟩ := blk_some e
   rw [h1] at hx
   injection hx with hx
   rw [← hx] at hxb
   intro e2
   have := (HT.out.free.lt b e2).2
   simp only at hxb
   omega
  have hky' : Blk wy g 93 (tbC { t with N := t.N ++ [n] } A7 c7 Af cf) := by
   have e : (tbC t A c Af cf).set 3 (.slice A7 (t.N.length + 1) c7) = tbC { t with N := t.N ++ [n] } A7 c7 Af cf := by simp [tbC]
   rw [← e]; exact hky
  have hT9 : Tab wy g { t with N := t.N ++ [n] } A7 c7 Af cf := by
   refine ⟨hky', ?_, ?_, ?_, ?_, HT.out.fg, hn7⟩
   ·have := ho7.kept hgy (fun b hb e => hg7 (by rw [hb]; exact e.symm))
    simpa using this
   ·exact hf7.kept hgy (fun b hb e => HT.out.fg b hb (by injection e with e; exact e.symm))
   ·intro x hx
    rcases List.mem_append.1 hx with h | h
    ·exact HFIT.out x h
    obtain rfl := List.mem_singleton.1 h
    exact HN.out
   intro b hb e
   rw [e] at hb
   exact hg7 hb
  have hk9 : Kept (own3 g A c Af cf) w wy := (Kept.of_below HW.out).trans (hkp.trans (Kept.of_grown (S := own3 g A c Af cf) hgy (fun k hk => by injection hk with hk; exact .inl hk.symm)) (fun x hx _ => hx)) (fun x hx _ => hx)
  have HRES := Hh (show TabTo w g A c Af cf wy { t with N := t.N ++ [n] } A7 c7 Af cf from ⟨hT9, hk9, fun b hb => by
   rcases hb with hb | hb | hb
   ·exact .inl (.inl hb)
   ·rcases halt with ⟨h1, h2⟩ | ⟨g7, h1, h2⟩
    ·rw [h1, h2] at hb; exact .inl (.inr (.inl hb))
    obtain ⟨x, hx, hxb, _⟩ := blk_some hb
    rw [h1] at hx
    injection hx with hx
    rw [← hx] at hxb
    have := HW.out.size
    simp only at hxb
    exact .inr (by omega)
   exact .inl (.inr (.inr hb))⟩)
  have c1 : wy.cell? ⟨g, 3, none⟩ = some (.slice A7 (t.N.length + 1) c7) := by
   have := hky'.cell 3
   simpa [tbC] using this
  clear hT9 hk9 hky' hn7 hg7 halt hkp hf7 hk7 ho7 hky hgy hsy
  have hle2 : t.N.length ≤ 1000000 := hNl
  go_wp2_with fail
  go_ret
  refine ⟨A7, c7, Af, cf, ?_, by rw [HC.out]; exact HRES.out⟩
  rw [HC.out]
  simp
 have hlast : t.F.getLast? = some pl := by rw [he]; simp
 have HC := Hh (show addT t n = (pl, { t with N := t.N.set pl n, F := F' }) by unfold addT; rw [hlast]; simp [he])
 have hlen : t.F.length = F'.length + 1 := by rw [he]; simp
 have ha : pl < t.N.length := hF pl (by rw [he]; simp)
 have HFE := Hh he
 clear hT hn hF hlast he
 go_enter Try.func70, Try.ntmps70
 go_upto_region 1 with (refine wpList_box_blk (by rfl) 98 (.tmp 1) rfl n.cells rfl ?_; intro w1 hb1 hB1 hs1; clear hs1)
 obtain ⟨g1, hg1⟩ : ∃ g, w.heap.size = g := ⟨_, rfl⟩
 have HW := Hh hB1
 have hT1 := HT.out.on hB1
 have hgg : g ≠ g1 := by have := HT.out.blk.lt; omega
 have HGG := Hh hgg
 rw [hg1] at hb1
 try rw [hg1]
 have HX := Hh hb1
 have HWG := Hh (show ∀ b, own3 g A c Af cf b → b ≠ g1 by intro b hb; have := HT.out.lt b hb; omega)
 replace HT := Hh hT1
 have c0 : w1.cell? ⟨g, 4, none⟩ = some (.slice Af t.F.length cf) := hT1.blk.cell 4
 clear hb1 hB1 hg1 hT1 hgg
 obtain ⟨bF, hAf, _, hbF, hcF, hfF⟩ := HT.out.free.open_ (by omega)
 subst hAf
 obtain ⟨x0, hx0⟩ := get_ex t.N ha
 obtain ⟨bA, hA, hblkA, hbA, hneA, _, _, _, hcA⟩ := HT.out.node hx0
 subst hA
 have c1 : w1.cell? ⟨bF, F'.length, none⟩ = some (.int .i64 (pl : Int)) := hcF _ _ (ints_get _ _ _ (by rw [HFE.out]; simp))
 have hblkF : Go.Proofs.Ytdmgomknamdcfaa.blk (some ⟨bF, 0, none⟩) cf = some bF := by
  unfold blk
  rw [if_neg (by have := HT.out.free.le; omega)]
  rfl
 have hcfl : F'.length + 1 ≤ cf := by have := HT.out.free.le; omega
 have hAF : bA ≠ bF := fun e => HT.out.nf bA hblkA (by rw [hblkF, e])
 have hgF : bF ≠ g := HT.out.fg bF hblkF
 have HAF := Hh hAF
 have HGF := Hh hgF
 have HGA := Hh hneA
 have HBA := Hh hblkA
 have HBF := Hh hblkF
 have HX0 := Hh hx0
 rw [hlen] at c0
 have h1F : ((F'.length + 1 : Nat) : Int) - 1 = (F'.length : Int) := by omega
 clear hcF hfF hx0 hblkA hblkF hAF hgF hneA
 go_upto_region 5 with (refine wpList_store_slI (by rfl) _ _ rfl g 4 (some ⟨bF, 0, none⟩) F'.length cf rfl rfl 93 _ _ HT.out.blk rfl ?_; intro w2 hk2 hg2 hs2)
 have hk2' : Blk w2 g 93 (tbC { t with F := F' } (some ⟨bA, 0, none⟩) c (some ⟨bF, 0, none⟩) cf) := hk2
 have hN2 := HT.out.nodes.kept hg2 (fun b hb e => HT.out.ng b hb (by injection e with e; exact e.symm))
 have hF2 := (HT.out.free.shrink (m := F'.length) (by omega)).kept hg2 (fun b hb e => HT.out.fg b hb (by injection e with e; exact e.symm))
 have hF3 : (ints t.F).take (F'.length * 1) = ints F' := by rw [HFE.out, Nat.mul_one]; simp [ints]
 rw [hF3] at hF2
 have HK := Hh hk2'
 have HN2 := Hh hN2
 have HF2 := Hh hF2
 have HX2 := Hh (HX.out.grown hg2 (fun e => HGG.out (by injection e with e; exact e.symm)))
 have HKP := Hh ((Kept.of_below HW.out).trans (Kept.of_grown (S := own3 g (some ⟨bA, 0, none⟩) c (some ⟨bF, 0, none⟩) cf) hg2 (fun k hk => by injection hk with hk; exact .inl hk.symm)) (fun x hx _ => hx))
 replace HX := HX2
 clear hk2 hk2' hg2 hs2 hN2 hF2 hF3 c0 c1 HX2
 refine wp_region_last 7 (fun A B => A.grownBy B none) (fun A => grown_refl A _) (fun A B C h k => grown_trans h k) (relAt (eqs [.pointer (some ⟨g, 0, none⟩), .pointer (some ⟨g, 0, none⟩), .pointer (some ⟨g, 3, none⟩), .slice (some ⟨bA, 0, none⟩) t.N.length c, .int .i64 (pl : Int), .agg n.cells.toArray, .pointer (some ⟨bA, pl * 22, none⟩)])) (MonoL.at_ (eqs_mono _)) (by kernel_rfl) (by kernel_rfl) rfl (by kernel_rfl) _ rfl rfl ⟨?_, ?_, ?_, ?_, ?_, ?_, ?_, trivial⟩ ?_
 ·intro a vs W hX hR he hf K hK
  refine wn rfl ?_
  have e0 : a.eval (.tmp 0) = .pointer (some ⟨g, 0, none⟩) := hf 0 (by kernel_rfl)
  refine wV hK rfl ?_
  simp only [execOp, e0]
  try go_simp
 ·intro a vs W hX hR he hf K hK
  refine wn rfl ?_
  have e32 : a.eval (.tmp 32) = .pointer (some ⟨g, 0, none⟩) := eH he hR 0 (by kernel_rfl) rfl
  refine wV hK rfl ?_
  simp only [execOp, e32]
  try go_simp
 ·intro a vs W hX hR he hf K hK
  refine wn rfl ?_
  have e33 : a.eval (.tmp 33) = .pointer (some ⟨g, 0, none⟩) := eH he hR 1 (by kernel_rfl) rfl
  refine wV hK rfl ?_
  simp only [execOp, e33]
  try go_simp
 ·intro a vs W hX hR he hf K hK
  refine wn rfl ?_
  have e34 : a.eval (.tmp 34) = .pointer (some ⟨g, 3, none⟩) := eH he hR 2 (by kernel_rfl) rfl
  have hbW := bthen (below_drew _) (grow_below hX)
  have hc : W.cell? ⟨g, 3, none⟩ = some (.slice (some ⟨bA, 0, none⟩) t.N.length c) := (HK.out.on hbW).cell 3
  refine wV hK rfl ?_
  simp only [execOp, e34]
  try go_simp
 ·intro a vs W hX hR he hf K hK
  refine wn rfl ?_
  have e6 : a.eval (.tmp 6) = .int .i64 (pl : Int) := hf 6 (by kernel_rfl)
  refine wV hK rfl ?_
  simp only [execOp, e6]
  try go_simp
 ·intro a vs W hX hR he hf K hK
  refine wn rfl ?_
  have e3 : a.eval (.tmp 3) = .pointer (some ⟨g1, 0, none⟩) := hf 3 (by kernel_rfl)
  have hbW := bthen (below_drew _) (grow_below hX)
  exact wp_value (exec_load 98 _ rfl g1 e3 98 n.cells _ (HX.out.on hbW) Try.underlying98 rfl (sizeNd _ HN.out.addr)) (gK hK rfl)
 ·intro a vs W hX hR he hf K hK
  refine wn rfl ?_
  have e35 : a.eval (.tmp 35) = .slice (some ⟨bA, 0, none⟩) t.N.length c := eH he hR 3 (by kernel_rfl) rfl
  have e36 : a.eval (.tmp 36) = .int .i64 (pl : Int) := eH he hR 4 (by kernel_rfl) rfl
  refine wV hK rfl ?_
  simp only [execOp, e35, e36]
  go_simp
 intro vs wx hXx hR
 rw [put_eqsT hR rfl]
 simp only [putL, Act.put, List.setIfInBounds_toArray, List.set_cons_zero, List.set_cons_succ, List.take_succ_cons, List.take_zero]
 clear hR
 have hbW := bthen (below_drew _) (grow_below hXx)
 have hN3 := HN2.out.below hbW
 refine wp_store_own 98 _ _ rfl bA (pl * 22) n.cells rfl rfl hN3 (sizeNd _ HN.out.addr) (by rw [HNL.out]; omega) (by omega) n.one ?_
 intro wy hoy hgy hsy
 try simp only [List.getElem_toArray, List.getElem_cons_succ, List.getElem_cons_zero, Act.put, List.setIfInBounds_toArray, List.set_cons_zero, List.set_cons_succ]
 have hput : (nds t.N).take (pl * 22) ++ n.cells ++ (nds t.N).drop (pl * 22 + n.cells.length) = nds (t.N.set pl n) := by
  rw [HNL.out, show pl * 22 + 22 = (pl + 1) * 22 by omega]
  exact nds_put t.N HFIT.out pl ha n
 rw [hput] at hoy
 have hT9 : Tab wy g { t with N := t.N.set pl n, F := F' } (some ⟨bA, 0, none⟩) c (some ⟨bF, 0, none⟩) cf := by
  refine ⟨?_, ?_, ?_, set_fit HFIT.out HN.out, HT.out.ng, HT.out.fg, HT.out.nf⟩
  ·have := (HK.out.on hbW).grown hgy (fun e => HGA.out (by injection e with e; exact e.symm))
   simpa [tbC] using this
  ·simpa using hoy
  exact (HF2.out.below hbW).kept hgy (fun b hb e => by
   injection e with e
   obtain ⟨x, hx, hxb, _⟩ := blk_some hb
   injection hx with hx
   rw [← hx] at hxb
   exact HAF.out (e.trans hxb.symm))
 have hk9 : Kept (own3 g (some ⟨bA, 0, none⟩) c (some ⟨bF, 0, none⟩) cf) w wy := (HKP.out.then_below hbW).trans (Kept.of_grown (S := own3 g (some ⟨bA, 0, none⟩) c (some ⟨bF, 0, none⟩) cf) hgy (fun k hk => by injection hk with hk; exact .inr (.inl (by rw [← hk]; exact HBA.out)))) (fun x hx _ => hx)
 have HRES := Hh (show TabTo w g (some ⟨bA, 0, none⟩) c (some ⟨bF, 0, none⟩) cf wy { t with N := t.N.set pl n, F := F' } (some ⟨bA, 0, none⟩) c (some ⟨bF, 0, none⟩) cf from ⟨hT9, hk9, fun b hb => .inl hb⟩)
 clear hT9 hk9 hput hoy hgy hsy hbW hN3 hXx
 go_wp2_with fail
 go_ret
 exact ⟨_, c, _, cf, by rw [HC.out]; rfl, by rw [HC.out]; exact HRES.out⟩
end Go.Proofs.Ytdmgomknamdcfaa

/- What the table's drop (layer 9) computes. No condition but sizes. -/
namespace Go.Proofs.Ytdmgomknamdcfaa
open Go.RowKit
set_option linter.unusedVariables false
set_option maxRecDepth 20000
set_option linter.unusedSimpArgs false

/-- a node taken out -/
def dropT (t : Tb) (k : Nat) : Tb := { t with N := t.N.set k Nd.zero, F := t.F ++ [k] }
theorem Px.zero_fit : Px.zero.fit := ⟨rfl, by decide⟩
set_option maxHeartbeats 4000000 in
theorem tdrop_any (w : World) (g : Nat) (t : Tb) (A Af : Option Addr) (c cf : Nat) (hT : Tab w g t A c Af cf) (k : Nat) (hk : k < t.N.length) (hFl : t.F.length ≤ 1000000) :
  Calls Try.prog 80 #[.pointer (some ⟨g, 0, none⟩), .int .i64 (k : Int)] w fun e w' => ∃ Af' cf', e = .returned (.tuple #[]) ∧ TabTo w g A c Af cf w' (dropT t k) A c Af' cf' := by
 have HFIT := Hh hT.fit
 obtain ⟨x0, hx0⟩ := get_ex t.N hk
 obtain ⟨bA, hA, hblkA, hbA, hneA, _, _, _, hcA⟩ := hT.node hx0
 subst hA
 have HT := Hh hT
 have HGA := Hh hneA
 have HBA := Hh hblkA
 have c0 : w.cell? ⟨g, 3, none⟩ = some (.slice (some ⟨bA, 0, none⟩) t.N.length c) := hT.blk.cell 3
 have hlt : (k : Int) < (t.N.length : Int) := by omega
 clear hT hx0 hblkA hneA
 go_enter Try.func80, Try.ntmps80
 go_upto_region 1 with (first
  | (refine wpList_value (by rfl) (exec_buildNd0 rfl) ?_)
  | (refine wpList_store_own (by rfl) 98 _ _ rfl bA (k * 22) Nd.zero.cells rfl rfl HT.out.nodes (sizeNd _ rfl) (by rw [Nd.zero.cells_length rfl]; omega) (by omega) Nd.zero.one ?_; intro w1 ho1 hg1 hs1))
 have hput : (nds t.N).take (k * 22) ++ Nd.zero.cells ++ (nds t.N).drop (k * 22 + Nd.zero.cells.length) = nds (t.N.set k Nd.zero) := by
  rw [Nd.zero.cells_length rfl, show k * 22 + 22 = (k + 1) * 22 by omega]
  exact nds_put t.N HFIT.out k hk Nd.zero
 rw [hput] at ho1
 have HK1 := Hh (HT.out.blk.grown hg1 (fun e => HGA.out (by injection e with e; exact e.symm)))
 have hF1 := HT.out.free.kept hg1 (fun b hb e => HT.out.nf bA HBA.out (by injection e with e; rw [e]; exact hb))
 have HF1 := Hh hF1
 have HO1 := Hh ho1
 have HKP := Hh (Kept.of_grown (S := own3 g (some ⟨bA, 0, none⟩) c Af cf) hg1 (fun j hj => by injection hj with hj; exact .inr (.inl (by rw [← hj]; exact HBA.out))))
 have hbk := Blk.new w1 3 [.int .i64 (k : Int)]
 have hrw := hbk.row 1 0 1 (by simp)
 rw [List.drop_zero, Nat.one_mul] at hrw
 have HRI := Hh hrw
 have HONE := Hh (ints_one [k])
 have HFA := Hh (HF1.out.alloc (.cells [Value.int .i64 (k : Int)].toArray 3))
 have c1 : w1.cell? ⟨g, 4, none⟩ = some (.slice Af t.F.length cf) := HK1.out.cell 4
 have hg1l := HK1.out.lt
 have hs1' : w.heap.size = w1.heap.size := hs1.symm
 have hsA : (w1.alloc (.cells [Value.int .i64 (k : Int)].toArray 3)).heap.size = w1.heap.size + 1 := by simp
 clear ho1 hg1 hs1 hF1 hput hbk hrw c0
 go_wp2_with (first
  | (at_builtin; refine wpList_append_Own _ rfl _ _ 91 rfl 0 3 _ 1 8 Try.underlying91 infoInt rfl (by decide) _ _ _ _ rfl HFA.out (w1.alloc (.cells [Value.int .i64 (k : Int)].toArray 3)).heap.size (some ⟨w1.heap.size, 0, none⟩) 1 1 (ints [k]) rfl HRI.out HONE.out (by simp only [maxLen]; omega) (by omega) (Nat.zero_le _) ?_; intro A7 c7 w7 hown7 hg7 hA7)
  | (refine wpList_store_slI (by rfl) _ _ rfl g 4 A7 (t.F.length + 1) c7 rfl rfl 93 _ _ ((HK1.out.on (alloc_below _ _)).grown hg7 (fun e => HT.out.fg _ e.symm rfl)) rfl ?_; intro w8 hk8 hg8 hs8))
 have hgF : ∀ b, Go.Proofs.Ytdmgomknamdcfaa.blk A7 c7 = some b → Go.Proofs.Ytdmgomknamdcfaa.blk Af cf = some b ∨ w1.heap.size ≤ b := by
  intro b hb
  rcases hA7 with ⟨h1, h2⟩ | ⟨g7, h1, h2⟩
  ·rw [h1, h2] at hb; exact .inl hb
  obtain ⟨x, hx, hxb, _⟩ := blk_some hb
  rw [h1] at hx
  injection hx with hx
  rw [← hx] at hxb
  simp only at hxb
  exact .inr (by omega)
 have hAlt : bA < w1.heap.size := by omega
 have hk8' : Blk w8 g 93 (tbC (dropT t k) (some ⟨bA, 0, none⟩) c A7 c7) := by
  have e : (tbC t (some ⟨bA, 0, none⟩) c Af cf).set 4 (.slice A7 (t.F.length + 1) c7) = tbC (dropT t k) (some ⟨bA, 0, none⟩) c A7 c7 := by simp [tbC, dropT]
  rw [← e]; exact hk8
 have hkp7 : Kept (own3 g (some ⟨bA, 0, none⟩) c Af cf) w w7 := (HKP.out.then_below (alloc_below _ _)).trans (Kept.of_grown (S := own3 g (some ⟨bA, 0, none⟩) c Af cf) hg7 (fun j hj => .inr (.inr hj))) (fun x hx _ => hx)
 have hkp8 : Kept (own3 g (some ⟨bA, 0, none⟩) c Af cf) w w8 := hkp7.trans (Kept.of_grown (S := own3 g (some ⟨bA, 0, none⟩) c Af cf) hg8 (fun j hj => by injection hj with hj; exact .inl hj.symm)) (fun x hx _ => hx)
 have hT8 : Tab w8 g (dropT t k) (some ⟨bA, 0, none⟩) c A7 c7 := by
  refine ⟨hk8', ?_, ?_, set_fit HFIT.out Px.zero_fit, HT.out.ng, ?_, ?_⟩
  ·have h1 := HO1.out.alloc (.cells [Value.int .i64 (k : Int)].toArray 3)
   have h2 := h1.kept hg7 (fun b hb e => HT.out.nf b hb e)
   have h3 := h2.kept hg8 (fun b hb e => HT.out.ng b hb (by injection e with e; exact e.symm))
   simpa [dropT] using h3
  ·have h3 := hown7.kept hg8 (fun b hb e => by
    injection e with e
    rcases hgF b hb with h | h
    ·exact HT.out.fg b h e.symm
    omega)
   rw [← ints_append] at h3
   simpa [dropT] using h3
  ·intro b hb e
   rcases hgF b hb with h | h
   ·exact HT.out.fg b h e
   omega
  intro b hb e
  have h1 : b = bA := by
   have h9 := HBA.out
   rw [hb] at h9
   injection h9
  rcases hgF b e with h | h
  ·exact HT.out.nf b hb h
  omega
 refine bodyPost_end (results_none rfl _ _ _) rfl ?_
 refine ⟨rfl, A7, c7, hT8, hkp8, fun b hb => ?_⟩
 rcases hb with hb | hb | hb
 ·exact .inl (.inl hb)
 ·exact .inl (.inr (.inl hb))
 rcases hgF b hb with h | h
 ·exact .inl (.inr (.inr h))
 exact .inr (by omega)
end Go.Proofs.Ytdmgomknamdcfaa


/- Texts of this claim put together, in build order: each one's own remark stands ahead of it. -/
import Derived.Test.YtbemhcihmlijaaaG29
/- How a script of prefixes among a law's arguments is opened. No condition. -/
namespace Go.Proofs.Ytbemhcihmlijaaa
open Go.ChangeShapes Go.WideShapes Go.ChangeAt Go.RowKit Go.Deep
set_option linter.unusedVariables false
set_option maxRecDepth 20000

/-- a step of a script -/
structure St9 where
 kind : Int
 p : Px
 v : Int
def St9.cells (s : St9) : List Value := .int .i64 s.kind :: (s.p.cells ++ [.int .i64 s.v])
structure St9.fit (s : St9) : Prop where
 p : s.p.fit
 kind : -9223372036854775808 ≤ s.kind ∧ s.kind ≤ 9223372036854775807
 v : -9223372036854775808 ≤ s.v ∧ s.v ≤ 9223372036854775807
def sts (L : List St9) : List Value := L.flatMap St9.cells
theorem St9.cells_length (s : St9) (h : s.p.addr.length = 16) : s.cells.length = 20 := by simp [St9.cells, Px.cells_length s.p h]
theorem sts_length (L : List St9) (h : ∀ x ∈ L, x.fit) : (sts L).length = L.length * 20 := by
 induction L with
 | nil => rfl
 | cons x L ih =>
  show (x.cells ++ sts L).length = _
  rw [List.length_append, x.cells_length (h x (by simp)).p.addr, ih (fun y hy => h y (by simp [hy])), List.length_cons]
  omega
theorem sts_cell (L : List St9) (h : ∀ x ∈ L, x.fit) (i : Nat) (x : St9) (hi : L[i]? = some x) (j : Nat) (hj : j < 20) : (sts L)[i * 20 + j]? = x.cells[j]? := by
 induction L generalizing i with
 | nil => simp at hi
 | cons y L ih =>
  have hy := y.cells_length (h y (by simp)).p.addr
  show (y.cells ++ sts L)[i * 20 + j]? = _
  cases i with
  | zero =>
   simp at hi
   subst hi
   rw [Nat.zero_mul, Nat.zero_add, List.getElem?_append_left (by omega)]
  | succ i =>
   rw [List.getElem?_append_right (by omega), hy, show (i + 1) * 20 + j - 20 = i * 20 + j by omega]
   exact ih (fun z hz => h z (by simp [hz])) i (by simpa using hi)
theorem sts_row {w : World} {B n : Nat} {A : Option Addr} {L : List St9} (h : Row w B 20 A n (sts L)) (hL : ∀ x ∈ L, x.fit) : L.length = n := by
 have h1 := h.1
 rw [sts_length L hL] at h1
 omega
/-- where a step lies -/
theorem sts_at {w : World} {B n : Nat} {A : Option Addr} {L : List St9} (h : Row w B 20 A n (sts L)) (hL : ∀ x ∈ L, x.fit) (i : Nat) (x : St9) (hi : L[i]? = some x) :
  ∃ b o, A = some ⟨b, o, none⟩ ∧ b < B ∧ w.rangeAt b (o + i * 20) x.cells := by
 have hn := sts_row h hL
 have hx := hL x (List.mem_of_getElem? hi)
 have hlt := (List.getElem?_eq_some_iff.1 hi).1
 obtain ⟨b, o, rfl, hb, hc⟩ := h.2 (by omega)
 refine ⟨b, o, rfl, hb, fun j v hv => ?_⟩
 have hj : j < 20 := by
  have := (List.getElem?_eq_some_iff.1 hv).1
  rw [x.cells_length hx.p.addr] at this
  exact this
 rw [Nat.add_assoc]
 refine hc _ v ?_
 rw [sts_cell L hL i x hi j hj]
 exact hv
theorem st_px {w : World} {b o : Nat} {x : St9} (h : w.rangeAt b o x.cells) : w.rangeAt b (o + 1) x.p.cells := fun j v hv => by
 rw [Nat.add_assoc]
 refine h (1 + j) v ?_
 unfold St9.cells
 rw [Nat.add_comm, List.getElem?_cons_succ, List.getElem?_append_left (List.getElem?_eq_some_iff.1 hv).1]
 exact hv
theorem st_v {x : St9} (h : x.p.addr.length = 16) : x.cells[19]? = some (.int .i64 x.v) := by
 unfold St9.cells
 rw [List.getElem?_cons_succ, List.getElem?_append_right (by rw [x.p.cells_length h]; omega), x.p.cells_length h]
 rfl
theorem sts_back (L : List St9) (h : ∀ x ∈ L, x.fit) (j : Nat) (u : Value) (hu : (sts L)[j]? = some u) : ∃ i r x, j = i * 20 + r ∧ r < 20 ∧ L[i]? = some x ∧ x.cells[r]? = some u := by
 have hj : j < L.length * 20 := by
  have := (List.getElem?_eq_some_iff.1 hu).1
  rw [sts_length L h] at this
  exact this
 obtain ⟨x, hx⟩ := get_ex L (k := j / 20) (by omega)
 refine ⟨j / 20, j % 20, x, by omega, by omega, hx, ?_⟩
 rw [← sts_cell L h (j / 20) x hx (j % 20) (by omega), ← hu]
 congr 1
 omega
theorem cell_st {H : Type} {enc : TypeId × Value → H} {w : World} {base : Nat} {spare : Nat → Bool} {held : Bool} {n : Nat} {cs : List Value} (h : ∃ y, DataW.trod enc Try.prog w base spare held n 32 cs = some y) (hl : cs.length = 20) : ∃ s : St9, cs = s.cells ∧ s.fit := by
 obtain ⟨⟨d, ps⟩, h⟩ := h
 obtain ⟨ys, n', hn', hy, hlen, hyl, hf⟩ := DataW.trod_struct Try.underlying32 h
 have k3 : Try.prog.cellsOf 3 = 1 := by kernel_rfl
 have kp : Try.prog.cellsOf 30 = 18 := by kernel_rfl
 have hys : ∀ j, j < 3 → ∃ y, ys[j]? = some y := fun j hj => ⟨_, List.getElem?_eq_getElem (by have h9 : ys.length = 3 := hyl; omega)⟩
 obtain ⟨y0, hy0⟩ := hys 0 (by omega)
 obtain ⟨y1, hy1⟩ := hys 1 (by omega)
 obtain ⟨y2, hy2⟩ := hys 2 (by omega)
 have t0 := (hf 0 _ rfl).trans hy0
 have t1 := (hf 1 _ rfl).trans hy1
 have t2 := (hf 2 _ rfl).trans hy2
 obtain ⟨c0, r0, rfl, g1⟩ := len_cons hl
 obtain ⟨x0, e0, q0⟩ := cell_int Try.underlying3 ⟨_, t0⟩
 obtain ⟨x2, e2, q2⟩ := cell_int Try.underlying3 ⟨_, t2⟩
 obtain rfl : c0 = .int .i64 x0 := by simpa [k3] using e0
 have t1' : DataW.trod enc Try.prog w base spare held n' 30 (r0.take 18) = some y1 := by simpa [kp] using t1
 obtain ⟨p, e1, hp⟩ := cell_px ⟨_, t1'⟩ (by simp; omega)
 have e2' : (r0.drop 18).take 1 = [.int .i64 x2] := by simpa [k3] using e2
 have hr : r0 = p.cells ++ [.int .i64 x2] := by
  have h5 : r0.drop 18 = [.int .i64 x2] := by rw [← e2']; exact (List.take_of_length_le (by simp; omega)).symm
  rw [← e1, ← h5, List.take_append_drop]
 subst hr
 exact ⟨⟨x0, p, x2⟩, rfl, ⟨hp, bd_i64 q0, bd_i64 q2⟩⟩
/-- a script as a slice -/
structure Sl9 where
 A : Option Addr
 n : Nat
 c : Nat
 L : List St9
structure Sl9.ok (w : World) (z : Sl9) : Prop where
 row : Row w w.heap.size 20 z.A z.n (sts z.L)
 le : z.n ≤ z.c
 cap : z.c ≤ maxLen
 fit : ∀ x ∈ z.L, x.fit
theorem open_steps {H : Type} {enc : TypeId × Value → H} {w : World} {base : Nat} {spare : Nat → Bool} {held : Bool} {r : Reach} {b0 : Nat} {v : Value} {d : DataW H} {ps : List MemPlace}
  (hv : Value.okWide Try.prog w r b0 22 v) (h : DataW.Trod enc Try.prog w base spare held 22 v d ps) :
  ∃ z : Sl9, v = .slice z.A z.n z.c ∧ z.ok w := by
 obtain ⟨a0, len0, cap0, rfl⟩ := okWide_slice Try.underlying22 hv
 obtain ⟨fuel, hf⟩ := h
 rcases open_slice Try.underlying22 hf with h0 | ⟨a, len, cap, m, n, D, Pl, hcs, hb, hl, hm, hmm, hx, hi⟩
 ·have hcs := h0.1
  simp [Value.cells] at hcs
  obtain ⟨rfl, rfl, rfl⟩ := hcs
  exact ⟨⟨none, 0, 0, []⟩, rfl, ⟨Row.nil _ _ _ _, Nat.le_refl _, Nat.zero_le _, by simp⟩⟩
 ·simp [Value.cells] at hcs
  obtain ⟨rfl, rfl, rfl⟩ := hcs
  have one : ∀ i, i < len0 → ∃ x : St9, x.fit ∧ ∀ j u, x.cells[j]? = some u → w.cell? (a.add (i * 20 + j)) = some u := by
   intro i hil
   have him : i < m := by rw [hmm]; split <;> omega
   obtain ⟨cs', hc, ht'⟩ := hi i him
   rw [show Try.prog.cellsOf 32 = 20 by kernel_rfl] at hc
   obtain ⟨_, hcl, hat⟩ := World.cells?_some hc
   obtain ⟨x, hxc, hxf⟩ := cell_st ⟨_, ht'⟩ (by simpa using hcl)
   refine ⟨x, hxf, fun j u hu => ?_⟩
   have hj : j < 20 := by
    have := (List.getElem?_eq_some_iff.1 hu).1
    rw [x.cells_length hxf.p.addr] at this
    exact this
   rw [← Go.Deep.add_add, hat j hj]
   rw [hxc]; exact hu
  have all : ∀ k, k ≤ len0 → ∃ l : List St9, l.length = k ∧ (∀ x ∈ l, x.fit) ∧ ∀ i x, l[i]? = some x → ∀ j u, x.cells[j]? = some u → w.cell? (a.add (i * 20 + j)) = some u := by
   intro k
   induction k with
   | zero => exact fun _ => ⟨[], rfl, by simp, by simp⟩
   | succ k ih =>
    intro hk
    obtain ⟨l, h1, h2, h3⟩ := ih (by omega)
    obtain ⟨x, hx, hc⟩ := one k (by omega)
    refine ⟨l ++ [x], by simp [h1], ?_, fun i y hy => ?_⟩
    ·intro y hy
     rcases List.mem_append.1 hy with h | h
     ·exact h2 y h
     ·obtain rfl := List.mem_singleton.1 h
      exact hx
    ·rcases Nat.lt_or_ge i l.length with hlt | hge
     ·rw [List.getElem?_append_left hlt] at hy
      exact h3 i y hy
     ·rw [List.getElem?_append_right hge] at hy
      have hi0 : i - l.length = 0 := by
       have := (List.getElem?_eq_some_iff.1 hy).1
       simp at this
       omega
      rw [hi0] at hy
      obtain rfl : x = y := by simpa using hy
      have : i = k := by omega
      subst this
      exact hc
  obtain ⟨L, h1, h2, h3⟩ := all len0 (Nat.le_refl _)
  refine ⟨⟨some a, len0, cap0, L⟩, rfl, ⟨⟨by rw [sts_length L h2, h1], fun hn => ?_⟩, hl, hm, h2⟩⟩
  obtain ⟨b, off, spot⟩ := a
  obtain ⟨x, hx⟩ := get_ex L (k := 0) (by have h9 : 0 < len0 := hn; omega)
  have hc0 := h3 0 x hx 0 _ rfl
  have hspot : spot = none := by simpa [Addr.add] using World.cell?_spot hc0
  subst hspot
  refine ⟨b, off, rfl, World.block_lt_of_cell? w _ (by rw [← hc0]), fun j u hu => ?_⟩
  obtain ⟨i, r, y, rfl, hr, hy, hu'⟩ := sts_back L h2 j u hu
  rw [show (⟨b, off + (i * 20 + r), none⟩ : Addr) = (⟨b, off, none⟩ : Addr).add (i * 20 + r) by unfold Addr.add; split <;> simp_all]
  exact h3 i y hy r u hu'
end Go.Proofs.Ytbemhcihmlijaaa


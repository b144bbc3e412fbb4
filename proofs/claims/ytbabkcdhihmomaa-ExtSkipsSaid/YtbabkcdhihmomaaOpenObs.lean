/- How a law's argument that is a slice of extension objects is opened. No condition. -/
import Derived.Test.YtbabkcdhihmomaaOpenEnt
import Derived.Test.YtbabkcdhihmomaaX22b
namespace Go.Proofs.Ytbabkcdhihmomaa
open Go.ChangeShapes Go.WideShapes Go.ChangeAt Go.RowKit Go.Deep
set_option linter.unusedVariables false
set_option maxRecDepth 20000

theorem cell_bytes {H : Type} {enc : TypeId × Value → H} {P : Program} {w : World} {base : Nat} {spare : Nat → Bool} {held : Bool} {t e : TypeId} {n : Nat} {cs : List Value} (ht : P.underlying t = some (.slice e)) (he : P.underlying e = some (.int .u8)) (hc : P.cellsOf e = 1)
    (h : ∃ y, DataW.trod enc P w base spare held n t cs = some y) : ∃ A n c l, cs = [.slice A n c] ∧ Row w w.heap.size 1 A n (bv l) ∧ n ≤ c ∧ c ≤ maxLen := by
  obtain ⟨⟨d, ps⟩, hf⟩ := h
  rcases open_ints ht he hc hf with ⟨hcs, _⟩ | ⟨x, l, c, zs, hcs, _, hl, hm, hz, _, hcell, hwz⟩
  · exact ⟨none, 0, 0, [], hcs, Row.nil _ _ _ _, Nat.le_refl _, Nat.zero_le _⟩
  · have hlz : l ≤ zs.length := by rw [hz]; split <;> omega
    have hb8 : ∀ z ∈ zs, 0 ≤ z ∧ z ≤ 255 := fun z hz' => by simpa [Lit.wf, IntKind.min, IntKind.max, IntKind.signed, IntKind.bits] using hwz z hz'
    refine ⟨some x, l, c, (zs.take l).map fun z => UInt8.ofNat z.toNat, hcs, ⟨?_, fun hn => ?_⟩, hl, hm⟩
    · rw [bv_length, List.length_map, List.length_take]; omega
    · obtain ⟨b, off, spot⟩ := x
      have hc0 := hcell 0 (by omega)
      have hspot : spot = none := by simpa [Addr.add] using World.cell?_spot hc0
      subst hspot
      refine ⟨b, off, rfl, World.block_lt_of_cell? w _ hc0, fun j u hu => ?_⟩
      have hj : j < l := by
        rcases Nat.lt_or_ge j l with h' | h'
        · exact h'
        · rw [List.getElem?_eq_none (by rw [bv_length, List.length_map, List.length_take]; omega)] at hu; cases hu
      have hcj := hcell j (by omega)
      have hadd : (⟨b, off, none⟩ : Addr).add j = ⟨b, off + j, none⟩ := by unfold Addr.add; split <;> simp_all
      rw [hadd] at hcj
      have hzj : zs[j]? = some (zs.getD j 0) := by rw [List.getD_eq_getElem?_getD, List.getElem?_eq_getElem (by omega)]; rfl
      have hb := hb8 (zs.getD j 0) (List.mem_of_getElem? hzj)
      have hg : ((zs.take l).map fun z => UInt8.ofNat z.toNat)[j]? = some (UInt8.ofNat (zs.getD j 0).toNat) := by
        rw [List.getElem?_map, List.getElem?_take, if_pos hj, hzj]
        rfl
      rw [hcj, ← hu, bv_get _ j _ hg, u8_of _ hb.1 hb.2]
theorem xos_back (l : List Xo) (j : Nat) (u : Value) (h : (xos l)[j]? = some u) : ∃ i r x, j = i * 3 + r ∧ r < 3 ∧ l[i]? = some x ∧ x.cells[r]? = some u := by
  have hj : j < l.length * 3 := by
    have := (List.getElem?_eq_some_iff.1 h).1
    rw [xos_length] at this
    exact this
  obtain ⟨x, hx⟩ := get_ex l (k := j / 3) (by omega)
  refine ⟨j / 3, j % 3, x, by omega, by omega, hx, ?_⟩
  rw [← xos_cell l (j / 3) x hx (j % 3) (by omega), ← h]
  congr 1
  omega
/-- a slice of objects that came in -/
structure Xs where
  A : Option Addr
  n : Nat
  c : Nat
  l : List Xo
def Xs.v (r : Xs) : Value := .slice r.A r.n r.c
structure Xs.ok (w : World) (r : Xs) : Prop where
  row : Row w w.heap.size 3 r.A r.n (xos r.l)
  le : r.n ≤ r.c
  cap : r.c ≤ maxLen
  all : ∀ x ∈ r.l, x.ok w
theorem open_objs {H : Type} {enc : TypeId × Value → H} {w : World} {base : Nat} {spare : Nat → Bool} {held : Bool} {r : Reach} {b0 : Nat} {v : Value} {d : DataW H} {ps : List MemPlace}
    (hv : Value.okWide Try.prog w r b0 22 v) (h : DataW.Trod enc Try.prog w base spare held 22 v d ps) : ∃ a : Xs, v = a.v ∧ a.ok w := by
  obtain ⟨a0, len0, cap0, rfl⟩ := okWide_slice Try.underlying22 hv
  obtain ⟨fuel, hf⟩ := h
  rcases open_slice_fields Try.underlying22 Try.underlying51 (by kernel_rfl) (by kernel_rfl) hf with hcs | ⟨a, l, c, hcs, hl, hm, hi⟩
  · simp [Value.cells] at hcs
    obtain ⟨rfl, rfl, rfl⟩ := hcs
    exact ⟨⟨none, 0, 0, []⟩, rfl, ⟨Row.nil _ _ _ _, Nat.le_refl _, Nat.zero_le _, by simp⟩⟩
  · simp [Value.cells] at hcs
    obtain ⟨rfl, rfl, rfl⟩ := hcs
    have one : ∀ i, i < len0 → ∃ x : Xo, x.ok w ∧ ∀ j u, x.cells[j]? = some u → w.cell? (a.add (i * 3 + j)) = some u := by
      intro i hil
      obtain ⟨n, hfs⟩ := hi i hil
      obtain ⟨v0, y0, c0, t0⟩ := hfs 0 _ rfl
      obtain ⟨v1, y1, c1, t1⟩ := hfs 1 _ rfl
      obtain ⟨v2, y2, c2, t2⟩ := hfs 2 _ rfl
      obtain ⟨x0, e0, _, q0⟩ := DataW.trod_int Try.underlying5 t0
      obtain ⟨x1, e1, _, q1⟩ := DataW.trod_int Try.underlying5 t1
      obtain ⟨A2, n2, d2, l2, e2, hr2, hn2, hm2⟩ := cell_bytes Try.underlying26 Try.underlying5 (by kernel_rfl) ⟨_, t2⟩
      simp only [List.cons.injEq, and_true] at e0 e1 e2
      subst e0 e1 e2
      refine ⟨⟨x0, x1, A2, n2, d2, l2⟩, ⟨bd_u8 q0, bd_u8 q1, hr2, hn2, hm2⟩, fun j u hu => ?_⟩
      simp only [Xo.cells] at hu
      match j with
      | 0 => cases hu; exact c0
      | 1 => cases hu; exact c1
      | 2 => cases hu; exact c2
      | j + 3 => simp at hu
    have all : ∀ k, k ≤ len0 → ∃ l : List Xo, l.length = k ∧ (∀ x ∈ l, x.ok w) ∧ ∀ i x, l[i]? = some x → ∀ j u, x.cells[j]? = some u → w.cell? (a.add (i * 3 + j)) = some u := by
      intro k
      induction k with
      | zero => exact fun _ => ⟨[], rfl, by simp, by simp⟩
      | succ k ih =>
        intro hk
        obtain ⟨l, h1, h2, h3⟩ := ih (by omega)
        obtain ⟨x, hx, hc⟩ := one k (by omega)
        refine ⟨l ++ [x], by simp [h1], ?_, fun i y hy => ?_⟩
        · intro y hy
          rcases List.mem_append.1 hy with h | h
          · exact h2 y h
          · obtain rfl := List.mem_singleton.1 h
            exact hx
        · rcases Nat.lt_or_ge i l.length with hlt | hge
          · rw [List.getElem?_append_left hlt] at hy
            exact h3 i y hy
          · rw [List.getElem?_append_right hge] at hy
            have hi0 : i - l.length = 0 := by
              have := (List.getElem?_eq_some_iff.1 hy).1
              simp at this
              omega
            rw [hi0] at hy
            obtain rfl : x = y := by simpa using hy
            have : i = k := by omega
            subst this
            exact hc
    obtain ⟨L, h1, h2, h3⟩ := all len0 (Nat.le_refl _)
    refine ⟨⟨some a, len0, cap0, L⟩, rfl, ⟨⟨by rw [xos_length, h1], fun hn => ?_⟩, hl, hm, h2⟩⟩
    obtain ⟨b, off, spot⟩ := a
    obtain ⟨x, hx⟩ := get_ex L (k := 0) (by dsimp only at hn; omega)
    have hc0 := h3 0 x hx 0 _ rfl
    have hspot : spot = none := by simpa [Addr.add] using World.cell?_spot hc0
    subst hspot
    refine ⟨b, off, rfl, World.block_lt_of_cell? w _ (by rw [← hc0]), fun j u hu => ?_⟩
    obtain ⟨i, r, y, rfl, hr, hy, hu'⟩ := xos_back L j u hu
    rw [← add_none]
    exact h3 i y hy r u hu'
end Go.Proofs.Ytbabkcdhihmomaa

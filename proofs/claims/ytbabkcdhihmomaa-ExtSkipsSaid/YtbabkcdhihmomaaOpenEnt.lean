/- How a law's argument that is a slice of entries is opened. No condition. -/
import Derived.Test.YtbabkcdhihmomaaOpen
import Derived.Test.YtbabkcdhihmomaaEnt
import Derived.Deep.Slices
import Derived.Deep.Fields
import Derived.ChangeSame
namespace Go.Proofs.Ytbabkcdhihmomaa
open Go.ChangeShapes Go.WideShapes Go.ChangeAt Go.RowKit Go.Deep
set_option linter.unusedVariables false
set_option maxRecDepth 20000

section
variable {H : Type} {enc : TypeId × Value → H} {P : Program} {w : World} {base : Nat} {spare : Nat → Bool} {held : Bool}
theorem open_slice_fields {t e : TypeId} {fs : Array Field} {fuel : Nat} {cs : List Value} {x : DataW H × List MemPlace} (ht : P.underlying t = some (.slice e)) (he : P.underlying e = some (.struct fs))
    (hone : oneCellFields P fs = true) (hC : P.cellsOf e = fs.size) (h : DataW.trod enc P w base spare held fuel t cs = some x) :
    cs = [.slice none 0 0] ∨
    ∃ (a : Addr) (len cap : Nat), cs = [.slice (some a) len cap] ∧ len ≤ cap ∧ cap ≤ maxLen ∧
      ∀ i, i < len → ∃ n, ∀ (j : Nat) (f : Field), fs[j]? = some f → ∃ (v : Value) (y : DataW H × List MemPlace), w.cell? (a.add (i * fs.size + j)) = some v ∧ DataW.trod enc P w base spare held n f.type [v] = some y := by
  rcases open_slice ht h with h0 | ⟨a, len, cap, m, n, D, Pl, hcs, hb, hl, hm, hmm, hx, hi⟩
  · exact .inl h0.1
  · refine .inr ⟨a, len, cap, hcs, hl, hm, fun i hil => ?_⟩
    have him : i < m := by rw [hmm]; split <;> omega
    obtain ⟨cs', hc, ht'⟩ := hi i him
    rw [hC] at hc
    obtain ⟨ys, n', hn', hy, hlen, hyl, hf⟩ := DataW.trod_struct he ht'
    obtain ⟨_, hcl, hat⟩ := World.cells?_some hc
    refine ⟨n', fun j f hj => ?_⟩
    obtain ⟨ho, hk⟩ := hone_of hone j f hj
    have hjl : j < fs.size := (Array.getElem?_eq_some_iff.1 hj).1
    have hcell := hat j hjl
    have hv : cs'[j]? = some (cs'[j]'(by omega)) := List.getElem?_eq_getElem (by omega)
    have h1 := hf j f hj
    rw [ho, hk] at h1
    have hone' : (cs'.drop j).take 1 = [cs'[j]'(by omega)] := by
      rw [List.drop_eq_getElem_cons (by omega)]
      rfl
    rw [hone'] at h1
    have hys : ys[j]? = some (ys[j]'(by omega)) := List.getElem?_eq_getElem (by omega)
    refine ⟨_, _, ?_, h1.trans hys⟩
    rw [← Go.Deep.add_add, hcell, hv]
end

/-- an entry's numbers are those of its fields' kinds -/
structure Ent.wf (e : Ent) : Prop where
  label : (Lit.int .i64 e.label).wf = true
  cls : 0 ≤ e.cls ∧ e.cls ≤ 255
  ttl : 0 ≤ e.ttl ∧ e.ttl ≤ 255
theorem add_none (b o j : Nat) : (⟨b, o, none⟩ : Addr).add j = ⟨b, o + j, none⟩ := by unfold Addr.add; split <;> simp_all
theorem evs_back (l : List Ent) (j : Nat) (u : Value) (h : (evs l)[j]? = some u) : ∃ i r x, j = i * 4 + r ∧ r < 4 ∧ l[i]? = some x ∧ x.cells[r]? = some u := by
  have hj : j < l.length * 4 := by
    have := (List.getElem?_eq_some_iff.1 h).1
    rw [evs_length] at this
    exact this
  obtain ⟨x, hx⟩ := get_ex l (k := j / 4) (by omega)
  refine ⟨j / 4, j % 4, x, by omega, by omega, hx, ?_⟩
  rw [← evs_cell l (j / 4) x hx (j % 4) (by omega), ← h]
  congr 1
  omega

theorem open_ents {H : Type} {enc : TypeId × Value → H} {w : World} {base : Nat} {spare : Nat → Bool} {held : Bool} {r : Reach} {b0 : Nat} {v : Value} {d : DataW H} {ps : List MemPlace}
    (hv : Value.okWide Try.prog w r b0 23 v) (h : DataW.Trod enc Try.prog w base spare held 23 v d ps) :
    ∃ A n c l, v = .slice A n c ∧ Row w w.heap.size 4 A n (evs l) ∧ n ≤ c ∧ c ≤ maxLen ∧ ∀ x ∈ l, x.wf := by
  obtain ⟨a0, len0, cap0, rfl⟩ := okWide_slice Try.underlying23 hv
  obtain ⟨fuel, hf⟩ := h
  rcases open_slice_fields Try.underlying23 Try.underlying54 (by kernel_rfl) (by kernel_rfl) hf with hcs | ⟨a, l, c, hcs, hl, hm, hi⟩
  · simp [Value.cells] at hcs
    obtain ⟨rfl, rfl, rfl⟩ := hcs
    exact ⟨none, 0, 0, [], rfl, Row.nil _ _ _ _, Nat.le_refl _, Nat.zero_le _, by simp⟩
  · simp [Value.cells] at hcs
    obtain ⟨rfl, rfl, rfl⟩ := hcs
    have one : ∀ i, i < len0 → ∃ x : Ent, x.wf ∧ ∀ j u, x.cells[j]? = some u → w.cell? (a.add (i * 4 + j)) = some u := by
      intro i hil
      obtain ⟨n, hfs⟩ := hi i hil
      obtain ⟨v0, y0, c0, t0⟩ := hfs 0 _ rfl
      obtain ⟨v1, y1, c1, t1⟩ := hfs 1 _ rfl
      obtain ⟨v2, y2, c2, t2⟩ := hfs 2 _ rfl
      obtain ⟨v3, y3, c3, t3⟩ := hfs 3 _ rfl
      obtain ⟨x0, e0, _, q0⟩ := DataW.trod_int Try.underlying3 t0
      obtain ⟨x1, e1, _, q1⟩ := DataW.trod_int Try.underlying5 t1
      obtain ⟨x2, e2, _⟩ := DataW.trod_bool Try.underlying4 t2
      obtain ⟨x3, e3, _, q3⟩ := DataW.trod_int Try.underlying5 t3
      simp only [List.cons.injEq, and_true] at e0 e1 e2 e3
      subst e0 e1 e2 e3
      refine ⟨⟨x0, x1, x2, x3⟩, ⟨q0, bd_u8 q1, bd_u8 q3⟩, fun j u hu => ?_⟩
      simp only [Ent.cells] at hu
      match j with
      | 0 => cases hu; exact c0
      | 1 => cases hu; exact c1
      | 2 => cases hu; exact c2
      | 3 => cases hu; exact c3
      | j + 4 => simp at hu
    have all : ∀ k, k ≤ len0 → ∃ l : List Ent, l.length = k ∧ (∀ x ∈ l, x.wf) ∧ ∀ i x, l[i]? = some x → ∀ j u, x.cells[j]? = some u → w.cell? (a.add (i * 4 + j)) = some u := by
      intro k
      induction k with
      | zero => exact fun _ => ⟨[], rfl, by simp, by simp⟩
      | succ k ih =>
        intro hk
        obtain ⟨l, h1, h2, h3⟩ := ih (by omega)
        obtain ⟨x, hx, hc⟩ := one k (by omega)
        refine ⟨l ++ [x], by simp [h1], ?_, fun i y hy => ?_⟩
        · intro y hy
          rcases List.mem_append.1 hy with h | h
          · exact h2 y h
          · obtain rfl := List.mem_singleton.1 h
            exact hx
        · rcases Nat.lt_or_ge i l.length with hlt | hge
          · rw [List.getElem?_append_left hlt] at hy
            exact h3 i y hy
          · rw [List.getElem?_append_right hge] at hy
            have hi0 : i - l.length = 0 := by
              have := (List.getElem?_eq_some_iff.1 hy).1
              simp at this
              omega
            rw [hi0] at hy
            obtain rfl : x = y := by simpa using hy
            have : i = k := by omega
            subst this
            exact hc
    obtain ⟨L, h1, h2, h3⟩ := all len0 (Nat.le_refl _)
    refine ⟨some a, len0, cap0, L, rfl, ⟨by rw [evs_length, h1], fun hn => ?_⟩, hl, hm, h2⟩
    obtain ⟨b, off, spot⟩ := a
    obtain ⟨x, hx⟩ := get_ex L (k := 0) (by omega)
    have hc0 := h3 0 x hx 0 _ rfl
    have hspot : spot = none := by simpa [Addr.add] using World.cell?_spot hc0
    subst hspot
    refine ⟨b, off, rfl, World.block_lt_of_cell? w _ (by rw [← hc0]), fun j u hu => ?_⟩
    obtain ⟨i, r, y, rfl, hr, hy, hu'⟩ := evs_back L j u hu
    rw [← add_none]
    exact h3 i y hy r u hu'
end Go.Proofs.Ytbabkcdhihmomaa

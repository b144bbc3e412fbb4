/- How an error among a law's arguments is opened. No condition. -/
import Derived.Test.YtimkgkokidhhpaaOpenEnt
import Derived.Test.YtimkgkokidhhpaaOpenH4
import Derived.Test.YtimkgkokidhhpaaIcmp2
namespace Go.Proofs.Ytimkgkokidhhpaa
open Go.ChangeShapes Go.WideShapes Go.ChangeAt Go.RowKit Go.Deep
set_option linter.unusedVariables false
set_option maxRecDepth 20000

theorem cell_ents {H : Type} {enc : TypeId × Value → H} {w : World} {base : Nat} {spare : Nat → Bool} {held : Bool} {n : Nat} {cs : List Value} (h : ∃ y, DataW.trod enc Try.prog w base spare held n 30 cs = some y) :
    ∃ A n c l, cs = [.slice A n c] ∧ Row w w.heap.size 4 A n (evs l) ∧ n ≤ c ∧ c ≤ maxLen ∧ ∀ x ∈ l, x.wf := by
  obtain ⟨⟨d, ps⟩, hf⟩ := h
  rcases open_slice_fields Try.underlying30 Try.underlying84 (by kernel_rfl) (by kernel_rfl) hf with hcs | ⟨a, len0, cap0, hcs, hl, hm, hi⟩
  · exact ⟨none, 0, 0, [], hcs, Row.nil _ _ _ _, Nat.le_refl _, Nat.zero_le _, by simp⟩
  · have one : ∀ i, i < len0 → ∃ x : Ent, x.wf ∧ ∀ j u, x.cells[j]? = some u → w.cell? (a.add (i * 4 + j)) = some u := by
      intro i hil
      obtain ⟨n, hfs⟩ := hi i hil
      obtain ⟨v0, y0, c0, t0⟩ := hfs 0 _ rfl
      obtain ⟨v1, y1, c1, t1⟩ := hfs 1 _ rfl
      obtain ⟨v2, y2, c2, t2⟩ := hfs 2 _ rfl
      obtain ⟨v3, y3, c3, t3⟩ := hfs 3 _ rfl
      obtain ⟨x0, e0, _, q0⟩ := DataW.trod_int Try.underlying3 t0
      obtain ⟨x1, e1, _, q1⟩ := DataW.trod_int Try.underlying5 t1
      obtain ⟨x2, e2, _⟩ := DataW.trod_bool Try.underlying4 t2
      obtain ⟨x3, e3, _, q3⟩ := DataW.trod_int Try.underlying5 t3
      simp only [List.cons.injEq, and_true] at e0 e1 e2 e3
      subst e0 e1 e2 e3
      refine ⟨⟨x0, x1, x2, x3⟩, ⟨q0, bd_u8 q1, bd_u8 q3⟩, fun j u hu => ?_⟩
      simp only [Ent.cells] at hu
      match j with
      | 0 => cases hu; exact c0
      | 1 => cases hu; exact c1
      | 2 => cases hu; exact c2
      | 3 => cases hu; exact c3
      | j + 4 => simp at hu
    have all : ∀ k, k ≤ len0 → ∃ l : List Ent, l.length = k ∧ (∀ x ∈ l, x.wf) ∧ ∀ i x, l[i]? = some x → ∀ j u, x.cells[j]? = some u → w.cell? (a.add (i * 4 + j)) = some u := by
      intro k
      induction k with
      | zero => exact fun _ => ⟨[], rfl, by simp, by simp⟩
      | succ k ih =>
        intro hk
        obtain ⟨l, h1, h2, h3⟩ := ih (by omega)
        obtain ⟨x, hx, hc⟩ := one k (by omega)
        refine ⟨l ++ [x], by simp [h1], ?_, fun i y hy => ?_⟩
        · intro y hy
          rcases List.mem_append.1 hy with h | h
          · exact h2 y h
          · obtain rfl := List.mem_singleton.1 h
            exact hx
        · rcases Nat.lt_or_ge i l.length with hlt | hge
          · rw [List.getElem?_append_left hlt] at hy
            exact h3 i y hy
          · rw [List.getElem?_append_right hge] at hy
            have hi0 : i - l.length = 0 := by
              have := (List.getElem?_eq_some_iff.1 hy).1
              simp at this
              omega
            rw [hi0] at hy
            obtain rfl : x = y := by simpa using hy
            have : i = k := by omega
            subst this
            exact hc
    obtain ⟨L, h1, h2, h3⟩ := all len0 (Nat.le_refl _)
    refine ⟨some a, len0, cap0, L, hcs, ⟨by rw [evs_length, h1], fun hn => ?_⟩, hl, hm, h2⟩
    obtain ⟨b, off, spot⟩ := a
    obtain ⟨x, hx⟩ := get_ex L (k := 0) (by omega)
    have hc0 := h3 0 x hx 0 _ rfl
    have hspot : spot = none := by simpa [Addr.add] using World.cell?_spot hc0
    subst hspot
    refine ⟨b, off, rfl, World.block_lt_of_cell? w _ (by rw [← hc0]), fun j u hu => ?_⟩
    obtain ⟨i, r, y, rfl, hr, hy, hu'⟩ := evs_back L j u hu
    rw [← add_none]
    exact h3 i y hy r u hu'
theorem Ent.wf.fitM {x : Ent} (h : x.wf) : x.fit := ⟨(bd_i64 h.label).1, (bd_i64 h.label).2, h.cls.1, h.cls.2, h.ttl.1, h.ttl.2⟩
theorem open_m {H : Type} {enc : TypeId × Value → H} {w : World} {base : Nat} {spare : Nat → Bool} {held : Bool} {r : Reach} {b0 : Nat} {v : Value} {d : DataW H} {ps : List MemPlace}
    (hv : Value.okWide Try.prog w r b0 32 v) (h : DataW.Trod enc Try.prog w base spare held 32 v d ps) : ∃ m : Mm, v = .agg m.cells.toArray ∧ m.ok w := by
  obtain ⟨cs, k, rfl, hz, hg⟩ := open_struct Try.underlying32 hv h
  have g0 : cs.length = 4 := hz.trans (by kernel_rfl)
  have k3 : Try.prog.cellsOf 3 = 1 := by kernel_rfl
  have ks : Try.prog.cellsOf 9 = 1 := by kernel_rfl
  have ke : Try.prog.cellsOf 30 = 1 := by kernel_rfl
  obtain ⟨c0, r0, rfl, g1⟩ := len_cons g0
  obtain ⟨c1, r1, rfl, g2⟩ := len_cons g1
  obtain ⟨c2, r2, rfl, g3⟩ := len_cons g2
  obtain ⟨c3, r3, rfl, g4⟩ := len_cons g3
  obtain rfl : r3 = [] := List.eq_nil_of_length_eq_zero g4
  obtain ⟨x0, e0, q0⟩ := cell_int Try.underlying3 (hg 0 _ rfl)
  obtain ⟨x1, e1, q1⟩ := cell_int Try.underlying3 (hg 1 _ rfl)
  obtain ⟨s, e2, z2⟩ := cell_str Try.underlying9 (hg 2 _ rfl)
  obtain ⟨A, n, c, l, e3, hr, hn, hm, hl⟩ := cell_ents (hg 3 _ rfl)
  obtain ⟨rfl, rfl, rfl, rfl⟩ : c0 = .int .i64 x0 ∧ c1 = .int .i64 x1 ∧ c2 = str s ∧ c3 = .slice A n c :=
    ⟨by simpa [k3] using e0, by simpa [k3] using e1, by simpa [ks] using e2, by simpa [ke] using e3⟩
  exact ⟨⟨x0, x1, s, A, n, c, l⟩, rfl, ⟨bd_i64 q0, bd_i64 q1, z2, hr, hn, hm, fun x hx => (hl x hx).fitM⟩⟩
theorem open_a16 {H : Type} {enc : TypeId × Value → H} {w : World} {base : Nat} {spare : Nat → Bool} {held : Bool} {r : Reach} {b0 : Nat} {v : Value} {d : DataW H} {ps : List MemPlace}
    (hv : Value.okWide Try.prog w r b0 33 v) (h : DataW.Trod enc Try.prog w base spare held 33 v d ps) : ∃ l : List UInt8, v = .agg (bv l).toArray ∧ l.length = 16 := by
  simp only [Value.okWide, Try.underlying33] at hv
  obtain ⟨cs, rfl, _⟩ := hv
  obtain ⟨fuel, hf⟩ := h
  obtain ⟨l, h1, h2⟩ := cell_bytes Try.underlying33 Try.underlying5 (by kernel_rfl) (by kernel_rfl) ⟨_, hf⟩
  refine ⟨l, ?_, h2⟩
  rw [← h1]
  simp [Value.cells]
end Go.Proofs.Ytimkgkokidhhpaa

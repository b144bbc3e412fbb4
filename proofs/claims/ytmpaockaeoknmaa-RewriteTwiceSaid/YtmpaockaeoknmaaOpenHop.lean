/- How a hop among a law's arguments is opened. No condition. -/
import Derived.Test.YtmpaockaeoknmaaOpenEntF
import Derived.Test.YtmpaockaeoknmaaOpen
import Derived.Test.YtmpaockaeoknmaaHop2
import Derived.Test.YtmpaockaeoknmaaRw2
namespace Go.Proofs.Ytmpaockaeoknmaa
open Go.ChangeShapes Go.WideShapes Go.ChangeAt Go.RowKit Go.Deep
set_option linter.unusedVariables false
set_option maxRecDepth 20000

theorem cell_nums {H : Type} {enc : TypeId × Value → H} {P : Program} {w : World} {base : Nat} {spare : Nat → Bool} {held : Bool} {t e : TypeId} {k : IntKind} {n : Nat} {cs : List Value} (ht : P.underlying t = some (.slice e)) (he : P.underlying e = some (.int k)) (hc : P.cellsOf e = 1)
    (h : ∃ y, DataW.trod enc P w base spare held n t cs = some y) : ∃ A n c l, cs = [.slice A n c] ∧ Row w w.heap.size 1 A n (nv k l) ∧ n ≤ c ∧ c ≤ maxLen ∧ ∀ x ∈ l, (Lit.int k x).wf = true := by
  obtain ⟨⟨d, ps⟩, hf⟩ := h
  rcases open_ints ht he hc hf with ⟨hcs, _⟩ | ⟨x, l, c, zs, hcs, _, hl, hm, hz, _, hcell, hwz⟩
  · exact ⟨none, 0, 0, [], hcs, Row.nil _ _ _ _, Nat.le_refl _, Nat.zero_le _, by simp⟩
  · have hlz : l ≤ zs.length := by rw [hz]; split <;> omega
    refine ⟨some x, l, c, zs.take l, hcs, ⟨?_, fun hn => ?_⟩, hl, hm, fun y hy => hwz y (List.mem_of_mem_take hy)⟩
    · rw [nv_length, List.length_take]; omega
    · obtain ⟨b, off, spot⟩ := x
      have hc0 := hcell 0 (by omega)
      have hspot : spot = none := by simpa [Addr.add] using World.cell?_spot hc0
      subst hspot
      refine ⟨b, off, rfl, World.block_lt_of_cell? w _ hc0, fun j u hu => ?_⟩
      have hj : j < l := by
        rcases Nat.lt_or_ge j l with h' | h'
        · exact h'
        · rw [List.getElem?_eq_none (by rw [nv_length, List.length_take]; omega)] at hu; cases hu
      have hcj := hcell j (by omega)
      have hadd : (⟨b, off, none⟩ : Addr).add j = ⟨b, off + j, none⟩ := by unfold Addr.add; split <;> simp_all
      rw [hadd] at hcj
      rw [hcj, ← hu, nv_get k (zs.take l) j (zs.getD j 0) ?_]
      rw [List.getElem?_take, if_pos hj, List.getD_eq_getElem?_getD, List.getElem?_eq_getElem (by omega)]
      rfl
theorem Ent.wf.fitR {x : Ent} (h : x.wf) : x.fitR := ⟨bd_i64 h.label, h.cls, h.ttl⟩
theorem open_hop {H : Type} {enc : TypeId × Value → H} {w : World} {base : Nat} {spare : Nat → Bool} {held : Bool} {r : Reach} {b0 : Nat} {v : Value} {d : DataW H} {ps : List MemPlace}
    (hv : Value.okWide Try.prog w r b0 25 v) (h : DataW.Trod enc Try.prog w base spare held 25 v d ps) : ∃ m : Hp, v = .agg m.cells.toArray ∧ m.ok w := by
  obtain ⟨cs, k, rfl, hz, hg⟩ := open_struct Try.underlying25 hv h
  have g0 : cs.length = 6 := hz.trans (by kernel_rfl)
  have k3 : Try.prog.cellsOf 3 = 1 := by kernel_rfl
  have ks : Try.prog.cellsOf 23 = 1 := by kernel_rfl
  have ke : Try.prog.cellsOf 4 = 1 := by kernel_rfl
  obtain ⟨c0, r0, rfl, g1⟩ := len_cons g0
  obtain ⟨c1, r1, rfl, g2⟩ := len_cons g1
  obtain ⟨c2, r2, rfl, g3⟩ := len_cons g2
  obtain ⟨c3, r3, rfl, g4⟩ := len_cons g3
  obtain ⟨c4, r4, rfl, g5⟩ := len_cons g4
  obtain ⟨c5, r5, rfl, g6⟩ := len_cons g5
  obtain rfl : r5 = [] := List.eq_nil_of_length_eq_zero g6
  obtain ⟨x0, e0, q0⟩ := cell_int Try.underlying3 (hg 0 _ rfl)
  obtain ⟨A1, n1, d1, l1, e1, hr1, hn1, hm1, hl1⟩ := cell_nums Try.underlying23 Try.underlying3 (by kernel_rfl) (hg 1 _ rfl)
  obtain ⟨x2, e2, q2⟩ := cell_int Try.underlying3 (hg 2 _ rfl)
  obtain ⟨x3, e3, q3⟩ := cell_int Try.underlying3 (hg 3 _ rfl)
  obtain ⟨A4, n4, d4, l4, e4, hr4, hn4, hm4, hl4⟩ := cell_nums Try.underlying23 Try.underlying3 (by kernel_rfl) (hg 4 _ rfl)
  obtain ⟨x5, e5⟩ := cell_bool Try.underlying4 (hg 5 _ rfl)
  obtain ⟨rfl, rfl, rfl, rfl, rfl, rfl⟩ : c0 = .int .i64 x0 ∧ c1 = .slice A1 n1 d1 ∧ c2 = .int .i64 x2 ∧ c3 = .int .i64 x3 ∧ c4 = .slice A4 n4 d4 ∧ c5 = .bool x5 :=
    ⟨by simpa [k3] using e0, by simpa [ks] using e1, by simpa [k3] using e2, by simpa [k3] using e3, by simpa [ks] using e4, by simpa [ke] using e5⟩
  exact ⟨⟨x0, A1, n1, d1, l1, x2, x3, A4, n4, d4, l4, x5⟩, rfl, ⟨bd_i64 q0, bd_i64 q2, bd_i64 q3, hr1, hn1, hm1, hr4, hn4, hm4, fun x hx => bd_i64 (hl1 x hx), fun x hx => bd_i64 (hl4 x hx)⟩⟩
end Go.Proofs.Ytmpaockaeoknmaa

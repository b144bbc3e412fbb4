/- A region in which the reference's Put answers and its table is laid into a new block, whichever comes first (layer 9). No condition. -/
import Derived.Test.YtbemhcihmlijaaaLaw09t
import Derived.Test.YtbemhcihmlijaaaPl9o
import Derived.Test.YtbemhcihmlijaaaRel2
namespace Go.Proofs.Ytbemhcihmlijaaa
open Go.RowKit
set_option linter.unusedVariables false
set_option maxRecDepth 20000
set_option linter.unusedSimpArgs false

/-- the cells of a table of the reference whose row holds these items, and lies where the old one did, or is new -/
def Goods (w0 : World) (g : Option Addr × Nat × Bool × Bool × Int × List Itm) (W : World) (cs : List Value) : Prop :=
 ∃ A' n' c', cs = tC g.2.2.1 g.2.2.2.1 g.2.2.2.2.1 (.slice A' n' c') ∧ Row W W.heap.size 19 A' n' (its g.2.2.2.2.2) ∧ n' ≤ c' ∧ NewA w0 g.1 g.2.1 A' n'
theorem Goods.len {w0 : World} {g : Option Addr × Nat × Bool × Bool × Int × List Itm} {W : World} {cs : List Value} (h : Goods w0 g W cs) : cs.length = 4 := by
 obtain ⟨A', n', c', rfl, _⟩ := h
 rfl
theorem Goods.keep {w0 A C : World} {g : Option Addr × Nat × Bool × Bool × Int × List Itm} {cs : List Value} (h : Goods w0 g A cs) (hsz : A.heap.size ≤ C.heap.size)
  (hk : ∀ k, k < A.heap.size → C.heap[k]? = A.heap[k]? ∨ ∃ cs, Blk A k 47 cs ∧ cs.length = 4) : Goods w0 g C cs := by
 obtain ⟨A', n', c', rfl, hr, hc, hN⟩ := h
 refine ⟨A', n', c', rfl, ⟨hr.1, fun hn => ?_⟩, hc, hN⟩
 obtain ⟨b, o, rfl, hb, hcell⟩ := hr.2 hn
 refine ⟨b, o, rfl, Nat.lt_of_lt_of_le hb hsz, fun j u hu => ?_⟩
 rcases hk b hb with h1 | ⟨cs, h1, h2⟩
 ·rw [← hcell j u hu]
  unfold World.cell?
  rw [h1]
 ·exfalso
  have h19 : 4 < (its g.2.2.2.2.2).length := by rw [hr.1]; omega
  have h3 := hcell 4 _ (List.getElem?_eq_getElem h19)
  rw [h1.cell (o + 4), List.getElem?_eq_none (by omega)] at h3
  cases h3
/-- what may come about in such a region: old blocks stay; a block of a reference's table may be filled -/
structure ExtG (N : Nat) (w0 : World) (g : Option Addr × Nat × Bool × Bool × Int × List Itm) (A C : World) : Prop where
 below : Below N A C
 blk : ∀ k, k < A.heap.size → C.heap[k]? = A.heap[k]? ∨ ((∃ cs, Blk A k 47 cs ∧ cs.length = 4) ∧ ∃ cs, Blk C k 47 cs ∧ Goods w0 g C cs)
theorem Goods.on {N : Nat} {w0 A C : World} {g : Option Addr × Nat × Bool × Bool × Int × List Itm} {cs : List Value} (h : Goods w0 g A cs) (hx : ExtG N w0 g A C) : Goods w0 g C cs :=
 h.keep hx.below.size fun k hk => (hx.blk k hk).elim .inl fun e => .inr e.1
theorem blk_same {A C : World} {k : Nat} {t : TypeId} {cs : List Value} (h : C.heap[k]? = A.heap[k]?) (hb : Blk A k t cs) : Blk C k t cs := h.trans hb
theorem blk_back {A C : World} {k : Nat} {t : TypeId} {cs : List Value} (h : C.heap[k]? = A.heap[k]?) (hb : Blk C k t cs) : Blk A k t cs := h.symm.trans hb
theorem ExtG.refl (N : Nat) (w0 : World) (g : Option Addr × Nat × Bool × Bool × Int × List Itm) (A : World) : ExtG N w0 g A A := ⟨Below.refl _ _, fun _ _ => .inl rfl⟩
theorem ExtG.trans {N : Nat} {w0 A B C : World} {g : Option Addr × Nat × Bool × Bool × Int × List Itm} (h : ExtG N w0 g A B) (k : ExtG N w0 g B C) : ExtG N w0 g A C := by
 refine ⟨h.below.trans k.below, fun i hi => ?_⟩
 have hi2 := Nat.lt_of_lt_of_le hi h.below.size
 rcases h.blk i hi with h1 | ⟨h1, cs, h2, h3⟩ <;> rcases k.blk i hi2 with k1 | ⟨⟨cs', k0, k1⟩, k2⟩
 ·exact .inl (k1.trans h1)
 ·exact .inr ⟨⟨cs', blk_back h1 k0, k1⟩, k2⟩
 ·exact .inr ⟨h1, cs, blk_same k1 h2, h3.on k⟩
 ·exact .inr ⟨h1, k2⟩
theorem ExtG.of {N : Nat} {w0 A C : World} {g : Option Addr × Nat × Bool × Bool × Int × List Itm} (hN : N ≤ A.heap.size) (h : Below A.heap.size A C) : ExtG N w0 g A C := ⟨h.mono hN, fun k hk => .inl (h.block k hk)⟩
/-- a block of a table that is there -/
def Room4 (N : Nat) (v : Value) (W : World) : Prop := ∃ g, v = .pointer (some ⟨g, 0, none⟩) ∧ N ≤ g ∧ ∃ cs, Blk W g 47 cs ∧ cs.length = 4
theorem Room4.on {N M : Nat} {w0 A C : World} {g : Option Addr × Nat × Bool × Bool × Int × List Itm} {v : Value} (h : Room4 N v A) (hx : ExtG M w0 g A C) : Room4 N v C := by
 obtain ⟨b, h1, h2, cs, h3, h4⟩ := h
 rcases hx.blk b h3.lt with e | ⟨_, cs', e1, e2⟩
 ·exact ⟨b, h1, h2, cs, blk_same e h3, h4⟩
 ·exact ⟨b, h1, h2, cs', e1, e2.len⟩
/-- .. and has been filled -/
def Full4 (w0 : World) (g : Option Addr × Nat × Bool × Bool × Int × List Itm) (u : Value) (W : World) : Prop := ∃ b, u = .pointer (some ⟨b, 0, none⟩) ∧ ∃ cs, Blk W b 47 cs ∧ Goods w0 g W cs
theorem Full4.on {M : Nat} {w0 A C : World} {g : Option Addr × Nat × Bool × Bool × Int × List Itm} {u : Value} (h : Full4 w0 g u A) (hx : ExtG M w0 g A C) : Full4 w0 g u C := by
 obtain ⟨b, h1, cs, h3, h4⟩ := h
 rcases hx.blk b h3.lt with e | ⟨_, cs', e1, e2⟩
 ·exact ⟨b, h1, cs, blk_same e h3, h4.on hx⟩
 ·exact ⟨b, h1, cs', e1, e2⟩
theorem fill4 {N b : Nat} {w0 A C : World} {g : Option Addr × Nat × Bool × Bool × Int × List Itm} {cs0 cs : List Value} (hN : N ≤ b) (hA : N ≤ A.heap.size) (hb : Blk A b 47 cs0) (hl : cs0.length = 4) (hc : Blk C b 47 cs) (hg : A.grownBy C (some b)) (hG : Goods w0 g A cs) :
  Goods w0 g C cs ∧ ExtG N w0 g A C := by
 have hk : ∀ k, k < A.heap.size → C.heap[k]? = A.heap[k]? ∨ k = b := fun k hk => by
  by_cases e : k = b
  ·exact .inr e
  ·exact .inl (hg.block k hk (fun h => e (by cases h; rfl)))
 have h1 : Goods w0 g C cs := hG.keep hg.size fun k h => (hk k h).elim .inl fun e => .inr ⟨cs0, by rw [e]; exact hb, hl⟩
 exact ⟨h1, grown_below hg hA hN, fun k h => (hk k h).elim .inl fun e => .inr ⟨⟨cs0, by rw [e]; exact hb, hl⟩, cs, by rw [e]; exact hc, h1⟩⟩
/-- what the reference's Put answers: the table's cells, and the code -/
def Told4 (w0 : World) (g : Option Addr × Nat × Bool × Bool × Int × List Itm) (E : Int) (v : Value) (W : World) : Prop := ∃ cs, v = .tuple #[.agg cs.toArray, .int .i64 E] ∧ Goods w0 g W cs
def Cells4 (w0 : World) (g : Option Addr × Nat × Bool × Bool × Int × List Itm) (v : Value) (W : World) : Prop := ∃ cs, v = .agg cs.toArray ∧ Goods w0 g W cs
theorem Told4.on {N : Nat} {w0 A C : World} {g : Option Addr × Nat × Bool × Bool × Int × List Itm} {E : Int} {v : Value} (h : Told4 w0 g E v A) (hx : ExtG N w0 g A C) : Told4 w0 g E v C := by
 obtain ⟨cs, h1, h2⟩ := h
 exact ⟨cs, h1, h2.on hx⟩
theorem Cells4.on {N : Nat} {w0 A C : World} {g : Option Addr × Nat × Bool × Bool × Int × List Itm} {v : Value} (h : Cells4 w0 g v A) (hx : ExtG N w0 g A C) : Cells4 w0 g v C := by
 obtain ⟨cs, h1, h2⟩ := h
 exact ⟨cs, h1, h2.on hx⟩
theorem NewA.back {w0 W : World} {A A' : Option Addr} {n n' : Nat} (h : NewA W A n A' n') (hs : w0.heap.size ≤ W.heap.size) : NewA w0 A n A' n' := fun hn => (h hn).elim .inl fun ⟨x, h1, h2⟩ => .inr ⟨x, h1, Nat.le_trans hs h2⟩
theorem Goods.one {w0 : World} {g : Option Addr × Nat × Bool × Bool × Int × List Itm} {W : World} {cs : List Value} (h : Goods w0 g W cs) : ∀ v ∈ cs, v.oneCell' = true := by
 obtain ⟨A', n', c', rfl, _⟩ := h
 exact oneTs _ _ _ _ _ _
theorem Goods.info {w0 : World} {g : Option Addr × Nat × Bool × Bool × Int × List Itm} {W : World} {cs : List Value} (h : Goods w0 g W cs) : (Try.prog.info? 47).map (·.size) = some cs.length := by
 obtain ⟨A', n', c', rfl, _⟩ := h
 exact sizeT _ _ _ _
end Go.Proofs.Ytbemhcihmlijaaa

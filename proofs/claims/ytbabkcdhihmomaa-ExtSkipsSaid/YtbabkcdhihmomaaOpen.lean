/- How a law's arguments are opened: slices of bytes and of numbers, structs and arrays by value. No condition. -/
import Derived.Test.YtbabkcdhihmomaaBase
import Derived.OpenShut
import Derived.ShutString
import Derived.ChangeOld
namespace Go.Proofs.Ytbabkcdhihmomaa
open Go.ChangeShapes Go.WideShapes Go.ChangeAt Go.RowKit
set_option linter.unusedVariables false
set_option maxRecDepth 20000

section
variable {H : Type} {enc : TypeId × Value → H} {P : Program} {w : World} {base : Nat} {spare : Nat → Bool} {held : Bool}

/-- numbers of a kind as cells -/
def nv (k : IntKind) (l : List Int) : List Value := l.map (Value.int k)
theorem nv_length (k : IntKind) (l : List Int) : (nv k l).length = l.length := by simp [nv]
theorem nv_get (k : IntKind) (l : List Int) (i : Nat) (x : Int) (h : l[i]? = some x) : (nv k l)[i]? = some (.int k x) := by simp [nv, h]

/-- a slice of numbers that came in: it is read as numbers, each of its kind -/
theorem open_nums {t e : TypeId} {k : IntKind} {r : Reach} {b0 : Nat} {v : Value} {d : DataW H} {ps : List MemPlace} (ht : P.underlying t = some (.slice e)) (he : P.underlying e = some (.int k)) (hc : P.cellsOf e = 1)
    (hv : Value.okWide P w r b0 t v) (h : DataW.Trod enc P w base spare held t v d ps) :
    ∃ A n c l, v = .slice A n c ∧ Row w w.heap.size 1 A n (nv k l) ∧ n ≤ c ∧ c ≤ maxLen ∧ ∀ x ∈ l, (Lit.int k x).wf = true := by
  obtain ⟨a0, len0, cap0, rfl⟩ := okWide_slice ht hv
  obtain ⟨fuel, hf⟩ := h
  rcases open_ints ht he hc hf with ⟨hcs, _⟩ | ⟨x, l, c, zs, hcs, _, hl, hm, hz, _, hcell, hwz⟩
  · simp [Value.cells] at hcs
    obtain ⟨rfl, rfl, rfl⟩ := hcs
    exact ⟨none, 0, 0, [], rfl, Row.nil _ _ _ _, Nat.le_refl _, Nat.zero_le _, by simp⟩
  · simp [Value.cells] at hcs
    obtain ⟨rfl, rfl, rfl⟩ := hcs
    have hlz : len0 ≤ zs.length := by rw [hz]; split <;> omega
    refine ⟨some x, len0, cap0, zs.take len0, rfl, ⟨?_, fun hn => ?_⟩, hl, hm, fun y hy => hwz y (List.mem_of_mem_take hy)⟩
    · rw [nv_length, List.length_take]; omega
    · obtain ⟨b, off, spot⟩ := x
      have hc0 := hcell 0 (by omega)
      have hspot : spot = none := by simpa [Addr.add] using World.cell?_spot hc0
      subst hspot
      refine ⟨b, off, rfl, World.block_lt_of_cell? w _ hc0, fun j u hu => ?_⟩
      have hj : j < len0 := by
        rcases Nat.lt_or_ge j len0 with h' | h'
        · exact h'
        · rw [List.getElem?_eq_none (by rw [nv_length, List.length_take]; omega)] at hu; cases hu
      have hcj := hcell j (by omega)
      have hadd : (⟨b, off, none⟩ : Addr).add j = ⟨b, off + j, none⟩ := by unfold Addr.add; split <;> simp_all
      rw [hadd] at hcj
      rw [hcj, ← hu, nv_get k (zs.take len0) j (zs.getD j 0) ?_]
      rw [List.getElem?_take, if_pos hj, List.getD_eq_getElem?_getD, List.getElem?_eq_getElem (by omega)]
      rfl

/-- a slice of bytes that came in -/
theorem open_bytes {t e : TypeId} {r : Reach} {b0 : Nat} {v : Value} {d : DataW H} {ps : List MemPlace} (ht : P.underlying t = some (.slice e)) (he : P.underlying e = some (.int .u8)) (hc : P.cellsOf e = 1)
    (hv : Value.okWide P w r b0 t v) (h : DataW.Trod enc P w base spare held t v d ps) : ∃ r : Bs, v = r.v ∧ r.ok w := by
  obtain ⟨A, n, c, l, rfl, hr, hn, hm, hw⟩ := open_nums ht he hc hv h
  have e : nv .u8 l = bv (l.map fun z => UInt8.ofNat z.toNat) := by
    unfold nv bv
    rw [List.map_map]
    apply List.map_congr_left
    intro z hz
    have hb : 0 ≤ z ∧ z ≤ 255 := by simpa [Lit.wf, IntKind.min, IntKind.max, IntKind.signed, IntKind.bits] using hw z hz
    simp only [Function.comp]
    rw [u8_of z hb.1 hb.2]
  rw [e] at hr
  exact ⟨⟨A, n, c, _⟩, rfl, hr, hn, hm⟩

/-- a struct by value: its fields' cells, each with its own reading -/
theorem open_struct {t : TypeId} {fs : Array Field} {r : Reach} {b0 : Nat} {v : Value} {d : DataW H} {ps : List MemPlace} (ht : P.underlying t = some (.struct fs))
    (hv : Value.okWide P w r b0 t v) (h : DataW.Trod enc P w base spare held t v d ps) :
    ∃ (cs : List Value) (n : Nat), v = .agg cs.toArray ∧ cs.length = P.cellsOf t ∧ ∀ (i : Nat) (f : Field), fs[i]? = some f → ∃ y, DataW.trod enc P w base spare held n f.type ((cs.drop f.offset).take (P.cellsOf f.type)) = some y := by
  obtain ⟨⟨cs⟩, rfl, hsz⟩ := okWide_struct ht hv
  obtain ⟨fuel, hf⟩ := h
  obtain ⟨xs, n, _, _, _, hlen, hg⟩ := DataW.trod_struct ht hf
  refine ⟨cs, n, rfl, by simpa using hsz, fun i f hi => ?_⟩
  have hil : i < fs.size := (Array.getElem?_eq_some_iff.1 hi).1
  have := hg i f hi
  simp only [Value.cells] at this
  rw [this, List.getElem?_eq_getElem (by omega)]
  exact ⟨_, rfl⟩
theorem cell_int {t : TypeId} {k : IntKind} {n : Nat} {cs : List Value} (ht : P.underlying t = some (.int k)) (h : ∃ y, DataW.trod enc P w base spare held n t cs = some y) : ∃ x, cs = [.int k x] ∧ (Lit.int k x).wf = true := by
  obtain ⟨y, h⟩ := h
  obtain ⟨x, h1, _, h2⟩ := DataW.trod_int ht h
  exact ⟨x, h1, h2⟩
theorem cell_bool {t : TypeId} {n : Nat} {cs : List Value} (ht : P.underlying t = some .bool) (h : ∃ y, DataW.trod enc P w base spare held n t cs = some y) : ∃ x, cs = [.bool x] := by
  obtain ⟨y, h⟩ := h
  obtain ⟨x, h1, _⟩ := DataW.trod_bool ht h
  exact ⟨x, h1⟩
end
theorem len_cons {l : List Value} {n : Nat} (h : l.length = n + 1) : ∃ a r, l = a :: r ∧ r.length = n := by
  cases l with
  | nil => simp at h
  | cons a r => exact ⟨a, r, rfl, by simpa using h⟩
theorem bd_u8 {x : Int} (h : (Lit.int .u8 x).wf = true) : 0 ≤ x ∧ x ≤ 255 := by simpa [Lit.wf, IntKind.min, IntKind.max, IntKind.signed, IntKind.bits] using h
theorem bd_u16 {x : Int} (h : (Lit.int .u16 x).wf = true) : 0 ≤ x ∧ x ≤ 65535 := by simpa [Lit.wf, IntKind.min, IntKind.max, IntKind.signed, IntKind.bits] using h
theorem bd_u32 {x : Int} (h : (Lit.int .u32 x).wf = true) : 0 ≤ x ∧ x ≤ 4294967295 := by simpa [Lit.wf, IntKind.min, IntKind.max, IntKind.signed, IntKind.bits] using h
theorem bd_i64 {x : Int} (h : (Lit.int .i64 x).wf = true) : -9223372036854775808 ≤ x ∧ x ≤ 9223372036854775807 := by simpa [Lit.wf, IntKind.min, IntKind.max, IntKind.signed, IntKind.bits] using h
end Go.Proofs.Ytbabkcdhihmomaa

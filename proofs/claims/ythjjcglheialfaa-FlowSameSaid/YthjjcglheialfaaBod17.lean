/- Two packets' bodies as cells and as an argument; two packets of one flow have one key. -/
import Derived.Test.YthjjcglheialfaaFlowo
import Derived.Test.YthjjcglheialfaaPlain4
import Derived.Test.YthjjcglheialfaaPlain6
import Derived.Test.YthjjcglheialfaaOpenH4
import Derived.Test.YthjjcglheialfaaOpenH6
namespace Go.Proofs.Ythjjcglheialfaa
open Go.ChangeShapes Go.WideShapes Go.ChangeAt Go.RowKit
set_option linter.unusedVariables false
set_option maxRecDepth 20000
set_option linter.unusedSimpArgs false

structure Bod where
  p : List UInt8
  a : Bs
  b : Bs
  ttl : Int
  cls : Int
def Bod.cells (x : Bod) : List Value := bv x.p ++ [x.a.v, x.b.v, .int .u8 x.ttl, .int .u8 x.cls]
structure Bod.ok (w : World) (x : Bod) : Prop where
  p : x.p.length = 4
  a : x.a.ok w
  b : x.b.ok w
  ttl : 0 ≤ x.ttl ∧ x.ttl ≤ 255
  cls : 0 ≤ x.cls ∧ x.cls ≤ 255
theorem Bod.get (x : Bod) (h : x.p.length = 4) (j : Nat) : x.cells[4 + j]? = [x.a.v, x.b.v, .int .u8 x.ttl, .int .u8 x.cls][j]? := by
  unfold Bod.cells
  rw [List.getElem?_append_right (by rw [bv_length, h]; omega), bv_length, h, Nat.add_sub_cancel_left]
theorem Bod.cells_length (x : Bod) (h : x.p.length = 4) : x.cells.length = 8 := by simp [Bod.cells, bv_length, h]
theorem Bod.take (x : Bod) (h : x.p.length = 4) : x.cells.take 4 = bv x.p := by
  unfold Bod.cells
  exact List.take_left' (by rw [bv_length, h])

section
variable {H : Type} {enc : TypeId × Value → H} {P : Program} {w : World} {base : Nat} {spare : Nat → Bool} {held : Bool}
theorem cell_slice {t e : TypeId} {n : Nat} {cs : List Value} (ht : P.underlying t = some (.slice e)) (he : P.underlying e = some (.int .u8)) (hc : P.cellsOf e = 1)
    (h : ∃ y, DataW.trod enc P w base spare held n t cs = some y) : ∃ r : Bs, cs = [r.v] ∧ r.ok w := by
  obtain ⟨⟨d, ps⟩, hf⟩ := h
  rcases open_ints ht he hc hf with ⟨hcs, _⟩ | ⟨x, l, c, zs, hcs, _, hl, hm, hz, _, hcell, hwz⟩
  · exact ⟨⟨none, 0, 0, []⟩, hcs, ⟨Row.nil _ _ _ _, Nat.le_refl _, Nat.zero_le _⟩⟩
  · have hlz : l ≤ zs.length := by rw [hz]; split <;> omega
    have hrow : Row w w.heap.size 1 (some x) l (nv .u8 (zs.take l)) := by
      refine ⟨?_, fun hn => ?_⟩
      · rw [nv_length, List.length_take]; omega
      · obtain ⟨b, off, spot⟩ := x
        have hc0 := hcell 0 (by omega)
        have hspot : spot = none := by simpa [Addr.add] using World.cell?_spot hc0
        subst hspot
        refine ⟨b, off, rfl, World.block_lt_of_cell? w _ hc0, fun j u hu => ?_⟩
        have hj : j < l := by
          rcases Nat.lt_or_ge j l with h' | h'
          · exact h'
          · rw [List.getElem?_eq_none (by rw [nv_length, List.length_take]; omega)] at hu; cases hu
        have hcj := hcell j (by omega)
        have hadd : (⟨b, off, none⟩ : Addr).add j = ⟨b, off + j, none⟩ := by unfold Addr.add; split <;> simp_all
        rw [hadd] at hcj
        rw [hcj, ← hu, nv_get .u8 (zs.take l) j (zs.getD j 0) ?_]
        rw [List.getElem?_take, if_pos hj, List.getD_eq_getElem?_getD, List.getElem?_eq_getElem (by omega)]
        rfl
    have e : nv .u8 (zs.take l) = bv ((zs.take l).map fun z => UInt8.ofNat z.toNat) := by
      unfold nv bv
      rw [List.map_map]
      apply List.map_congr_left
      intro z hz
      have hb : 0 ≤ z ∧ z ≤ 255 := by simpa [Lit.wf, IntKind.min, IntKind.max, IntKind.signed, IntKind.bits] using hwz z (List.mem_of_mem_take hz)
      simp only [Function.comp]
      rw [u8_of z hb.1 hb.2]
    rw [e] at hrow
    exact ⟨⟨some x, l, c, _⟩, hcs, ⟨hrow, hl, hm⟩⟩
end
theorem open_bod {H : Type} {enc : TypeId × Value → H} {w : World} {base : Nat} {spare : Nat → Bool} {held : Bool} {r : Reach} {b0 : Nat} {v : Value} {d : DataW H} {ps : List MemPlace}
    (hv : Value.okWide Try.prog w r b0 50 v) (h : DataW.Trod enc Try.prog w base spare held 50 v d ps) : ∃ x : Bod, v = .agg x.cells.toArray ∧ x.ok w := by
  obtain ⟨cs, m, rfl, hz, hg⟩ := open_struct Try.underlying50 hv h
  have g0 : cs.length = 8 := hz.trans (by kernel_rfl)
  have k8 : Try.prog.cellsOf 5 = 1 := by kernel_rfl
  have ks : Try.prog.cellsOf 22 = 1 := by kernel_rfl
  have k4 : Try.prog.cellsOf 44 = 4 := by kernel_rfl
  obtain ⟨p, e0, l0⟩ := cell_bytes Try.underlying44 Try.underlying5 k8 k4 (hg 0 _ rfl)
  obtain ⟨a, e1, q1⟩ := cell_slice Try.underlying22 Try.underlying5 (by kernel_rfl) (hg 1 _ rfl)
  obtain ⟨b, e2, q2⟩ := cell_slice Try.underlying22 Try.underlying5 (by kernel_rfl) (hg 2 _ rfl)
  obtain ⟨x3, e3, q3⟩ := cell_int Try.underlying5 (hg 3 _ rfl)
  obtain ⟨x4, e4, q4⟩ := cell_int Try.underlying5 (hg 4 _ rfl)
  have e0' : cs.take 4 = bv p := by simpa [k4] using e0
  have e1' : (cs.drop 4).take 1 = [a.v] := by simpa [ks] using e1
  have e2' : (cs.drop 5).take 1 = [b.v] := by simpa [ks] using e2
  have e3' : (cs.drop 6).take 1 = [.int .u8 x3] := by simpa [k8] using e3
  have e4' : (cs.drop 7).take 1 = [.int .u8 x4] := by simpa [k8] using e4
  have hr : cs = bv p ++ [a.v, b.v, .int .u8 x3, .int .u8 x4] := by
    have h7 : cs.drop 7 = [.int .u8 x4] := by rw [← e4']; exact (List.take_of_length_le (by simp; omega)).symm
    have h6 : cs.drop 6 = [.int .u8 x3, .int .u8 x4] := by
      have := List.take_append_drop 1 (cs.drop 6)
      rw [e3', List.drop_drop, h7] at this
      exact this.symm
    have h5 : cs.drop 5 = [b.v, .int .u8 x3, .int .u8 x4] := by
      have := List.take_append_drop 1 (cs.drop 5)
      rw [e2', List.drop_drop, h6] at this
      exact this.symm
    have h4 : cs.drop 4 = [a.v, b.v, .int .u8 x3, .int .u8 x4] := by
      have := List.take_append_drop 1 (cs.drop 4)
      rw [e1', List.drop_drop, h5] at this
      exact this.symm
    rw [← h4, ← e0', List.take_append_drop]
  subst hr
  exact ⟨⟨p, a, b, x3, x4⟩, rfl, ⟨l0, q1, q2, bd_u8 q3, bd_u8 q4⟩⟩

def H4.next (h : H4) (t c : Int) : H4 := { h with ttl := t, tos := c, id := (h.id + 1) % 65536 }
theorem H4.next_fit (h : H4) (hf : h.fit) (t c : Int) (ht : 0 ≤ t ∧ t ≤ 255) (hc : 0 ≤ c ∧ c ≤ 255) : (h.next t c).fit := ⟨⟨hf.ok.src, hf.ok.dst⟩, hc, hf.len, by simp only [H4.next]; omega, hf.off, ht, hf.pro, hf.opt⟩
def H6.next' (g : H6) (t c : Int) : H6 := { g with ttl := t, cls := c }
theorem H6.next_fit (g : H6) (hf : g.fit) (t c : Int) (ht : 0 ≤ t ∧ t ≤ 255) (hc : 0 ≤ c ∧ c ≤ 255) : (g.next' t c).fit := ⟨⟨hf.ok.src, hf.ok.dst⟩, hc, hf.flow, hf.len, hf.next, ht⟩
theorem put4_zero (h : H4) (l : List UInt8) (he : (put4 h l).2 = 0) : ¬ h.bad ∧ 20 + h.opt.length + l.length ≤ 65535 ∧ (put4 h l).1 = pkt4 h l := by
  unfold put4 at he ⊢
  by_cases hb : h.bad
  · rw [if_pos hb] at he; simp at he
  · rw [if_neg hb] at he ⊢
    by_cases hs : 65535 < 20 + h.opt.length + l.length
    · rw [if_pos hs] at he; simp at he
    · rw [if_neg hs]; exact ⟨hb, by omega, rfl⟩
theorem put6_zero (h : H6) (l : List UInt8) (he : (put6 h l).2 = 0) : 0 ≤ h.flow ∧ h.flow < 1048576 ∧ l.length ≤ 65495 ∧ (put6 h l).1 = pkt6 h l := by
  unfold put6 at he ⊢
  by_cases hb : h.flow < 0 ∨ 1048576 ≤ h.flow
  · rw [if_pos hb] at he; simp at he
  · rw [if_neg hb] at he ⊢
    by_cases hs : 65495 < l.length
    · rw [if_pos hs] at he; simp at he
    · rw [if_neg hs]; exact ⟨by omega, by omega, by omega, rfl⟩
theorem num_hd (l : List UInt8) (h : 4 ≤ l.length) : numF l 0 4 / 268435456 = (l.getD 0 0).toNat / 16 := by
  match l, h with
  | u0 :: u1 :: u2 :: u3 :: t, _ =>
    have e : numF (u0 :: u1 :: u2 :: u3 :: t) 0 4 = ((u0.toNat * 256 + u1.toNat) * 256 + u2.toNat) * 256 + u3.toNat := by
      simp [numF, be]
    rw [e]
    have h0 := u0.toNat_lt
    have h1 := u1.toNat_lt
    have h2 := u2.toNat_lt
    have h3 := u3.toNat_lt
    simp only [List.getD_cons_zero]
    omega
theorem par_one (l : List UInt8) (h : (par6 l).2 = 0) : (par4 l).2 ≠ 0 := by
  have hv : 40 ≤ l.length ∧ numF l 0 4 / 268435456 = 6 := by
    unfold par6 at h
    split at h
    · simp at h
    · split at h
      · simp at h
      · rename_i a b
        exact ⟨by omega, by simpa using b⟩
  have hn := num_hd l (by omega)
  unfold par4
  rw [if_neg (by omega), if_pos (by omega)]
  simp
theorem num_app (p A : List UInt8) (hp : p.length = 4) : numF (p ++ A) 0 2 = numF p 0 2 ∧ numF (p ++ A) 2 2 = numF p 2 2 := by
  match p, hp with
  | [a, b, c, d], _ => exact ⟨rfl, rfl⟩
theorem ports_app (k : Ky) (p A : List UInt8) (hp : p.length = 4) : portsF k (p ++ A) = portsF k p := by
  unfold portsF
  obtain ⟨h1, h2⟩ := num_app p A hp
  rw [h1, h2]
  have e1 : 4 ≤ (p ++ A).length := by rw [List.length_append]; omega
  have e2 : 4 ≤ p.length := by omega
  simp only [e1, e2, and_true]
theorem ports_fit (k : Ky) (hk : k.fit) (p : List UInt8) : (portsF k p).fit := by
  unfold portsF
  have h1 := numF_bd p 0 2
  have h2 := numF_bd p 2 2
  split
  · exact ⟨⟨hk.ok.src, hk.ok.dst⟩, hk.pro, by simp only; omega, by simp only; omega⟩
  · exact hk
/-- the key of packets of a header and of ports -/
def keyH4 (h : H4) (p : List UInt8) : Ky := if (!h.more && (h.off == 0)) = true then portsF ⟨false, h.src ++ z12, h.dst ++ z12, h.pro, 0, 0⟩ p else ⟨false, h.src ++ z12, h.dst ++ z12, h.pro, 0, 0⟩
def keyH6 (g : H6) (p : List UInt8) : Ky := portsF ⟨true, g.src, g.dst, g.next, 0, 0⟩ p
theorem keyH4_fit (h : H4) (hf : h.fit) (p : List UInt8) : (keyH4 h p).fit := by
  have h0 : (Ky.mk false (h.src ++ z12) (h.dst ++ z12) h.pro 0 0).fit := ⟨⟨by simp [hf.ok.src, z12], by simp [hf.ok.dst, z12]⟩, hf.pro, by simp, by simp⟩
  unfold keyH4
  split
  · exact ports_fit _ h0 p
  · exact h0
theorem keyH6_fit (g : H6) (gf : g.fit) (p : List UInt8) : (keyH6 g p).fit := ports_fit _ ⟨⟨gf.ok.src, gf.ok.dst⟩, gf.next, by simp, by simp⟩ p
theorem portsF_six (k : Ky) (p : List UInt8) : (portsF k p).six = k.six := by
  unfold portsF
  split <;> rfl
theorem keyH4_six (h : H4) (p : List UInt8) : (keyH4 h p).six = false := by
  unfold keyH4
  split
  · rw [portsF_six]
  · rfl
theorem keyH6_six (g : H6) (p : List UInt8) : (keyH6 g p).six = true := by unfold keyH6; rw [portsF_six]
theorem of_pkt4 (h : H4) (hf : h.fit) (p A : List UInt8) (hp : p.length = 4) (he : (put4 h (p ++ A)).2 = 0) : ofK (put4 h (p ++ A)).1 = (keyH4 h p, true) ∧ (put4 h (p ++ A)).1.length ≤ 70000 := by
  obtain ⟨hx, hl, e⟩ := put4_zero h _ he
  rw [e]
  have hpar := par4_pkt h hf hx (p ++ A) [] hl
  have hbod := body4_pkt h hf hx (p ++ A) [] hl
  rw [List.append_nil] at hpar hbod
  refine ⟨?_, by rw [pkt4_length h hf.ok]; omega⟩
  unfold ofK whole4 key4F
  rw [hpar, hbod]
  simp only [if_true]
  rw [ports_app _ p A hp]
  rfl
theorem of_pkt6 (g : H6) (gf : g.fit) (p A : List UInt8) (hp : p.length = 4) (he : (put6 g (p ++ A)).2 = 0) : ofK (put6 g (p ++ A)).1 = (keyH6 g p, true) ∧ (put6 g (p ++ A)).1.length ≤ 70000 := by
  obtain ⟨x0, x1, hl, e⟩ := put6_zero g _ he
  rw [e]
  have hpar := par6_pkt g gf x0 x1 (p ++ A) [] hl
  have hbod := body6_pkt g gf x0 x1 (p ++ A) [] hl
  rw [List.append_nil] at hpar hbod
  have h0 : (par6 (pkt6 g (p ++ A))).2 = 0 := by rw [hpar]
  refine ⟨?_, by rw [pkt6_length g gf.ok]; omega⟩
  unfold ofK
  rw [if_neg (par_one _ h0), if_pos h0]
  unfold key6F
  rw [hpar, hbod, ports_app _ p A hp]
  rfl
theorem keyH4_next (h : H4) (t c : Int) (p : List UInt8) : keyH4 (h.next t c) p = keyH4 h p := rfl
theorem keyH6_next (g : H6) (t c : Int) (p : List UInt8) : keyH6 (g.next' t c) p = keyH6 g p := rfl
theorem next4_cells (h : H4) (t c : Int) : ((h.cells.set 6 (.int .u8 t)).set 0 (.int .u8 c)).set 2 (.int .u16 ((h.id + 1) % 65536)) = (h.next t c).cells := rfl
theorem next6_cells (g : H6) (t c : Int) : (g.cells.set 4 (.int .u8 t)).set 0 (.int .u8 c) = (g.next' t c).cells := rfl
end Go.Proofs.Ythjjcglheialfaa

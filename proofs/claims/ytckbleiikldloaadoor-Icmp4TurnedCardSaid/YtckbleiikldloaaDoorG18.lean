/- Texts of this claim put together, in build order: each one's own remark stands ahead of it. -/
import Derived.Test.YtckbleiikldloaaDoorG17
/- What icmp4.Put (layer 23) computes. No condition but sizes, and what the package's table holds. -/
namespace Go.Proofs.YtckbleiikldloaaDoor
open Go.RowKit
set_option linter.unusedVariables false
set_option maxRecDepth 20000
set_option linter.unusedSimpArgs false

/-- the package's table of types and codes, as its text lays it -/
def typs : List Value := [.int .u8 11, .int .u8 0, .int .u8 3, .int .u8 4, .int .u8 3, .int .u8 0]
structure Typ23 (w : World) : Prop where
  lt : 0 < w.heap.size
  cell : ∀ j v, typs[j]? = some v → w.cell? ⟨0, j, none⟩ = some v
theorem Typ23.on {w w' : World} (h : Typ23 w) (hb : Below w.heap.size w w') : Typ23 w' := ⟨Nat.lt_of_lt_of_le h.lt hb.size, fun j v hv => (hb.cell (p := ⟨_, j, none⟩) h.lt).trans (h.cell j v hv)⟩
theorem bad_or {m : Mm} (h : ¬ m.bad) : 0 ≤ m.kind ∧ m.kind ≤ 2 ∧ 0 ≤ m.mtu ∧ m.mtu ≤ 65535 ∧ (m.kind ≠ 1 → m.mtu = 0) := by
  unfold Mm.bad at h
  refine ⟨by omega, by omega, by omega, by omega, fun h1 => ?_⟩
  omega
theorem frontK_eq (k : Int) (h0 : 0 ≤ k) (h2 : k ≤ 2) : ∃ (q : Nat) (f g : UInt8), k = (q : Int) ∧ q ≤ 2 ∧ frontK k = [f, g] ∧ typs[q * 2]? = some (.int .u8 (f.toNat : Int)) ∧ typs[q * 2 + 1]? = some (.int .u8 (g.toNat : Int)) := by
  have : k = 0 ∨ k = 1 ∨ k = 2 := by omega
  rcases this with rfl | rfl | rfl
  · exact ⟨0, 11, 0, rfl, by omega, rfl, rfl, rfl⟩
  · exact ⟨1, 3, 4, rfl, by omega, rfl, rfl, rfl⟩
  · exact ⟨2, 3, 0, rfl, by omega, rfl, rfl, rfl⟩
theorem made_zeros (n : Nat) : (madeCells (Value.int .u8 0).cells (n * 1)).toList = bv (zerosN n) := by
  rw [show (Value.int .u8 0).cells = #[Value.int .u8 0] from rfl, toList_madeCells_one, Nat.mul_one]
  simp [bv, zerosN]
theorem exec_makeN {w : World} {o : Oper} {a : Act} (x y : Operand) (ho : o.op = .makeSlice 22 x y) (fn : Nat) (hfn : fn ≤ 1000) (hx : a.eval x = .int .i64 (fn : Int)) (hy : a.eval y = .int .i64 (fn : Int)) :
    (execOp a.eval o).run Tryd.prog w = .ok (.value (.slice (some ⟨w.heap.size, 0, none⟩) fn fn)) (w.alloc (.cells (madeCells (Value.int .u8 0).cells (fn * 1)) 5)) := by
  obtain ⟨i, hi, hz, hsz, hby⟩ := info_parts infoByte
  have h := run_makeSlice (P := Tryd.prog) w 22 5 i (.int .u8 0) Tryd.underlying22 hi hz .i64 .i64 (fn : Int) (fn : Int) (by omega) (Int.le_refl _) (by rw [hsz, Int.toNat_natCast]; omega) (by rw [hby]; omega) (by omega)
  unfold execOp
  simp only [ho, hx, hy, Sem.run_bind, h, Result.andThen_ok, hsz, Int.toNat_natCast]
  rfl
theorem own_zeros (w : World) (B fn : Nat) (hB : B ≤ w.heap.size) (hfn : fn ≤ 1000) : Own (w.alloc (.cells (madeCells (Value.int .u8 0).cells (fn * 1)) 5)) B 5 1 (some ⟨w.heap.size, 0, none⟩) fn fn (bv (zerosN fn)) := by
  rw [← made_zeros]
  exact Own.made (n := fn) (sz := 1) w _ hB (by simp only [maxLen]; omega) (by rw [size_madeCells])
theorem own_far {W : World} {base n c g : Nat} {A : Option Addr} {xs : List Value} (h : Own W base 5 1 A n c xs) (N : Nat) (hl : ∀ r, blk A c = some r → r < N) (hg : N ≤ g) (j : Nat) (u : Value) : Own (W.setCell ⟨g, j, none⟩ u) base 5 1 A n c xs :=
  h.kept (grown_set (grown_refl W _) j u) (fun r hr e => by have := hl r hr; injection e; omega)
theorem take_min (beg : List UInt8) (pn k : Nat) (h : beg.length = pn) : beg.take (min pn k) = beg.take k := by
  rcases Nat.le_total pn k with h1 | h1
  · rw [Nat.min_eq_left h1, List.take_of_length_le (by omega), List.take_of_length_le (by omega)]
  · rw [Nat.min_eq_right h1]
theorem body_body (m : Mm) : bodyF (frontK m.kind ++ [0, 0] ++ rest23 m) = body23 m := by
  have h2 := frontK_length m.kind
  have h4 : (frontK m.kind ++ [0, 0]).length = 4 := by rw [List.length_append, h2]; rfl
  have ht : (frontK m.kind ++ [0, 0] ++ rest23 m).take 2 = frontK m.kind := by rw [List.append_assoc, List.take_left' h2]
  have hd : (frontK m.kind ++ [0, 0] ++ rest23 m).drop 4 = rest23 m := List.drop_left' h4
  unfold bodyF body23
  rw [ht, hd]
theorem begin_full3 (beg : List UInt8) (pn q2 fn : Nat) (h : beg.length = pn) (h2 : q2 = min pn 128) (h3 : fn = 128 - q2) : beg.take q2 ++ zerosN fn = begin23 beg true := by
  unfold begin23
  by_cases hb : 128 < pn
  · rw [if_pos (by omega), show q2 = 128 by omega, show fn = 0 by omega]
    simp [zerosN]
  · rw [if_neg (by omega), if_pos rfl, List.take_of_length_le (by omega), show fn = 128 - beg.length by omega]
theorem begin_cut3 (beg : List UInt8) (pn q2 : Nat) (h : beg.length = pn) (h2 : q2 = min pn 128) : beg.take q2 = begin23 beg false := by
  unfold begin23
  by_cases hb : 128 < pn
  · rw [if_pos (by omega), show q2 = 128 by omega]
  · rw [if_neg (by omega), if_neg (by simp), List.take_of_length_le (by omega)]
theorem zero2 (w : World) : (zeroValue 52).run Tryd.prog w = .ok (.agg ([.int .u8 0, .int .u8 0] : List Value).toArray) w := by kernel_rfl
theorem size2 (x y : Value) : (Tryd.prog.info? 52).map (·.size) = some ([x, y] : List Value).length := by show _ = some 2; kernel_rfl
theorem one2 (x y : Int) : ∀ v ∈ ([.int .u8 x, .int .u8 y] : List Value), v.oneCell' = true := by
  intro v hv
  simp at hv
  rcases hv with rfl | rfl <;> rfl
theorem toBe2_cells (mt : Int) (h0 : 0 ≤ mt) (h1 : mt ≤ 65535) : toBe 2 mt.toNat = [UInt8.ofNat (mt.toNat / 256), UInt8.ofNat (mt.toNat % 256)] := toBe2_eq _ (by omega)

set_option maxHeartbeats 1000000 in
theorem put23p_bad (m : Mp) (w : World) (hm : m.ok w) (src dst : List UInt8) (hb : m.m.bad) :
    Calls Tryd.prog 8 #[.agg m.cells.toArray, .agg (bv src).toArray, .agg (bv dst).toArray] w fun e w' => e = .returned (.tuple #[.slice none 0 0, .int .i64 1]) ∧ Below w.heap.size w w' := by
  have MAY := Lib.hid (fun w' (h : m.ok w') => may4_any m w' h)
  rw [show m.good4 = false by unfold Mp.good4; rw [decide_eq_false (fun h => h hb)]] at MAY
  have HM := Lib.hid hm
  clear hm hb
  go_enter Tryd.func8, Tryd.ntmps8
  go_upto_region 1 with (first
    | (refine wpList_box_blk (by rfl) 25 (.tmp 0) rfl m.cells rfl ?_; intro w1 hb1 hB1 hs1)
    | (refine wpList_box_blk (by rfl) 26 (.tmp 1) rfl (bv src) rfl ?_; intro w2 hb2 hB2 hs2)
    | (refine wpList_box_blk (by rfl) 26 (.tmp 2) rfl (bv dst) rfl ?_; intro w3 hb3 hB3 hs3))
  have hK := (hb1.on hB2).on hB3
  have HK := Lib.hid hK
  have HW := Lib.hid (bthen (bthen hB1 hB2) hB3)
  clear hb1 hb2 hb3 hB1 hB2 hB3 hs1 hs2 hs3 hK
  go_wp2_with (refine wpList_load_blk (by rfl) 25 _ rfl w.heap.size rfl 25 _ _ HK.out Tryd.underlying25 rfl (sizeMp _) ?_)
  refine (MAY.out w3 (HM.out.on HW.out)).mono ?_
  rintro e w4 ⟨rfl, hb4⟩
  have HW4 := Lib.hid (bthen HW.out hb4)
  clear hb4
  go_wp2_with fail
  go_ret2
  exact ⟨rfl, HW4.out⟩


set_option maxRecDepth 100000 in
set_option maxHeartbeats 1000000 in
theorem put23p_ok (m : Mp) (w : World) (hm : m.ok w) (hT : Typ23 w) (hpm : m.pn ≤ 1000000) (src dst : List UInt8) (hsl : src.length = 4) (hdl : dst.length = 4) (hb : ¬ m.m.bad) :
    Calls Tryd.prog 8 #[.agg m.cells.toArray, .agg (bv src).toArray, .agg (bv dst).toArray] w fun e w' => ∃ A' n' c', e = .returned (.tuple #[.slice A' n' c', .int .i64 (put23 m.m src dst).2]) ∧ Own w' w.heap.size 5 1 A' n' c' (bv (put23 m.m src dst).1) ∧ Below w.heap.size w w' := by
  obtain ⟨R, hR⟩ : ∃ R, put23 m.m src dst = R := ⟨_, rfl⟩
  rw [hR]
  have MAY := Lib.hid (fun w' (h : m.ok w') => may4_any m w' h)
  rw [show m.good4 = true by unfold Mp.good4; rw [decide_eq_true hb]] at MAY
  obtain ⟨hk0, hk2, hm0, hm6, hmz⟩ := bad_or hb
  obtain ⟨q, f, f2, hkq, hq2, hfr, hty, hty2⟩ := frontK_eq m.m.kind hk0 hk2
  have HP24 : Hid (R = if (stack22 m.st).2 ≠ 0 then ([], (stack22 m.st).2) else put4 (head23 src dst) (body23 m.m)) := Lib.hid (by rw [← hR]; unfold put23; rw [if_neg hb]; rfl)
  clear hR
  have HM := Lib.hid hm
  have HT := Lib.hid hT
  have HSL := Lib.hid hsl
  have HDL := Lib.hid hdl
  have HFR := Lib.hid hfr
  have hlen := hm.slen
  have hblen := hm.blen
  have hfit := hm.fit
  have hble := hm.ble
  have hbcm := hm.bcap
  have hnm : m.n ≤ maxLen := Nat.le_trans hm.le hm.cap
  obtain ⟨kd, mt, P, pn, pc, beg, A, n, c, st⟩ := m
  dsimp only [Mp.m] at hkq hm0 hm6 hmz hpm HP24 HFR hlen hblen hble hfit hbcm hnm
  subst hkq
  have HTY := Lib.hid hty
  have HTY2 := Lib.hid hty2
  have HBL := Lib.hid hblen
  obtain ⟨T, hTT⟩ : ∃ T, (stack22 st).1 = T := ⟨_, rfl⟩
  obtain ⟨p, hp⟩ : ∃ p, (stack22 st).2 = p := ⟨_, rfl⟩
  obtain ⟨k, hk⟩ : ∃ k, T.length = k := ⟨_, rfl⟩
  have hk80 : k ≤ 80 := by have := stack22_le st; rw [hTT, hk] at this; exact this
  have STK := fun (w' : World) (h : Row w' w'.heap.size 4 A n (evs st)) => stack22p_all A n c st w' h hfit hnm
  rw [hTT, hp, hk] at STK
  rw [hp] at HP24
  have HST := Lib.hid STK
  have HTT := Lib.hid hTT
  have HTB := Lib.hid (toBe2_cells mt hm0 hm6)
  have he1 : mt / 256 = ((UInt8.ofNat (mt.toNat / 256)).toNat : Int) := by rw [UInt8.toNat_ofNat']; omega
  have he2 : mt % 256 = ((UInt8.ofNat (mt.toNat % 256)).toNat : Int) := by rw [UInt8.toNat_ofNat']; omega
  obtain ⟨m1, hm1⟩ : ∃ x, UInt8.ofNat (mt.toNat / 256) = x := ⟨_, rfl⟩
  obtain ⟨m2, hm2⟩ : ∃ x, UInt8.ofNat (mt.toNat % 256) = x := ⟨_, rfl⟩
  rw [hm1] at he1
  rw [hm2] at he2
  rw [hm1, hm2] at HTB
  unfold maxLen at hnm
  clear hm hT hsl hdl hfr hty hty2 hb hk0 hk2 STK hTT hp hk hlen hblen hmz hfit hm1 hm2
  show Calls Tryd.prog 8 #[.agg #[.int .i64 (q : Int), .int .i64 mt, .slice P pn pc, .slice A n c], .agg (bv src).toArray, .agg (bv dst).toArray] w _
  obtain ⟨g0, hg0⟩ : ∃ g, w.heap.size = g := ⟨_, rfl⟩
  have HG0 := Lib.hid hg0
  go_enter Tryd.func8, Tryd.ntmps8
  go_upto_region 1 with (first
    | (refine wpList_box_blk (by rfl) 25 (.tmp 0) rfl [.int .i64 (q : Int), .int .i64 mt, .slice P pn pc, .slice A n c] rfl ?_; intro w1 hb1 hB1 hs1)
    | (refine wpList_box_blk (by rfl) 26 (.tmp 1) rfl (bv src) rfl ?_; intro w2 hb2 hB2 hs2)
    | (refine wpList_box_blk (by rfl) 26 (.tmp 2) rfl (bv dst) rfl ?_; intro w3 hb3 hB3 hs3))
  rw [hg0] at hb1 hs1
  rw [hs1] at hb2 hs2
  rw [hs2] at hb3
  have HK := Lib.hid ((hb1.on hB2).on hB3)
  have HS := Lib.hid (hb2.on hB3)
  have HD := Lib.hid hb3
  have HW := Lib.hid (bthen (bthen hB1 hB2) hB3)
  try rw [hg0]
  try rw [hs1]
  try rw [hs2]
  clear hb1 hb2 hb3 hB1 hB2 hB3 hs1 hs2 hs3 hg0
  go_wp2_with (refine wpList_load_blk (by rfl) 25 _ rfl g0 rfl 25 _ _ HK.out Tryd.underlying25 rfl (sizeMp ⟨(q : Int), mt, P, pn, pc, beg, A, n, c, st⟩) ?_)
  refine (MAY.out w3 (HM.out.on HW.out)).mono ?_
  rintro e w4 ⟨rfl, hb4⟩
  replace HW := Lib.hid (bthen HW.out hb4)
  replace HK := Lib.hid (HK.out.on hb4)
  replace HS := Lib.hid (HS.out.on hb4)
  replace HD := Lib.hid (HD.out.on hb4)
  have d3 : w4.cell? ⟨g0, 3, none⟩ = some (.slice A n c) := HK.out.cell 3
  clear hb4
  have hg4 : g0 ≤ w4.heap.size := by have := HK.out.lt; omega
  go_wp2_with fail
  refine (HST.out w4 (HM.out.on HW.out).row).mono ?_
  rintro e w5 ⟨A5, c5, rfl, ho5, hb5⟩
  have HX := Lib.hid ho5
  replace HW := Lib.hid (bthen HW.out hb5)
  replace HK := Lib.hid (HK.out.on hb5)
  replace HS := Lib.hid (HS.out.on hb5)
  replace HD := Lib.hid (HD.out.on hb5)
  replace HX := Lib.hid (HX.out.mono hg4)
  clear hb5 ho5 d3 hg4
  by_cases hp0 : p = 0
  · subst hp0
    replace HP24 := Lib.hid (HP24.out.trans (if_neg (fun h => h rfl)))
    have hd0 : w5.cell? ⟨g0, 0, none⟩ = some (.int .i64 (q : Int)) := HK.out.cell 0
    have hq3 : (q : Int) < 3 := by omega
    have hR2 : w5.rangeAt 0 (q * 2) [.int .u8 (f.toNat : Int), .int .u8 (f2.toNat : Int)] := fun j v hv => by
      match j, hv with
      | 0, hv => cases hv; exact (HT.out.on HW.out).cell (q * 2) _ HTY.out
      | 1, hv => cases hv; exact (HT.out.on HW.out).cell (q * 2 + 1) _ HTY2.out
      | j + 2, hv => simp at hv
    have HR2 := Lib.hid hR2
    clear hR2
    go_upto_region 7 with (first
      | (refine wpList_value (by rfl) (exec_load_mid 52 _ rfl 0 (q * 2) (by rfl) [.int .u8 (f.toNat : Int), .int .u8 (f2.toNat : Int)] _ HR2.out Tryd.underlying52 rfl (size2 _ _)) ?_)
      | (refine wpList_alloc_blk (by rfl) 52 rfl [.int .u8 0, .int .u8 0] zero2 ?_; intro w6 hb6 hB6 hs6)
      | (refine wpList_store_all (by rfl) 52 _ _ rfl w5.heap.size [.int .u8 (f.toNat : Int), .int .u8 (f2.toNat : Int)] rfl rfl 52 _ hb6 (size2 _ _) rfl (one2 _ _) ?_; intro w7 hb7 hg7 hs7))
    have hB7 : Below w5.heap.size w5 w7 := bgrown hB6 hg7 (by omega) (Nat.le_refl _)
    have hXl : ∀ r, blk A5 c5 = some r → r < w5.heap.size := fun r hr => (HX.out.lt r hr).2
    have hg5 : g0 + 3 ≤ w5.heap.size := by have := HD.out.lt; omega
    obtain ⟨gt, hgt⟩ : ∃ g, w5.heap.size = g := ⟨_, rfl⟩
    rw [hgt] at hb7 hXl hg5
    try rw [hgt]
    replace HX := Lib.hid (HX.out.below hB7)
    replace HW := Lib.hid (bthen HW.out hB7)
    replace HK := Lib.hid (HK.out.on hB7)
    replace HS := Lib.hid (HS.out.on hB7)
    replace HD := Lib.hid (HD.out.on hB7)
    have HXL := Lib.hid hXl
    have hgw : gt < w7.heap.size := hb7.lt
    have hd1 : w7.cell? ⟨g0, 1, none⟩ = some (.int .i64 mt) := HK.out.cell 1
    have ht0 : w7.cell? ⟨gt, 0, none⟩ = some (.int .u8 (f.toNat : Int)) := hb7.cell 0
    have ht1 : w7.cell? ⟨gt, 1, none⟩ = some (.int .u8 (f2.toNat : Int)) := hb7.cell 1
    clear hb6 hB6 hs6 hb7 hg7 hs7 hB7 hgt hd0 HR2 hXl
    go_upto_region 8 with fail
    have hb8 := alloc_below w7 (.cells (bv [f, f2, 0, 0, 0, 0, m1, m2]).toArray 5)
    have hO6 := Own.made (n := 8) (sz := 1) (base := gt) (e := 5) w7 (bv [f, f2, 0, 0, 0, 0, m1, m2]).toArray (by omega) (by unfold maxLen; omega) rfl
    obtain ⟨w8, hw8⟩ : ∃ w8, w7.alloc (.cells (bv [f, f2, 0, 0, 0, 0, m1, m2]).toArray 5) = w8 := ⟨_, rfl⟩
    rw [show w7.alloc (.cells #[.int .u8 (f.toNat : Int), .int .u8 (f2.toNat : Int), .int .u8 0, .int .u8 0, .int .u8 0, .int .u8 0, .int .u8 (m1.toNat : Int), .int .u8 (m2.toNat : Int)] 5) = w8 from hw8]
    rw [hw8] at hb8 hO6
    obtain ⟨g6, hg6⟩ : ∃ g, w7.heap.size = g := ⟨_, rfl⟩
    rw [hg6] at hO6
    try rw [hg6]
    have HO6 := Lib.hid (show Own w8 gt 5 1 (some ⟨g6, 0, none⟩) 8 8 (bv [f, f2, 0, 0, 0, 0, m1, m2]) from hO6)
    replace HX := Lib.hid (HX.out.below hb8)
    replace HW := Lib.hid (bthen HW.out hb8)
    replace HK := Lib.hid (HK.out.on hb8)
    replace HS := Lib.hid (HS.out.on hb8)
    replace HD := Lib.hid (HD.out.on hb8)
    have hgt6 : gt ≤ g6 := by omega
    have hd2 : w8.cell? ⟨g0, 2, none⟩ = some (.slice P pn pc) := HK.out.cell 2
    have hd3 : w8.cell? ⟨g0, 3, none⟩ = some (.slice A n c) := HK.out.cell 3
    clear hb8 hO6 hw8 hg6 hd1 ht0 ht1 he1 he2
    obtain ⟨z1, hz1⟩ : ∃ z1, z1 = min pn 128 := ⟨_, rfl⟩
    have hz1a : z1 ≤ pn := by omega
    have hz1b : z1 ≤ 128 := by omega
    have hz1c : (z1 : Int) ≤ (pc : Int) := by omega
    have HQ1 := Lib.hid hz1
    clear hz1
    go_upto_region 9 with (refine wpList_value (o := ⟨some 47, _, _, _, _, _⟩) (by rfl) (v := .int .i64 (z1 : Int)) (w' := w8) (by have h9 := HQ1.out; simp only [execOp]; by_cases h8 : (pn : Int) < 128 <;> (go_simp; omega)) ?_)
    by_cases hn0 : n = 0
    · have hni : ¬ (0 : Int) < (n : Int) := by omega
      go_wp2_with fail
      have HR1 := Lib.hid HO6.out.ok
      have HR2 := Lib.hid (show (Bs.mk P z1 pc (beg.take z1)).ok w8 from ⟨by have h9 := ((HM.out.on HW.out).brow.take (k := z1) (by dsimp only; omega)); rw [Nat.mul_one] at h9; rw [bv_take]; exact h9, by show z1 ≤ pc; omega, hbcm⟩)
      have HR3 := Lib.hid (ok_nil w8)
      have HR4 := Lib.hid (ok_nil w8)
      have HWZ := Lib.hid HW.out.size
      obtain ⟨wz, hwz⟩ : ∃ wz, wz = w8 := ⟨_, rfl⟩
      subst hwz
      obtain ⟨BB, hBB⟩ : ∃ BB, ([[f, f2, 0, 0, 0, 0, m1, m2], beg.take z1, [], []] : List (List UInt8)).flatten = BB := ⟨_, rfl⟩
      have hBE : BB = frontK (q : Int) ++ [0, 0] ++ rest23 ⟨(q : Int), mt, beg, A, n, c, st⟩ := by
        rw [← hBB, HFR.out]
        subst hn0
        unfold rest23 lb23 ext23
        simp only [if_true, Nat.lt_irrefl, decide_false]
        rw [begin_cut3 beg pn z1 HBL.out HQ1.out, HTB.out]
        simp
      have HBB := Lib.hid hBB
      obtain ⟨Y, hY⟩ : ∃ Y, body23 ⟨(q : Int), mt, beg, A, n, c, st⟩ = Y := ⟨_, rfl⟩
      have HY := Lib.hid (show bodyF BB = Y by rw [hBE, ← hY]; exact body_body ⟨(q : Int), mt, beg, A, n, c, st⟩)
      have HPR := Lib.hid (show put4 (head23 src dst) Y = R by rw [← hY]; exact HP24.out.symm)
      obtain ⟨N, hN⟩ : ∃ N, BB.length = N := ⟨_, rfl⟩
      have hN4 : 4 ≤ N := by rw [← hN, hBE]; simp only [List.length_append, frontK_length, List.length_cons, List.length_nil]; omega
      have hNm : N ≤ 65000 := by have h9 := rest23_le ⟨(q : Int), mt, beg, A, n, c, st⟩; rw [← hN, hBE]; simp only [List.length_append, frontK_length, List.length_cons, List.length_nil]; omega
      have HN := Lib.hid hN
      clear hBB hBE hY hN
      refine wp_region_rel (fun A B => A.grownBy B none) (fun A => grown_refl A _) (fun A B C h k => grown_trans h k) (relAt (List.cons (fun v _ => v = .agg (bv src).toArray) (List.cons (fun v _ => v = .agg (bv dst).toArray) (List.cons (fun v _ => v = .agg (head23 src dst).cells.toArray) (List.cons (fun v _ => v = .slice (some ⟨g6, 0, none⟩) 8 8) (List.cons (fun v _ => v = .slice P z1 pc) (List.cons (fun v _ => v = .slice none 0 0) (List.cons (fun v _ => v = .slice none 0 0) (List.cons (RowsR [[f, f2, 0, 0, 0, 0, m1, m2], beg.take z1, [], []]) (List.cons (fun v W => ∃ A' c', v = .slice A' N c' ∧ Own W wz.heap.size 5 1 A' N c' (bv Y)) (List.cons (fun v W => ∃ A' n' c', v = .tuple #[.slice A' n' c', .int .i64 R.2] ∧ Own W wz.heap.size 5 1 A' n' c' (bv R.1)) (List.cons (fun v W => ∃ A' n' c', v = .slice A' n' c' ∧ Own W wz.heap.size 5 1 A' n' c' (bv R.1)) (List.cons (fun v _ => v = .int .i64 R.2) (List.cons (fun v W => ∃ A' n' c', v = .slice A' n' c' ∧ Own W wz.heap.size 5 1 A' n' c' (bv R.1)) (List.cons (fun v _ => v = .int .i64 R.2) ([])))))))))))))))) (MonoL.at_ (.cons (mono_val _) (.cons (mono_val _) (.cons (mono_val _) (.cons (mono_val _) (.cons (mono_val _) (.cons (mono_val _) (.cons (mono_val _) (.cons (mono_rows _) (.cons (fun _ _ _ ⟨X, c, hv, h⟩ hg => ⟨X, c, hv, h.below (grow_below hg)⟩) (.cons (fun _ _ _ ⟨X, n, c, hv, h⟩ hg => ⟨X, n, c, hv, h.below (grow_below hg)⟩) (.cons (fun _ _ _ ⟨X, n, c, hv, h⟩ hg => ⟨X, n, c, hv, h.below (grow_below hg)⟩) (.cons (mono_val _) (.cons (fun _ _ _ ⟨X, n, c, hv, h⟩ hg => ⟨X, n, c, hv, h.below (grow_below hg)⟩) (.cons (mono_val _) .nil))))))))))))))) (by kernel_rfl) (by kernel_rfl) ⟨?_, ?_, ?_, ?_, ?_, ?_, ?_, ?_, ?_, ?_, ?_, ?_, ?_, ?_, trivial⟩ ?_
      · intro a vs W hX hR he hf K hK
        rw [if_pos (wanted_none rfl)]
        have e4 : a.eval (.tmp 4) = .pointer (some ⟨g0 + 1, 0, none⟩) := hf 4 (by kernel_rfl)
        have hbW := bthen (below_drew _) (grow_below hX)
        exact wp_value (exec_load _ _ rfl (g0 + 1) e4 26 (bv src) _ (HS.out.on hbW) Tryd.underlying26 rfl (sizeA4 src HSL.out)) (hK _ _ rfl (grown_refl W _))
      · intro a vs W hX hR he hf K hK
        rw [if_pos (wanted_none rfl)]
        have e5 : a.eval (.tmp 5) = .pointer (some ⟨g0 + 1 + 1, 0, none⟩) := hf 5 (by kernel_rfl)
        have hbW := bthen (below_drew _) (grow_below hX)
        exact wp_value (exec_load _ _ rfl (g0 + 1 + 1) e5 26 (bv dst) _ (HD.out.on hbW) Tryd.underlying26 rfl (sizeA4 dst HDL.out)) (hK _ _ rfl (grown_refl W _))
      · intro a vs W hX hR he hf K hK
        rw [if_pos (wanted_none rfl)]
        have e59 : a.eval (.tmp 59) = .agg (bv src).toArray := (he 0 59 (by kernel_rfl) rfl).trans (hR 0 (by kernel_rfl))
        have e60 : a.eval (.tmp 60) = .agg (bv dst).toArray := (he 1 60 (by kernel_rfl) rfl).trans (hR 1 (by kernel_rfl))
        have f59 := e59
        simp only [Act.eval, Array.getD_eq_getD_getElem?] at f59
        have f60 := e60
        simp only [Act.eval, Array.getD_eq_getD_getElem?] at f60
        exact wp_value (exec_build23 _ _ rfl src dst HSL.out HDL.out e59 e60) (hK _ _ rfl (grown_refl W _))
      · intro a vs W hX hR he hf K hK
        rw [if_pos (wanted_none rfl)]
        have e11 : a.eval (.tmp 11) = .slice (some ⟨g6, 0, none⟩) 8 8 := hf 11 (by kernel_rfl)
        refine wp_value (v := .slice (some ⟨g6, 0, none⟩) 8 8) ?_ (hK _ _ rfl (grown_refl W _))
        simp only [execOp, e11]
        try go_simp
        try (first | rfl | omega | (simp only [IntKind.wrap_i64, IntKind.wrap_u8, IntKind.wrap_u64, IntKind.wrap_u16, IntKind.wrap_u32]; omega) | (rw [Int.tmod_eq_emod_of_nonneg (by omega)]) | (rw [Int.tmod_eq_emod_of_nonneg (by omega)]; omega))
      · intro a vs W hX hR he hf K hK
        rw [if_pos (wanted_none rfl)]
        have e12 : a.eval (.tmp 12) = .slice P z1 pc := hf 12 (by kernel_rfl)
        refine wp_value (v := .slice P z1 pc) ?_ (hK _ _ rfl (grown_refl W _))
        simp only [execOp, e12]
        try go_simp
        try (first | rfl | omega | (simp only [IntKind.wrap_i64, IntKind.wrap_u8, IntKind.wrap_u64, IntKind.wrap_u16, IntKind.wrap_u32]; omega) | (rw [Int.tmod_eq_emod_of_nonneg (by omega)]) | (rw [Int.tmod_eq_emod_of_nonneg (by omega)]; omega))
      · intro a vs W hX hR he hf K hK
        rw [if_pos (wanted_none rfl)]
        have e13 : a.eval (.tmp 13) = .slice none 0 0 := hf 13 (by kernel_rfl)
        refine wp_value (v := .slice none 0 0) ?_ (hK _ _ rfl (grown_refl W _))
        simp only [execOp, e13]
        try go_simp
        try (first | rfl | omega | (simp only [IntKind.wrap_i64, IntKind.wrap_u8, IntKind.wrap_u64, IntKind.wrap_u16, IntKind.wrap_u32]; omega) | (rw [Int.tmod_eq_emod_of_nonneg (by omega)]) | (rw [Int.tmod_eq_emod_of_nonneg (by omega)]; omega))
      · intro a vs W hX hR he hf K hK
        rw [if_pos (wanted_none rfl)]
        have e8 : a.eval (.tmp 8) = .slice none 0 0 := hf 8 (by kernel_rfl)
        refine wp_value (v := .slice none 0 0) ?_ (hK _ _ rfl (grown_refl W _))
        simp only [execOp, e8]
        try go_simp
        try (first | rfl | omega | (simp only [IntKind.wrap_i64, IntKind.wrap_u8, IntKind.wrap_u64, IntKind.wrap_u16, IntKind.wrap_u32]; omega) | (rw [Int.tmod_eq_emod_of_nonneg (by omega)]) | (rw [Int.tmod_eq_emod_of_nonneg (by omega)]; omega))
      · intro a vs W hX hR he hf K hK
        rw [if_pos (wanted_none rfl)]
        have e62 : a.eval (.tmp 62) = .slice (some ⟨g6, 0, none⟩) 8 8 := (he 3 62 (by kernel_rfl) rfl).trans (hR 3 (by kernel_rfl))
        have e63 : a.eval (.tmp 63) = .slice P z1 pc := (he 4 63 (by kernel_rfl) rfl).trans (hR 4 (by kernel_rfl))
        have e64 : a.eval (.tmp 64) = .slice none 0 0 := (he 5 64 (by kernel_rfl) rfl).trans (hR 5 (by kernel_rfl))
        have e65 : a.eval (.tmp 65) = .slice none 0 0 := (he 6 65 (by kernel_rfl) rfl).trans (hR 6 (by kernel_rfl))
        have f62 := e62
        simp only [Act.eval, Array.getD_eq_getD_getElem?] at f62
        have f63 := e63
        simp only [Act.eval, Array.getD_eq_getD_getElem?] at f63
        have f64 := e64
        simp only [Act.eval, Array.getD_eq_getD_getElem?] at f64
        have f65 := e65
        simp only [Act.eval, Array.getD_eq_getD_getElem?] at f65
        have hbW := bthen (below_drew _) (grow_below hX)
        refine wp_value (v := .slice (some ⟨W.heap.size, 0, none⟩) 4 4) (w' := W.alloc (.cells #[.slice (some ⟨g6, 0, none⟩) 8 8, .slice P z1 pc, .slice none 0 0, .slice none 0 0] 22)) ?_ (hK _ _ ⟨[⟨some ⟨g6, 0, none⟩, 8, 8, [f, f2, 0, 0, 0, 0, m1, m2]⟩, ⟨P, z1, pc, beg.take z1⟩, ⟨none, 0, 0, []⟩, ⟨none, 0, 0, []⟩], _, _, _, rfl, rfl, ?_, ?_⟩ (World.grownBy_alloc _ _ _))
        · simp only [execOp]
          go_simp
        · rw [World.size_alloc]
          exact Row.new (n := 4) (sz := 1) W _ rfl
        · have k := fun r (hr : Bs.ok W r) => hr.below (alloc_below W (.cells #[.slice (some ⟨g6, 0, none⟩) 8 8, .slice P z1 pc, .slice none 0 0, .slice none 0 0] 22))
          simp only [List.mem_cons, List.not_mem_nil, or_false]
          rintro r (rfl | rfl | rfl | rfl)
          · exact k _ (HR1.out.below hbW)
          · exact k _ (HR2.out.below hbW)
          · exact k _ (HR3.out.below hbW)
          · exact k _ (HR4.out.below hbW)
      · intro a vs W hX hR he hf K hK
        rw [if_pos (wanted_none rfl)]
        have e66 := he 7 66 (by kernel_rfl) rfl
        have p66 := hR 7 (by kernel_rfl)
        change (RowsR [[f, f2, 0, 0, 0, 0, m1, m2], beg.take z1, [], []]) (vs 7) W at p66
        have hbW := bthen (below_drew _) (grow_below hX)
        obtain ⟨rows9, R9, k9, c9, hv, hl, hr, ho⟩ := p66
        rw [hv] at e66
        have hfl : flat rows9 = BB := by rw [flat_map, hl]; exact HBB.out
        have hk4 : k9 ≤ 4 := by have h1 := hr.1; rw [List.length_map] at h1; have h2 := congrArg List.length hl; simp at h2; omega
        refine wp_enter (f := 21) (args := #[.slice R9 k9 c9]) (by simp only [execOp, e66]; go_simp; simpa [Act.eval] using e66) ((body23p_any R9 k9 c9 rows9 W hr ho (by omega) BB hfl N HN.out hN4 hNm).mono ?_)
        rintro e w' ⟨A3, c3, rfl, hown, hb⟩
        rw [HY.out] at hown
        exact ⟨_, rfl, hK _ _ ⟨A3, c3, rfl, hown.mono hbW.size⟩ (below_grow hb _)⟩
      · intro a vs W hX hR he hf K hK
        rw [if_pos (wanted_none rfl)]
        have e61 : a.eval (.tmp 61) = .agg (head23 src dst).cells.toArray := (he 2 61 (by kernel_rfl) rfl).trans (hR 2 (by kernel_rfl))
        have e67 := he 8 67 (by kernel_rfl) rfl
        have p67 := hR 8 (by kernel_rfl)
        change (fun v W => ∃ A' c', v = .slice A' N c' ∧ Own W wz.heap.size 5 1 A' N c' (bv Y)) (vs 8) W at p67
        have hbW := bthen (below_drew _) (grow_below hX)
        obtain ⟨A3, c3, hv, ho⟩ := p67
        rw [hv] at e67
        refine wp_enter (f := 20) (args := #[.agg (head23 src dst).cells.toArray, .slice A3 N c3]) (by simp only [execOp, e61, e67]; go_simp; exact ⟨by simpa [Act.eval] using e61, by simpa [Act.eval] using e67⟩) ((put4_any (head23 src dst) (head23_fit src dst HSL.out HDL.out) A3 N c3 Y W ho.row ho.le ho.cap (by omega)).mono ?_)
        rintro e w' ⟨r9, rfl, hl9, ho9, hb⟩
        rw [HPR.out] at hl9
        rw [HPR.out, hl9] at *
        exact ⟨_, rfl, hK _ _ ⟨r9.A, r9.n, r9.c, rfl, ho9.mono hbW.size⟩ (below_grow hb _)⟩
      · intro a vs W hX hR he hf K hK
        rw [if_pos (wanted_none rfl)]
        have e68 := he 9 68 (by kernel_rfl) rfl
        have p68 := hR 9 (by kernel_rfl)
        change (fun v W => ∃ A' n' c', v = .tuple #[.slice A' n' c', .int .i64 R.2] ∧ Own W wz.heap.size 5 1 A' n' c' (bv R.1)) (vs 9) W at p68
        obtain ⟨A3, n3, c3, hv, ho⟩ := p68
        rw [hv] at e68
        refine wp_value (v := .slice A3 n3 c3) ?_ (hK _ _ ⟨A3, n3, c3, rfl, ho⟩ (grown_refl W _))
        simp only [execOp, e68]
        try go_simp
      · intro a vs W hX hR he hf K hK
        rw [if_pos (wanted_none rfl)]
        have e68 := he 9 68 (by kernel_rfl) rfl
        have p68 := hR 9 (by kernel_rfl)
        change (fun v W => ∃ A' n' c', v = .tuple #[.slice A' n' c', .int .i64 R.2] ∧ Own W wz.heap.size 5 1 A' n' c' (bv R.1)) (vs 9) W at p68
        obtain ⟨A3, n3, c3, hv, ho⟩ := p68
        rw [hv] at e68
        refine wp_value (v := .int .i64 R.2) ?_ (hK _ _ rfl (grown_refl W _))
        simp only [execOp, e68]
        try go_simp
      · intro a vs W hX hR he hf K hK
        rw [if_pos (wanted_none rfl)]
        have e69 := he 10 69 (by kernel_rfl) rfl
        have p69 := hR 10 (by kernel_rfl)
        change (fun v W => ∃ A' n' c', v = .slice A' n' c' ∧ Own W wz.heap.size 5 1 A' n' c' (bv R.1)) (vs 10) W at p69
        refine wp_value (v := _) ?_ (hK _ _ p69 (grown_refl W _))
        simp only [execOp, e69]
        try go_simp
      · intro a vs W hX hR he hf K hK
        rw [if_pos (wanted_none rfl)]
        have e70 : a.eval (.tmp 70) = .int .i64 R.2 := (he 11 70 (by kernel_rfl) rfl).trans (hR 11 (by kernel_rfl))
        refine wp_value (v := .int .i64 R.2) ?_ (hK _ _ rfl (grown_refl W _))
        simp only [execOp, e70]
        try go_simp
        try (first | rfl | omega | (simp only [IntKind.wrap_i64, IntKind.wrap_u8, IntKind.wrap_u64, IntKind.wrap_u16, IntKind.wrap_u32]; omega) | (rw [Int.tmod_eq_emod_of_nonneg (by omega)]) | (rw [Int.tmod_eq_emod_of_nonneg (by omega)]; omega))
      · intro vs W3 hX3 hR
        have q0 := hR 0 (by decide)
        have q1 := hR 1 (by decide)
        have q2 := hR 2 (by decide)
        have q3 := hR 3 (by decide)
        have q4 := hR 4 (by decide)
        have q5 := hR 5 (by decide)
        have q6 := hR 6 (by decide)
        have q7 := hR 7 (by decide)
        have q8 := hR 8 (by decide)
        have q9 := hR 9 (by decide)
        have q10 := hR 10 (by decide)
        have q11 := hR 11 (by decide)
        have q12 := hR 12 (by decide)
        have q13 := hR 13 (by decide)
        change vs 0 = .agg (bv src).toArray at q0
        change vs 1 = .agg (bv dst).toArray at q1
        change vs 2 = .agg (head23 src dst).cells.toArray at q2
        change vs 3 = .slice (some ⟨g6, 0, none⟩) 8 8 at q3
        change vs 4 = .slice P z1 pc at q4
        change vs 5 = .slice none 0 0 at q5
        change vs 6 = .slice none 0 0 at q6
        change (RowsR [[f, f2, 0, 0, 0, 0, m1, m2], beg.take z1, [], []]) (vs 7) W3 at q7
        change (fun v W => ∃ A' c', v = .slice A' N c' ∧ Own W wz.heap.size 5 1 A' N c' (bv Y)) (vs 8) W3 at q8
        change (fun v W => ∃ A' n' c', v = .tuple #[.slice A' n' c', .int .i64 R.2] ∧ Own W wz.heap.size 5 1 A' n' c' (bv R.1)) (vs 9) W3 at q9
        change (fun v W => ∃ A' n' c', v = .slice A' n' c' ∧ Own W wz.heap.size 5 1 A' n' c' (bv R.1)) (vs 10) W3 at q10
        change vs 11 = .int .i64 R.2 at q11
        change (fun v W => ∃ A' n' c', v = .slice A' n' c' ∧ Own W wz.heap.size 5 1 A' n' c' (bv R.1)) (vs 12) W3 at q12
        change vs 13 = .int .i64 R.2 at q13
        simp only [putAll, Act.put, List.setIfInBounds_toArray, List.set_cons_zero, List.set_cons_succ, q0, q1, q2, q3, q4, q5, q6, q11, q13]
        clear q0 q1 q2 q3 q4 q5 q6 q11 q13
        clear hR
        obtain ⟨A9, n9, c9, hv9, ho9⟩ := q12
        rw [hv9]
        have hbW := bthen (below_drew _) (grow_below hX3)
        have HO9 := Lib.hid ho9
        replace HW := Lib.hid (bthen HW.out hbW)
        clear hbW hX3 ho9
        go_wp2_with fail
        go_ret2
        exact ⟨A9, n9, c9, rfl, HO9.out.mono HWZ.out, HW.out⟩
    · have hni : (0 : Int) < (n : Int) := by omega
      have hcc4 : w8.cell? ⟨g6, 5, none⟩ = some (.int .u8 0) := by
        obtain ⟨g9, hA9, _, _, hcl9, _⟩ := HO6.out.open_ (by omega)
        injection hA9 with hA9
        injection hA9 with hA9
        subst hA9
        exact hcl9 5 _ rfl
      have hcf4 : w8.frozen? ⟨g6, 5, none⟩ = false := by
        obtain ⟨g9, hA9, _, _, _, hfr9⟩ := HO6.out.open_ (by omega)
        injection hA9 with hA9
        injection hA9 with hA9
        subst hA9
        exact hfr9 5
      obtain ⟨fn, hfnd⟩ : ∃ fn, fn = 128 - z1 := ⟨_, rfl⟩
      have hfn : (128 : Int) - (z1 : Int) = (fn : Int) := by omega
      have HFN := Lib.hid hfnd
      have hfn2 : fn ≤ 1000 := by omega
      clear hfnd
      go_upto_region 12 with fail
      obtain ⟨w9, hw9⟩ : ∃ w9, w9 = w8.setCell ⟨g6, 5, none⟩ (.int .u8 32) := ⟨_, rfl⟩
      rw [← hw9]
      have hb9 : Below g0 w8 w9 := by rw [hw9]; exact (Below.refl g0 w8).setCell (p := ⟨g6, 5, none⟩) (by simp only; omega) _
      replace HS := Lib.hid (show Blk w9 (g0 + 1) _ _ by rw [hw9]; exact HS.out.far (by simp only; omega) _)
      replace HD := Lib.hid (show Blk w9 (g0 + 1 + 1) _ _ by rw [hw9]; exact HD.out.far (by simp only; omega) _)
      replace HX := Lib.hid (show Own w9 _ 5 1 A5 k c5 _ by rw [hw9]; exact own_far HX.out gt HXL.out hgt6 5 _)
      replace HO6 := Lib.hid (show Own w9 gt 5 1 (some ⟨g6, 0, none⟩) 8 8 (bv [f, f2, 0, 0, 0, 32, m1, m2]) by rw [hw9]; exact HO6.out.set (j := 5) (by omega) (.int .u8 32))
      replace HW := Lib.hid (show Below w.heap.size w w9 by have h9 := HW.out; rw [HG0.out] at h9 ⊢; exact h9.trans hb9)
      clear hw9 hb9 hcc4 hcf4 hd2 hd3 HK
      obtain ⟨wa, hwa⟩ : ∃ wa, wa = w9.alloc (.cells (madeCells (Value.int .u8 0).cells (fn * 1)) 5) := ⟨_, rfl⟩
      have HWA := Lib.hid hwa
      clear hwa
      have hN58 : gt ≤ w9.heap.size := by have h9 := HO6.out.lt g6 (by unfold blk; rw [if_neg (by omega)]; rfl); omega
      go_wp2_with (refine wpList_value (o := ⟨some 58, _, _, _, _, _⟩) (by rfl) (v := .slice (some ⟨w9.heap.size, 0, none⟩) fn fn) (w' := wa) (by rw [HWA.out]; exact exec_makeN _ _ rfl fn hfn2 rfl rfl) ?_)
      have HZ := Lib.hid (own_zeros w9 gt fn hN58 hfn2)
      have hba := alloc_below w9 (.cells (madeCells (Value.int .u8 0).cells (fn * 1)) 5)
      rw [← HWA.out] at HZ hba
      obtain ⟨F9, hF9⟩ : ∃ F9, F9 = (some ⟨w9.heap.size, 0, none⟩ : Option Addr) := ⟨_, rfl⟩
      rw [← hF9] at HZ ⊢
      replace HS := Lib.hid (HS.out.on hba)
      replace HD := Lib.hid (HD.out.on hba)
      replace HX := Lib.hid (HX.out.below hba)
      replace HO6 := Lib.hid (HO6.out.below hba)
      replace HW := Lib.hid (bthen HW.out hba)
      clear hF9 hba
      have HR1 := Lib.hid HO6.out.ok
      have HR2 := Lib.hid (show (Bs.mk P z1 pc (beg.take z1)).ok wa from ⟨by have h9 := ((HM.out.on HW.out).brow.take (k := z1) (by dsimp only; omega)); rw [Nat.mul_one] at h9; rw [bv_take]; exact h9, by show z1 ≤ pc; omega, hbcm⟩)
      have HR3 := Lib.hid HZ.out.ok
      have HR4 := Lib.hid HX.out.ok
      have HWZ := Lib.hid HW.out.size
      obtain ⟨wz, hwz⟩ : ∃ wz, wz = wa := ⟨_, rfl⟩
      subst hwz
      obtain ⟨BB, hBB⟩ : ∃ BB, ([[f, f2, 0, 0, 0, 32, m1, m2], beg.take z1, zerosN fn, T] : List (List UInt8)).flatten = BB := ⟨_, rfl⟩
      have hBE : BB = frontK (q : Int) ++ [0, 0] ++ rest23 ⟨(q : Int), mt, beg, A, n, c, st⟩ := by
        rw [← hBB, HFR.out]
        unfold rest23 lb23 ext23
        simp only [if_neg hn0, decide_eq_true (Nat.pos_of_ne_zero hn0)]
        rw [← begin_full3 beg pn z1 fn HBL.out HQ1.out HFN.out, HTT.out, HTB.out]
        simp
      have HBB := Lib.hid hBB
      obtain ⟨Y, hY⟩ : ∃ Y, body23 ⟨(q : Int), mt, beg, A, n, c, st⟩ = Y := ⟨_, rfl⟩
      have HY := Lib.hid (show bodyF BB = Y by rw [hBE, ← hY]; exact body_body ⟨(q : Int), mt, beg, A, n, c, st⟩)
      have HPR := Lib.hid (show put4 (head23 src dst) Y = R by rw [← hY]; exact HP24.out.symm)
      obtain ⟨N, hN⟩ : ∃ N, BB.length = N := ⟨_, rfl⟩
      have hN4 : 4 ≤ N := by rw [← hN, hBE]; simp only [List.length_append, frontK_length, List.length_cons, List.length_nil]; omega
      have hNm : N ≤ 65000 := by have h9 := rest23_le ⟨(q : Int), mt, beg, A, n, c, st⟩; rw [← hN, hBE]; simp only [List.length_append, frontK_length, List.length_cons, List.length_nil]; omega
      have HN := Lib.hid hN
      clear hBB hBE hY hN
      refine wp_region_rel (fun A B => A.grownBy B none) (fun A => grown_refl A _) (fun A B C h k => grown_trans h k) (relAt (List.cons (fun v _ => v = .agg (bv src).toArray) (List.cons (fun v _ => v = .agg (bv dst).toArray) (List.cons (fun v _ => v = .agg (head23 src dst).cells.toArray) (List.cons (fun v _ => v = .slice (some ⟨g6, 0, none⟩) 8 8) (List.cons (fun v _ => v = .slice P z1 pc) (List.cons (fun v _ => v = .slice F9 fn fn) (List.cons (fun v _ => v = .slice A5 k c5) (List.cons (RowsR [[f, f2, 0, 0, 0, 32, m1, m2], beg.take z1, zerosN fn, T]) (List.cons (fun v W => ∃ A' c', v = .slice A' N c' ∧ Own W wz.heap.size 5 1 A' N c' (bv Y)) (List.cons (fun v W => ∃ A' n' c', v = .tuple #[.slice A' n' c', .int .i64 R.2] ∧ Own W wz.heap.size 5 1 A' n' c' (bv R.1)) (List.cons (fun v W => ∃ A' n' c', v = .slice A' n' c' ∧ Own W wz.heap.size 5 1 A' n' c' (bv R.1)) (List.cons (fun v _ => v = .int .i64 R.2) (List.cons (fun v W => ∃ A' n' c', v = .slice A' n' c' ∧ Own W wz.heap.size 5 1 A' n' c' (bv R.1)) (List.cons (fun v _ => v = .int .i64 R.2) ([])))))))))))))))) (MonoL.at_ (.cons (mono_val _) (.cons (mono_val _) (.cons (mono_val _) (.cons (mono_val _) (.cons (mono_val _) (.cons (mono_val _) (.cons (mono_val _) (.cons (mono_rows _) (.cons (fun _ _ _ ⟨X, c, hv, h⟩ hg => ⟨X, c, hv, h.below (grow_below hg)⟩) (.cons (fun _ _ _ ⟨X, n, c, hv, h⟩ hg => ⟨X, n, c, hv, h.below (grow_below hg)⟩) (.cons (fun _ _ _ ⟨X, n, c, hv, h⟩ hg => ⟨X, n, c, hv, h.below (grow_below hg)⟩) (.cons (mono_val _) (.cons (fun _ _ _ ⟨X, n, c, hv, h⟩ hg => ⟨X, n, c, hv, h.below (grow_below hg)⟩) (.cons (mono_val _) .nil))))))))))))))) (by kernel_rfl) (by kernel_rfl) ⟨?_, ?_, ?_, ?_, ?_, ?_, ?_, ?_, ?_, ?_, ?_, ?_, ?_, ?_, trivial⟩ ?_
      · intro a vs W hX hR he hf K hK
        rw [if_pos (wanted_none rfl)]
        have e4 : a.eval (.tmp 4) = .pointer (some ⟨g0 + 1, 0, none⟩) := hf 4 (by kernel_rfl)
        have hbW := bthen (below_drew _) (grow_below hX)
        exact wp_value (exec_load _ _ rfl (g0 + 1) e4 26 (bv src) _ (HS.out.on hbW) Tryd.underlying26 rfl (sizeA4 src HSL.out)) (hK _ _ rfl (grown_refl W _))
      · intro a vs W hX hR he hf K hK
        rw [if_pos (wanted_none rfl)]
        have e5 : a.eval (.tmp 5) = .pointer (some ⟨g0 + 1 + 1, 0, none⟩) := hf 5 (by kernel_rfl)
        have hbW := bthen (below_drew _) (grow_below hX)
        exact wp_value (exec_load _ _ rfl (g0 + 1 + 1) e5 26 (bv dst) _ (HD.out.on hbW) Tryd.underlying26 rfl (sizeA4 dst HDL.out)) (hK _ _ rfl (grown_refl W _))
      · intro a vs W hX hR he hf K hK
        rw [if_pos (wanted_none rfl)]
        have e59 : a.eval (.tmp 59) = .agg (bv src).toArray := (he 0 59 (by kernel_rfl) rfl).trans (hR 0 (by kernel_rfl))
        have e60 : a.eval (.tmp 60) = .agg (bv dst).toArray := (he 1 60 (by kernel_rfl) rfl).trans (hR 1 (by kernel_rfl))
        have f59 := e59
        simp only [Act.eval, Array.getD_eq_getD_getElem?] at f59
        have f60 := e60
        simp only [Act.eval, Array.getD_eq_getD_getElem?] at f60
        exact wp_value (exec_build23 _ _ rfl src dst HSL.out HDL.out e59 e60) (hK _ _ rfl (grown_refl W _))
      · intro a vs W hX hR he hf K hK
        rw [if_pos (wanted_none rfl)]
        have e11 : a.eval (.tmp 11) = .slice (some ⟨g6, 0, none⟩) 8 8 := hf 11 (by kernel_rfl)
        refine wp_value (v := .slice (some ⟨g6, 0, none⟩) 8 8) ?_ (hK _ _ rfl (grown_refl W _))
        simp only [execOp, e11]
        try go_simp
        try (first | rfl | omega | (simp only [IntKind.wrap_i64, IntKind.wrap_u8, IntKind.wrap_u64, IntKind.wrap_u16, IntKind.wrap_u32]; omega) | (rw [Int.tmod_eq_emod_of_nonneg (by omega)]) | (rw [Int.tmod_eq_emod_of_nonneg (by omega)]; omega))
      · intro a vs W hX hR he hf K hK
        rw [if_pos (wanted_none rfl)]
        have e12 : a.eval (.tmp 12) = .slice P z1 pc := hf 12 (by kernel_rfl)
        refine wp_value (v := .slice P z1 pc) ?_ (hK _ _ rfl (grown_refl W _))
        simp only [execOp, e12]
        try go_simp
        try (first | rfl | omega | (simp only [IntKind.wrap_i64, IntKind.wrap_u8, IntKind.wrap_u64, IntKind.wrap_u16, IntKind.wrap_u32]; omega) | (rw [Int.tmod_eq_emod_of_nonneg (by omega)]) | (rw [Int.tmod_eq_emod_of_nonneg (by omega)]; omega))
      · intro a vs W hX hR he hf K hK
        rw [if_pos (wanted_none rfl)]
        have e13 : a.eval (.tmp 13) = .slice F9 fn fn := hf 13 (by kernel_rfl)
        refine wp_value (v := .slice F9 fn fn) ?_ (hK _ _ rfl (grown_refl W _))
        simp only [execOp, e13]
        try go_simp
        try (first | rfl | omega | (simp only [IntKind.wrap_i64, IntKind.wrap_u8, IntKind.wrap_u64, IntKind.wrap_u16, IntKind.wrap_u32]; omega) | (rw [Int.tmod_eq_emod_of_nonneg (by omega)]) | (rw [Int.tmod_eq_emod_of_nonneg (by omega)]; omega))
      · intro a vs W hX hR he hf K hK
        rw [if_pos (wanted_none rfl)]
        have e8 : a.eval (.tmp 8) = .slice A5 k c5 := hf 8 (by kernel_rfl)
        refine wp_value (v := .slice A5 k c5) ?_ (hK _ _ rfl (grown_refl W _))
        simp only [execOp, e8]
        try go_simp
        try (first | rfl | omega | (simp only [IntKind.wrap_i64, IntKind.wrap_u8, IntKind.wrap_u64, IntKind.wrap_u16, IntKind.wrap_u32]; omega) | (rw [Int.tmod_eq_emod_of_nonneg (by omega)]) | (rw [Int.tmod_eq_emod_of_nonneg (by omega)]; omega))
      · intro a vs W hX hR he hf K hK
        rw [if_pos (wanted_none rfl)]
        have e62 : a.eval (.tmp 62) = .slice (some ⟨g6, 0, none⟩) 8 8 := (he 3 62 (by kernel_rfl) rfl).trans (hR 3 (by kernel_rfl))
        have e63 : a.eval (.tmp 63) = .slice P z1 pc := (he 4 63 (by kernel_rfl) rfl).trans (hR 4 (by kernel_rfl))
        have e64 : a.eval (.tmp 64) = .slice F9 fn fn := (he 5 64 (by kernel_rfl) rfl).trans (hR 5 (by kernel_rfl))
        have e65 : a.eval (.tmp 65) = .slice A5 k c5 := (he 6 65 (by kernel_rfl) rfl).trans (hR 6 (by kernel_rfl))
        have f62 := e62
        simp only [Act.eval, Array.getD_eq_getD_getElem?] at f62
        have f63 := e63
        simp only [Act.eval, Array.getD_eq_getD_getElem?] at f63
        have f64 := e64
        simp only [Act.eval, Array.getD_eq_getD_getElem?] at f64
        have f65 := e65
        simp only [Act.eval, Array.getD_eq_getD_getElem?] at f65
        have hbW := bthen (below_drew _) (grow_below hX)
        refine wp_value (v := .slice (some ⟨W.heap.size, 0, none⟩) 4 4) (w' := W.alloc (.cells #[.slice (some ⟨g6, 0, none⟩) 8 8, .slice P z1 pc, .slice F9 fn fn, .slice A5 k c5] 22)) ?_ (hK _ _ ⟨[⟨some ⟨g6, 0, none⟩, 8, 8, [f, f2, 0, 0, 0, 32, m1, m2]⟩, ⟨P, z1, pc, beg.take z1⟩, ⟨F9, fn, fn, zerosN fn⟩, ⟨A5, k, c5, T⟩], _, _, _, rfl, rfl, ?_, ?_⟩ (World.grownBy_alloc _ _ _))
        · simp only [execOp]
          go_simp
        · rw [World.size_alloc]
          exact Row.new (n := 4) (sz := 1) W _ rfl
        · have k := fun r (hr : Bs.ok W r) => hr.below (alloc_below W (.cells #[.slice (some ⟨g6, 0, none⟩) 8 8, .slice P z1 pc, .slice F9 fn fn, .slice A5 k c5] 22))
          simp only [List.mem_cons, List.not_mem_nil, or_false]
          rintro r (rfl | rfl | rfl | rfl)
          · exact k _ (HR1.out.below hbW)
          · exact k _ (HR2.out.below hbW)
          · exact k _ (HR3.out.below hbW)
          · exact k _ (HR4.out.below hbW)
      · intro a vs W hX hR he hf K hK
        rw [if_pos (wanted_none rfl)]
        have e66 := he 7 66 (by kernel_rfl) rfl
        have p66 := hR 7 (by kernel_rfl)
        change (RowsR [[f, f2, 0, 0, 0, 32, m1, m2], beg.take z1, zerosN fn, T]) (vs 7) W at p66
        have hbW := bthen (below_drew _) (grow_below hX)
        obtain ⟨rows9, R9, k9, c9, hv, hl, hr, ho⟩ := p66
        rw [hv] at e66
        have hfl : flat rows9 = BB := by rw [flat_map, hl]; exact HBB.out
        have hk4 : k9 ≤ 4 := by have h1 := hr.1; rw [List.length_map] at h1; have h2 := congrArg List.length hl; simp at h2; omega
        refine wp_enter (f := 21) (args := #[.slice R9 k9 c9]) (by simp only [execOp, e66]; go_simp; simpa [Act.eval] using e66) ((body23p_any R9 k9 c9 rows9 W hr ho (by omega) BB hfl N HN.out hN4 hNm).mono ?_)
        rintro e w' ⟨A3, c3, rfl, hown, hb⟩
        rw [HY.out] at hown
        exact ⟨_, rfl, hK _ _ ⟨A3, c3, rfl, hown.mono hbW.size⟩ (below_grow hb _)⟩
      · intro a vs W hX hR he hf K hK
        rw [if_pos (wanted_none rfl)]
        have e61 : a.eval (.tmp 61) = .agg (head23 src dst).cells.toArray := (he 2 61 (by kernel_rfl) rfl).trans (hR 2 (by kernel_rfl))
        have e67 := he 8 67 (by kernel_rfl) rfl
        have p67 := hR 8 (by kernel_rfl)
        change (fun v W => ∃ A' c', v = .slice A' N c' ∧ Own W wz.heap.size 5 1 A' N c' (bv Y)) (vs 8) W at p67
        have hbW := bthen (below_drew _) (grow_below hX)
        obtain ⟨A3, c3, hv, ho⟩ := p67
        rw [hv] at e67
        refine wp_enter (f := 20) (args := #[.agg (head23 src dst).cells.toArray, .slice A3 N c3]) (by simp only [execOp, e61, e67]; go_simp; exact ⟨by simpa [Act.eval] using e61, by simpa [Act.eval] using e67⟩) ((put4_any (head23 src dst) (head23_fit src dst HSL.out HDL.out) A3 N c3 Y W ho.row ho.le ho.cap (by omega)).mono ?_)
        rintro e w' ⟨r9, rfl, hl9, ho9, hb⟩
        rw [HPR.out] at hl9
        rw [HPR.out, hl9] at *
        exact ⟨_, rfl, hK _ _ ⟨r9.A, r9.n, r9.c, rfl, ho9.mono hbW.size⟩ (below_grow hb _)⟩
      · intro a vs W hX hR he hf K hK
        rw [if_pos (wanted_none rfl)]
        have e68 := he 9 68 (by kernel_rfl) rfl
        have p68 := hR 9 (by kernel_rfl)
        change (fun v W => ∃ A' n' c', v = .tuple #[.slice A' n' c', .int .i64 R.2] ∧ Own W wz.heap.size 5 1 A' n' c' (bv R.1)) (vs 9) W at p68
        obtain ⟨A3, n3, c3, hv, ho⟩ := p68
        rw [hv] at e68
        refine wp_value (v := .slice A3 n3 c3) ?_ (hK _ _ ⟨A3, n3, c3, rfl, ho⟩ (grown_refl W _))
        simp only [execOp, e68]
        try go_simp
      · intro a vs W hX hR he hf K hK
        rw [if_pos (wanted_none rfl)]
        have e68 := he 9 68 (by kernel_rfl) rfl
        have p68 := hR 9 (by kernel_rfl)
        change (fun v W => ∃ A' n' c', v = .tuple #[.slice A' n' c', .int .i64 R.2] ∧ Own W wz.heap.size 5 1 A' n' c' (bv R.1)) (vs 9) W at p68
        obtain ⟨A3, n3, c3, hv, ho⟩ := p68
        rw [hv] at e68
        refine wp_value (v := .int .i64 R.2) ?_ (hK _ _ rfl (grown_refl W _))
        simp only [execOp, e68]
        try go_simp
      · intro a vs W hX hR he hf K hK
        rw [if_pos (wanted_none rfl)]
        have e69 := he 10 69 (by kernel_rfl) rfl
        have p69 := hR 10 (by kernel_rfl)
        change (fun v W => ∃ A' n' c', v = .slice A' n' c' ∧ Own W wz.heap.size 5 1 A' n' c' (bv R.1)) (vs 10) W at p69
        refine wp_value (v := _) ?_ (hK _ _ p69 (grown_refl W _))
        simp only [execOp, e69]
        try go_simp
      · intro a vs W hX hR he hf K hK
        rw [if_pos (wanted_none rfl)]
        have e70 : a.eval (.tmp 70) = .int .i64 R.2 := (he 11 70 (by kernel_rfl) rfl).trans (hR 11 (by kernel_rfl))
        refine wp_value (v := .int .i64 R.2) ?_ (hK _ _ rfl (grown_refl W _))
        simp only [execOp, e70]
        try go_simp
        try (first | rfl | omega | (simp only [IntKind.wrap_i64, IntKind.wrap_u8, IntKind.wrap_u64, IntKind.wrap_u16, IntKind.wrap_u32]; omega) | (rw [Int.tmod_eq_emod_of_nonneg (by omega)]) | (rw [Int.tmod_eq_emod_of_nonneg (by omega)]; omega))
      · intro vs W3 hX3 hR
        have q0 := hR 0 (by decide)
        have q1 := hR 1 (by decide)
        have q2 := hR 2 (by decide)
        have q3 := hR 3 (by decide)
        have q4 := hR 4 (by decide)
        have q5 := hR 5 (by decide)
        have q6 := hR 6 (by decide)
        have q7 := hR 7 (by decide)
        have q8 := hR 8 (by decide)
        have q9 := hR 9 (by decide)
        have q10 := hR 10 (by decide)
        have q11 := hR 11 (by decide)
        have q12 := hR 12 (by decide)
        have q13 := hR 13 (by decide)
        change vs 0 = .agg (bv src).toArray at q0
        change vs 1 = .agg (bv dst).toArray at q1
        change vs 2 = .agg (head23 src dst).cells.toArray at q2
        change vs 3 = .slice (some ⟨g6, 0, none⟩) 8 8 at q3
        change vs 4 = .slice P z1 pc at q4
        change vs 5 = .slice F9 fn fn at q5
        change vs 6 = .slice A5 k c5 at q6
        change (RowsR [[f, f2, 0, 0, 0, 32, m1, m2], beg.take z1, zerosN fn, T]) (vs 7) W3 at q7
        change (fun v W => ∃ A' c', v = .slice A' N c' ∧ Own W wz.heap.size 5 1 A' N c' (bv Y)) (vs 8) W3 at q8
        change (fun v W => ∃ A' n' c', v = .tuple #[.slice A' n' c', .int .i64 R.2] ∧ Own W wz.heap.size 5 1 A' n' c' (bv R.1)) (vs 9) W3 at q9
        change (fun v W => ∃ A' n' c', v = .slice A' n' c' ∧ Own W wz.heap.size 5 1 A' n' c' (bv R.1)) (vs 10) W3 at q10
        change vs 11 = .int .i64 R.2 at q11
        change (fun v W => ∃ A' n' c', v = .slice A' n' c' ∧ Own W wz.heap.size 5 1 A' n' c' (bv R.1)) (vs 12) W3 at q12
        change vs 13 = .int .i64 R.2 at q13
        simp only [putAll, Act.put, List.setIfInBounds_toArray, List.set_cons_zero, List.set_cons_succ, q0, q1, q2, q3, q4, q5, q6, q11, q13]
        clear q0 q1 q2 q3 q4 q5 q6 q11 q13
        clear hR
        obtain ⟨A9, n9, c9, hv9, ho9⟩ := q12
        rw [hv9]
        have hbW := bthen (below_drew _) (grow_below hX3)
        have HO9 := Lib.hid ho9
        replace HW := Lib.hid (bthen HW.out hbW)
        clear hbW hX3 ho9
        go_wp2_with fail
        go_ret2
        exact ⟨A9, n9, c9, rfl, HO9.out.mono HWZ.out, HW.out⟩
  · have hpi : (p != 0) = true := by simpa using hp0
    replace HP24 := Lib.hid (HP24.out.trans (if_pos hp0))
    clear hp0
    go_wp2_with fail
    go_ret2
    exact ⟨none, 0, 0, by rw [HP24.out]; rfl, by rw [HP24.out]; exact Own.nil _ _ _ _ _, HW.out⟩
end Go.Proofs.YtckbleiikldloaaDoor


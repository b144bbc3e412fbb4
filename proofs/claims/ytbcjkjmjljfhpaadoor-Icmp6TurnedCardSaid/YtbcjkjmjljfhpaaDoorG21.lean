/- Texts of this claim put together, in build order: each one's own remark stands ahead of it. -/
import Derived.Test.YtbcjkjmjljfhpaaDoorG20
/- What icmp6.Put (layer 24) computes. No condition but sizes, and what the package's table holds. -/
namespace Go.Proofs.YtbcjkjmjljfhpaaDoor
open Go.RowKit
set_option linter.unusedVariables false
set_option maxRecDepth 20000
set_option linter.unusedSimpArgs false

/-- the package's table of types, as its text lays it -/
def typs : List Value := [.int .u8 3, .int .u8 2, .int .u8 1]
structure Typ24 (w : World) : Prop where
  lt : 0 < w.heap.size
  cell : ∀ j v, typs[j]? = some v → w.cell? ⟨0, j, none⟩ = some v
theorem Typ24.on {w w' : World} (h : Typ24 w) (hb : Below w.heap.size w w') : Typ24 w' := ⟨Nat.lt_of_lt_of_le h.lt hb.size, fun j v hv => (hb.cell (p := ⟨_, j, none⟩) h.lt).trans (h.cell j v hv)⟩
theorem exec_make8 {w : World} {o : Oper} {a : Act} (ho : o.op = .makeSlice 22 (.const (.int .i64 8)) (.const (.int .i64 8))) : (execOp a.eval o).run Tryd.prog w = .ok (.value (.slice (some ⟨w.heap.size, 0, none⟩) 8 8)) (w.alloc (.cells (bv [0, 0, 0, 0, 0, 0, 0, 0]).toArray 5)) := by
  unfold execOp
  simp only [ho, Act.eval, Sem.run_bind, make8, Result.andThen_ok]
  rfl
theorem made_zeros (n : Nat) : (madeCells (Value.int .u8 0).cells (n * 1)).toList = bv (zerosN n) := by
  rw [show (Value.int .u8 0).cells = #[Value.int .u8 0] from rfl, toList_madeCells_one, Nat.mul_one]
  simp [bv, zerosN]
theorem bad_or {m : Mm} (h : ¬ m.bad6) : 0 ≤ m.kind ∧ m.kind ≤ 2 ∧ 0 ≤ m.mtu ∧ m.mtu ≤ 65535 ∧ (m.kind ≠ 1 → m.mtu = 0) ∧ (m.kind = 1 → m.n = 0) := by
  unfold Mm.bad6 at h
  refine ⟨by omega, by omega, by omega, by omega, fun h1 => ?_, fun h1 => ?_⟩ <;> omega
theorem front24_eq (k : Int) (h0 : 0 ≤ k) (h2 : k ≤ 2) : ∃ (q : Nat) (f : UInt8), k = (q : Int) ∧ q ≤ 2 ∧ front24 k = [f, 0] ∧ typs[q]? = some (.int .u8 (f.toNat : Int)) := by
  have : k = 0 ∨ k = 1 ∨ k = 2 := by omega
  rcases this with rfl | rfl | rfl
  · exact ⟨0, 3, rfl, by omega, rfl, rfl⟩
  · exact ⟨1, 2, rfl, by omega, rfl, rfl⟩
  · exact ⟨2, 1, rfl, by omega, rfl, rfl⟩

set_option maxHeartbeats 2000000 in
theorem put24p_bad (m : Mp) (w : World) (hm : m.ok w) (src dst : List UInt8) (hb : m.m.bad6) :
    Calls Tryd.prog 8 #[.agg m.cells.toArray, .agg (bv src).toArray, .agg (bv dst).toArray] w fun e w' => e = .returned (.tuple #[.slice none 0 0, .int .i64 1]) ∧ Below w.heap.size w w' := by
  have MAY := Lib.hid (fun w' (h : m.ok w') => may6_any m w' h)
  rw [show m.good6 = false by unfold Mp.good6; rw [decide_eq_false (fun h => h hb)]] at MAY
  have HM := Lib.hid hm
  clear hm hb
  go_enter Tryd.func8, Tryd.ntmps8
  go_upto_region 1 with (first
    | (refine wpList_box_blk (by rfl) 25 (.tmp 0) rfl m.cells rfl ?_; intro w1 hb1 hB1 hs1)
    | (refine wpList_box_blk (by rfl) 26 (.tmp 1) rfl (bv src) rfl ?_; intro w2 hb2 hB2 hs2)
    | (refine wpList_box_blk (by rfl) 26 (.tmp 2) rfl (bv dst) rfl ?_; intro w3 hb3 hB3 hs3))
  have hK := (hb1.on hB2).on hB3
  have HK := Lib.hid hK
  have HW := Lib.hid (bthen (bthen hB1 hB2) hB3)
  clear hb1 hb2 hb3 hB1 hB2 hB3 hs1 hs2 hs3 hK
  go_wp2_with (refine wpList_load_blk (by rfl) 25 _ rfl w.heap.size rfl 25 _ _ HK.out Tryd.underlying25 rfl (sizeMp _) ?_)
  refine (MAY.out w3 (HM.out.on HW.out)).mono ?_
  rintro e w4 ⟨rfl, hb4⟩
  have HW4 := Lib.hid (bthen HW.out hb4)
  clear hb4
  go_wp2_with fail
  go_ret2
  exact ⟨rfl, HW4.out⟩

theorem exec_makeN {w : World} {o : Oper} {a : Act} (x y : Operand) (ho : o.op = .makeSlice 22 x y) (fn : Nat) (hfn : fn ≤ 1000) (hx : a.eval x = .int .i64 (fn : Int)) (hy : a.eval y = .int .i64 (fn : Int)) :
    (execOp a.eval o).run Tryd.prog w = .ok (.value (.slice (some ⟨w.heap.size, 0, none⟩) fn fn)) (w.alloc (.cells (madeCells (Value.int .u8 0).cells (fn * 1)) 5)) := by
  obtain ⟨i, hi, hz, hsz, hby⟩ := info_parts infoByte
  have h := run_makeSlice (P := Tryd.prog) w 22 5 i (.int .u8 0) Tryd.underlying22 hi hz .i64 .i64 (fn : Int) (fn : Int) (by omega) (Int.le_refl _) (by rw [hsz, Int.toNat_natCast]; omega) (by rw [hby]; omega) (by omega)
  unfold execOp
  simp only [ho, hx, hy, Sem.run_bind, h, Result.andThen_ok, hsz, Int.toNat_natCast]
  rfl
theorem own_zeros (w : World) (B fn : Nat) (hB : B ≤ w.heap.size) (hfn : fn ≤ 1000) : Own (w.alloc (.cells (madeCells (Value.int .u8 0).cells (fn * 1)) 5)) B 5 1 (some ⟨w.heap.size, 0, none⟩) fn fn (bv (zerosN fn)) := by
  rw [← made_zeros]
  exact Own.made (n := fn) (sz := 1) w _ hB (by simp only [maxLen]; omega) (by rw [size_madeCells])
theorem own_far {W : World} {base n c g : Nat} {A : Option Addr} {xs : List Value} (h : Own W base 5 1 A n c xs) (N : Nat) (hl : ∀ r, blk A c = some r → r < N) (hg : N ≤ g) (j : Nat) (u : Value) : Own (W.setCell ⟨g, j, none⟩ u) base 5 1 A n c xs :=
  h.kept (grown_set (grown_refl W _) j u) (fun r hr e => by have := hl r hr; injection e; omega)
theorem take_min (beg : List UInt8) (pn k : Nat) (h : beg.length = pn) : beg.take (min pn k) = beg.take k := by
  rcases Nat.le_total pn k with h1 | h1
  · rw [Nat.min_eq_left h1, List.take_of_length_le (by omega), List.take_of_length_le (by omega)]
  · rw [Nat.min_eq_right h1]
theorem whole_body (m : Mm) (src dst : List UInt8) : wholeF src dst (front24 m.kind ++ [0, 0] ++ rest24 m) = body24 m src dst := by
  have h2 := front24_length m.kind
  have h4 : (front24 m.kind ++ [0, 0]).length = 4 := by rw [List.length_append, h2]; rfl
  have ht : (front24 m.kind ++ [0, 0] ++ rest24 m).take 2 = front24 m.kind := by rw [List.append_assoc, List.take_left' h2]
  have hd : (front24 m.kind ++ [0, 0] ++ rest24 m).drop 4 = rest24 m := List.drop_left' h4
  have hl : (((front24 m.kind ++ [0, 0] ++ rest24 m).length : Nat) : Int) = ((rest24 m).length : Int) + 4 := by rw [List.length_append, h4]; omega
  unfold wholeF body24 ps24
  rw [ht, hd, hl]
  simp only [List.append_assoc]
theorem begin_full (beg : List UInt8) (pn q1 q2 fn : Nat) (h : beg.length = pn) (h1 : q1 = min pn 1232) (h2 : q2 = min q1 128) (h3 : fn = 128 - q2) : beg.take q2 ++ zerosN fn = begin24 beg true := by
  unfold begin24 begin23
  rw [if_pos rfl]
  by_cases hb : 128 < pn
  · rw [if_pos (by omega), show q2 = 128 by omega, show fn = 0 by omega]
    simp [zerosN]
  · rw [if_neg (by omega), if_pos rfl, List.take_of_length_le (by omega), show fn = 128 - beg.length by omega]
theorem zeros8_put (m : Nat) : ([0, 0, 0, 0, 0, 0, 0, 0] : List UInt8).take 4 ++ toBe 4 m ++ ([0, 0, 0, 0, 0, 0, 0, 0] : List UInt8).drop (4 + 4) = [0, 0, 0, 0] ++ toBe 4 m := by simp
set_option maxRecDepth 100000 in
set_option maxHeartbeats 8000000 in
theorem put24p_ok (m : Mp) (w : World) (hm : m.ok w) (hT : Typ24 w) (hpm : m.pn ≤ 1000000) (src dst : List UInt8) (hsl : src.length = 16) (hdl : dst.length = 16) (hb : ¬ m.m.bad6) :
    Calls Tryd.prog 8 #[.agg m.cells.toArray, .agg (bv src).toArray, .agg (bv dst).toArray] w fun e w' => ∃ A' n' c', e = .returned (.tuple #[.slice A' n' c', .int .i64 (put24 m.m src dst).2]) ∧ Own w' w.heap.size 5 1 A' n' c' (bv (put24 m.m src dst).1) ∧ Below w.heap.size w w' := by
  obtain ⟨R, hR⟩ : ∃ R, put24 m.m src dst = R := ⟨_, rfl⟩
  rw [hR]
  have MAY := Lib.hid (fun w' (h : m.ok w') => may6_any m w' h)
  rw [show m.good6 = true by unfold Mp.good6; rw [decide_eq_true hb]] at MAY
  obtain ⟨hk0, hk2, hm0, hm6, hmz, hnz⟩ := bad_or hb
  obtain ⟨q, f, hkq, hq2, hfr, hty⟩ := front24_eq m.m.kind hk0 hk2
  have HP24 : Hid (R = if (stack22 m.st).2 ≠ 0 then ([], (stack22 m.st).2) else put6 (head24 src dst) (body24 m.m src dst)) := Lib.hid (by rw [← hR]; unfold put24; rw [if_neg hb]; rfl)
  clear hR
  have HM := Lib.hid hm
  have HT := Lib.hid hT
  have HSL := Lib.hid hsl
  have HDL := Lib.hid hdl
  have HFR := Lib.hid hfr
  have hlen := hm.slen
  have hblen := hm.blen
  have hfit := hm.fit
  have hble := hm.ble
  have hbcm := hm.bcap
  have hnm : m.n ≤ maxLen := Nat.le_trans hm.le hm.cap
  obtain ⟨kd, mt, P, pn, pc, beg, A, n, c, st⟩ := m
  dsimp only [Mp.m] at hkq hm0 hm6 hmz hnz hpm HP24 HFR hlen hblen hble hfit hbcm hnm
  subst hkq
  have HTY := Lib.hid hty
  have HBL := Lib.hid hblen
  have HLN := Lib.hid hlen
  have HMZ := Lib.hid hmz
  have HNZ := Lib.hid hnz
  obtain ⟨T, hTT⟩ : ∃ T, (stack22 st).1 = T := ⟨_, rfl⟩
  obtain ⟨p, hp⟩ : ∃ p, (stack22 st).2 = p := ⟨_, rfl⟩
  obtain ⟨k, hk⟩ : ∃ k, T.length = k := ⟨_, rfl⟩
  have hk80 : k ≤ 80 := by have := stack22_le st; rw [hTT, hk] at this; exact this
  have STK := fun (w' : World) (h : Row w' w'.heap.size 4 A n (evs st)) => stack22p_all A n c st w' h hfit hnm
  rw [hTT, hp, hk] at STK
  rw [hp] at HP24
  have HST := Lib.hid STK
  have HTT := Lib.hid hTT
  have HKL := Lib.hid hk
  unfold maxLen at hnm
  clear hm hT hsl hdl hfr hty hb hk0 hk2 STK hTT hp hk hlen hblen hmz hnz hfit
  show Calls Tryd.prog 8 #[.agg #[.int .i64 (q : Int), .int .i64 mt, .slice P pn pc, .slice A n c], .agg (bv src).toArray, .agg (bv dst).toArray] w _
  obtain ⟨g0, hg0⟩ : ∃ g, w.heap.size = g := ⟨_, rfl⟩
  have HG0 := Lib.hid hg0
  go_enter Tryd.func8, Tryd.ntmps8
  go_upto_region 1 with (first
    | (refine wpList_box_blk (by rfl) 25 (.tmp 0) rfl [.int .i64 (q : Int), .int .i64 mt, .slice P pn pc, .slice A n c] rfl ?_; intro w1 hb1 hB1 hs1)
    | (refine wpList_box_blk (by rfl) 26 (.tmp 1) rfl (bv src) rfl ?_; intro w2 hb2 hB2 hs2)
    | (refine wpList_box_blk (by rfl) 26 (.tmp 2) rfl (bv dst) rfl ?_; intro w3 hb3 hB3 hs3))
  rw [hg0] at hb1 hs1
  rw [hs1] at hb2 hs2
  rw [hs2] at hb3
  have HK := Lib.hid ((hb1.on hB2).on hB3)
  have HS := Lib.hid (hb2.on hB3)
  have HD := Lib.hid hb3
  have HW := Lib.hid (bthen (bthen hB1 hB2) hB3)
  try rw [hg0]
  try rw [hs1]
  try rw [hs2]
  clear hb1 hb2 hb3 hB1 hB2 hB3 hs1 hs2 hs3 hg0
  go_wp2_with (refine wpList_load_blk (by rfl) 25 _ rfl g0 rfl 25 _ _ HK.out Tryd.underlying25 rfl (sizeMp ⟨(q : Int), mt, P, pn, pc, beg, A, n, c, st⟩) ?_)
  refine (MAY.out w3 (HM.out.on HW.out)).mono ?_
  rintro e w4 ⟨rfl, hb4⟩
  replace HW := Lib.hid (bthen HW.out hb4)
  replace HK := Lib.hid (HK.out.on hb4)
  replace HS := Lib.hid (HS.out.on hb4)
  replace HD := Lib.hid (HD.out.on hb4)
  have d3 : w4.cell? ⟨g0, 3, none⟩ = some (.slice A n c) := HK.out.cell 3
  clear hb4
  have hg4 : g0 ≤ w4.heap.size := by have := HK.out.lt; omega
  go_wp2_with fail
  refine (HST.out w4 (HM.out.on HW.out).row).mono ?_
  rintro e w5 ⟨A5, c5, rfl, ho5, hb5⟩
  have HX := Lib.hid ho5
  replace HW := Lib.hid (bthen HW.out hb5)
  replace HK := Lib.hid (HK.out.on hb5)
  replace HS := Lib.hid (HS.out.on hb5)
  replace HD := Lib.hid (HD.out.on hb5)
  replace HX := Lib.hid (HX.out.mono hg4)
  clear hb5 ho5 d3 hg4
  by_cases hp0 : p = 0
  · subst hp0
    replace HP24 := Lib.hid (HP24.out.trans (if_neg (fun h => h rfl)))
    go_wp2_with fail
    refine wp_region_rel (fun A B => A.grownBy B none) (fun A => grown_refl A _) (fun A B C h k => grown_trans h k) (relAt (List.cons (fun v W => ∃ A' c', v = .slice A' 8 c' ∧ Own W w5.heap.size 5 1 A' 8 c' (bv [0, 0, 0, 0, 0, 0, 0, 0])) (List.cons (fun v _ => v = .pointer (some ⟨g0, 1, none⟩)) (List.cons (fun v _ => v = .int .i64 mt) (List.cons (fun v _ => v = .int .u64 mt) (List.cons (fun v W => ∃ A' c', v = .tuple #[.slice A' 8 c', .bool true] ∧ Own W w5.heap.size 5 1 A' 8 c' (bv ([0, 0, 0, 0] ++ toBe 4 mt.toNat))) (List.cons (fun v W => ∃ A' c', v = .tuple #[.slice A' 8 c', .bool true] ∧ Own W w5.heap.size 5 1 A' 8 c' (bv ([0, 0, 0, 0] ++ toBe 4 mt.toNat))) (List.cons (fun v W => ∃ A' c', v = .slice A' 8 c' ∧ Own W w5.heap.size 5 1 A' 8 c' (bv ([0, 0, 0, 0] ++ toBe 4 mt.toNat))) (List.cons (fun v _ => v = .bool true) (List.cons (fun v W => ∃ A' c', v = .slice A' 8 c' ∧ Own W w5.heap.size 5 1 A' 8 c' (bv ([0, 0, 0, 0] ++ toBe 4 mt.toNat))) (List.cons (fun v _ => v = .bool true) ([])))))))))))) (MonoL.at_ (.cons (fun _ _ _ ⟨X, c, hv, h⟩ hg => ⟨X, c, hv, h.below (grow_below hg)⟩) (.cons (mono_val _) (.cons (mono_val _) (.cons (mono_val _) (.cons (fun _ _ _ ⟨X, c, hv, h⟩ hg => ⟨X, c, hv, h.below (grow_below hg)⟩) (.cons (fun _ _ _ ⟨X, c, hv, h⟩ hg => ⟨X, c, hv, h.below (grow_below hg)⟩) (.cons (fun _ _ _ ⟨X, c, hv, h⟩ hg => ⟨X, c, hv, h.below (grow_below hg)⟩) (.cons (mono_val _) (.cons (fun _ _ _ ⟨X, c, hv, h⟩ hg => ⟨X, c, hv, h.below (grow_below hg)⟩) (.cons (mono_val _) .nil))))))))))) (by kernel_rfl) (by kernel_rfl) ⟨?_, ?_, ?_, ?_, ?_, ?_, ?_, ?_, ?_, ?_, trivial⟩ ?_
    · intro a vs W hX hR he hf K hK
      rw [if_pos (wanted_none rfl)]
      have hbW := bthen (below_drew _) (grow_below hX)
      refine wp_value (exec_make8 rfl) (hK _ _ ⟨_, _, rfl, ?_⟩ (World.grownBy_alloc _ _ _))
      exact Own.made (n := 8) (sz := 1) W _ hbW.size (by simp only [maxLen]; omega) rfl
    · intro a vs W hX hR he hf K hK
      rw [if_pos (wanted_none rfl)]
      have e3 : a.eval (.tmp 3) = .pointer (some ⟨g0, 0, none⟩) := hf 3 (by kernel_rfl)
      refine wp_value (v := .pointer (some ⟨g0, 1, none⟩)) ?_ (hK _ _ rfl (grown_refl W _))
      simp only [execOp, e3]
      try go_simp
      try (first | rfl | omega | (simp only [IntKind.wrap_i64, IntKind.wrap_u8, IntKind.wrap_u64, IntKind.wrap_u16, IntKind.wrap_u32]; omega) | (rw [Int.tmod_eq_emod_of_nonneg (by omega)]) | (rw [Int.tmod_eq_emod_of_nonneg (by omega)]; omega))
    · intro a vs W hX hR he hf K hK
      rw [if_pos (wanted_none rfl)]
      have e28 : a.eval (.tmp 28) = .pointer (some ⟨g0, 1, none⟩) := (he 1 28 (by kernel_rfl) rfl).trans (hR 1 (by kernel_rfl))
      have hbW := bthen (below_drew _) (grow_below hX)
      have hc : W.cell? ⟨g0, 1, none⟩ = some (.int .i64 mt) := ((HK.out.on hbW).cell 1).trans (rfl : [Value.int .i64 (q : Int), .int .i64 mt, .slice P pn pc, .slice A n c][1]? = some (.int .i64 mt))
      refine wp_value (v := _) ?_ (hK _ _ rfl (grown_refl W _))
      simp only [execOp, e28]
      try go_simp
    · intro a vs W hX hR he hf K hK
      rw [if_pos (wanted_none rfl)]
      have e29 : a.eval (.tmp 29) = .int .i64 mt := (he 2 29 (by kernel_rfl) rfl).trans (hR 2 (by kernel_rfl))
      refine wp_value (v := .int .u64 mt) ?_ (hK _ _ rfl (grown_refl W _))
      simp only [execOp, e29]
      try go_simp
      try (first | rfl | omega | (simp only [IntKind.wrap_i64, IntKind.wrap_u8, IntKind.wrap_u64, IntKind.wrap_u16, IntKind.wrap_u32]; omega) | (rw [Int.tmod_eq_emod_of_nonneg (by omega)]) | (rw [Int.tmod_eq_emod_of_nonneg (by omega)]; omega))
    · intro a vs W hX hR he hf K hK
      rw [if_pos (wanted_none rfl)]
      have e27 := he 0 27 (by kernel_rfl) rfl
      have p27 := hR 0 (by kernel_rfl)
      change (fun v W => ∃ A' c', v = .slice A' 8 c' ∧ Own W w5.heap.size 5 1 A' 8 c' (bv [0, 0, 0, 0, 0, 0, 0, 0])) (vs 0) W at p27
      have e30 : a.eval (.tmp 30) = .int .u64 mt := (he 3 30 (by kernel_rfl) rfl).trans (hR 3 (by kernel_rfl))
      have hbW := bthen (below_drew _) (grow_below hX)
      obtain ⟨A2, c2, hv, ho⟩ := p27
      rw [hv] at e27
      refine wp_enter (f := 20) (args := #[.slice A2 8 c2, .int .i64 4, .int .i64 4, .int .u64 mt]) (by simp only [execOp, e27, e30]; go_simp; exact ⟨by simpa [Act.eval] using e27, by simpa [Act.eval] using e30⟩) ((put_yes A2 8 c2 [0, 0, 0, 0, 0, 0, 0, 0] 4 4 mt W ho.row ho.le ho.cap (by omega) (by omega) (by omega) (by omega) (by omega) (by omega) (by show mt < 256 ^ 4; omega)).mono ?_)
      rintro q' w' ⟨A3, c3, rfl, hown, hb⟩
      rw [show ([0, 0, 0, 0, 0, 0, 0, 0] : List UInt8).take (4 : Int).toNat ++ toBe (4 : Int).toNat mt.toNat ++ ([0, 0, 0, 0, 0, 0, 0, 0] : List UInt8).drop ((4 : Int).toNat + (4 : Int).toNat) = ([0, 0, 0, 0] ++ toBe 4 mt.toNat) from zeros8_put _] at hown
      exact ⟨_, rfl, hK _ _ ⟨A3, c3, rfl, hown.mono hbW.size⟩ (below_grow hb _)⟩
    · intro a vs W hX hR he hf K hK
      rw [if_pos (wanted_none rfl)]
      have e31 := he 4 31 (by kernel_rfl) rfl
      have p31 := hR 4 (by kernel_rfl)
      change (fun v W => ∃ A' c', v = .tuple #[.slice A' 8 c', .bool true] ∧ Own W w5.heap.size 5 1 A' 8 c' (bv ([0, 0, 0, 0] ++ toBe 4 mt.toNat))) (vs 4) W at p31
      refine wp_value (v := _) ?_ (hK _ _ p31 (grown_refl W _))
      simp only [execOp, e31]
      try go_simp
    · intro a vs W hX hR he hf K hK
      rw [if_pos (wanted_none rfl)]
      have e26 := he 5 26 (by kernel_rfl) rfl
      have p26 := hR 5 (by kernel_rfl)
      change (fun v W => ∃ A' c', v = .tuple #[.slice A' 8 c', .bool true] ∧ Own W w5.heap.size 5 1 A' 8 c' (bv ([0, 0, 0, 0] ++ toBe 4 mt.toNat))) (vs 5) W at p26
      obtain ⟨A3, c3, hv, ho⟩ := p26
      rw [hv] at e26
      refine wp_value (v := .slice A3 8 c3) ?_ (hK _ _ ⟨A3, c3, rfl, ho⟩ (grown_refl W _))
      simp only [execOp, e26]
      try go_simp
    · intro a vs W hX hR he hf K hK
      rw [if_pos (wanted_none rfl)]
      have e26 := he 5 26 (by kernel_rfl) rfl
      have p26 := hR 5 (by kernel_rfl)
      change (fun v W => ∃ A' c', v = .tuple #[.slice A' 8 c', .bool true] ∧ Own W w5.heap.size 5 1 A' 8 c' (bv ([0, 0, 0, 0] ++ toBe 4 mt.toNat))) (vs 5) W at p26
      obtain ⟨A3, c3, hv, ho⟩ := p26
      rw [hv] at e26
      refine wp_value (v := .bool true) ?_ (hK _ _ rfl (grown_refl W _))
      simp only [execOp, e26]
      try go_simp
    · intro a vs W hX hR he hf K hK
      rw [if_pos (wanted_none rfl)]
      have e32 := he 6 32 (by kernel_rfl) rfl
      have p32 := hR 6 (by kernel_rfl)
      change (fun v W => ∃ A' c', v = .slice A' 8 c' ∧ Own W w5.heap.size 5 1 A' 8 c' (bv ([0, 0, 0, 0] ++ toBe 4 mt.toNat))) (vs 6) W at p32
      refine wp_value (v := _) ?_ (hK _ _ p32 (grown_refl W _))
      simp only [execOp, e32]
      try go_simp
    · intro a vs W hX hR he hf K hK
      rw [if_pos (wanted_none rfl)]
      have e33 : a.eval (.tmp 33) = .bool true := (he 7 33 (by kernel_rfl) rfl).trans (hR 7 (by kernel_rfl))
      refine wp_value (v := .bool true) ?_ (hK _ _ rfl (grown_refl W _))
      simp only [execOp, e33]
      try go_simp
      try (first | rfl | omega | (simp only [IntKind.wrap_i64, IntKind.wrap_u8, IntKind.wrap_u64, IntKind.wrap_u16, IntKind.wrap_u32]; omega) | (rw [Int.tmod_eq_emod_of_nonneg (by omega)]) | (rw [Int.tmod_eq_emod_of_nonneg (by omega)]; omega))
    · intro vs W2 hX2 hR
      have q0 := hR 0 (by decide)
      have q1 := hR 1 (by decide)
      have q2 := hR 2 (by decide)
      have q3 := hR 3 (by decide)
      have q4 := hR 4 (by decide)
      have q5 := hR 5 (by decide)
      have q6 := hR 6 (by decide)
      have q7 := hR 7 (by decide)
      have q8 := hR 8 (by decide)
      have q9 := hR 9 (by decide)
      change (fun v W => ∃ A' c', v = .slice A' 8 c' ∧ Own W w5.heap.size 5 1 A' 8 c' (bv [0, 0, 0, 0, 0, 0, 0, 0])) (vs 0) W2 at q0
      change vs 1 = .pointer (some ⟨g0, 1, none⟩) at q1
      change vs 2 = .int .i64 mt at q2
      change vs 3 = .int .u64 mt at q3
      change (fun v W => ∃ A' c', v = .tuple #[.slice A' 8 c', .bool true] ∧ Own W w5.heap.size 5 1 A' 8 c' (bv ([0, 0, 0, 0] ++ toBe 4 mt.toNat))) (vs 4) W2 at q4
      change (fun v W => ∃ A' c', v = .tuple #[.slice A' 8 c', .bool true] ∧ Own W w5.heap.size 5 1 A' 8 c' (bv ([0, 0, 0, 0] ++ toBe 4 mt.toNat))) (vs 5) W2 at q5
      change (fun v W => ∃ A' c', v = .slice A' 8 c' ∧ Own W w5.heap.size 5 1 A' 8 c' (bv ([0, 0, 0, 0] ++ toBe 4 mt.toNat))) (vs 6) W2 at q6
      change vs 7 = .bool true at q7
      change (fun v W => ∃ A' c', v = .slice A' 8 c' ∧ Own W w5.heap.size 5 1 A' 8 c' (bv ([0, 0, 0, 0] ++ toBe 4 mt.toNat))) (vs 8) W2 at q8
      change vs 9 = .bool true at q9
      simp only [putAll, Act.put, List.setIfInBounds_toArray, List.set_cons_zero, List.set_cons_succ, q1, q2, q3, q7, q9]
      clear q1 q2 q3 q7 q9
      clear hR
      obtain ⟨A6, c6, hv6, ho6⟩ := q8
      rw [hv6]
      have hbW := bthen (below_drew _) (grow_below hX2)
      have hg5 : g0 + 3 ≤ w5.heap.size := by have := HD.out.lt; omega
      have hXl : ∀ r, blk A5 c5 = some r → r < w5.heap.size := fun r hr => (HX.out.lt r hr).2
      replace HX := Lib.hid (HX.out.below hbW)
      replace HW := Lib.hid (bthen HW.out hbW)
      replace HK := Lib.hid (HK.out.on hbW)
      replace HS := Lib.hid (HS.out.on hbW)
      replace HD := Lib.hid (HD.out.on hbW)
      obtain ⟨N5, hN5⟩ : ∃ N, w5.heap.size = N := ⟨_, rfl⟩
      rw [hN5] at ho6 hXl hg5
      have HXL := Lib.hid hXl
      obtain ⟨g6, rfl, hg6a, hg6b, hcl, hfr6⟩ := ho6.open_ (by omega)
      have HO6 := Lib.hid ho6
      have hcc0 : W2.cell? ⟨g6, 0, none⟩ = some (.int .u8 0) := hcl 0 _ rfl
      have hcf0 := hfr6 0
      have hct : W2.cell? ⟨0, q, none⟩ = some (.int .u8 (f.toNat : Int)) := (HT.out.on HW.out).cell q _ HTY.out
      have hd0 : W2.cell? ⟨g0, 0, none⟩ = some (.int .i64 (q : Int)) := HK.out.cell 0
      have hq3 : (q : Int) < 3 := by omega
      clear hbW hX2 ho6 hv6 hcl hfr6 hN5 hXl
      go_upto_region 8 with fail
      obtain ⟨w7, hw7⟩ : ∃ w7, w7 = W2.setCell ⟨g6, 0, none⟩ (.int .u8 (f.toNat : Int)) := ⟨_, rfl⟩
      rw [← hw7]
      have hb7 : Below g0 W2 w7 := by rw [hw7]; exact (Below.refl g0 W2).setCell (p := ⟨g6, 0, none⟩) (by simp only; omega) _
      replace HK := Lib.hid (show Blk w7 g0 _ _ by rw [hw7]; exact HK.out.far (by simp only; omega) _)
      replace HS := Lib.hid (show Blk w7 (g0 + 1) _ _ by rw [hw7]; exact HS.out.far (by simp only; omega) _)
      replace HD := Lib.hid (show Blk w7 (g0 + 1 + 1) _ _ by rw [hw7]; exact HD.out.far (by simp only; omega) _)
      replace HX := Lib.hid (show Own w7 _ 5 1 A5 k c5 _ by rw [hw7]; exact own_far HX.out N5 HXL.out hg6a 0 _)
      replace HO6 := Lib.hid (show Own w7 N5 5 1 (some ⟨g6, 0, none⟩) 8 c6 (bv ([f, 0, 0, 0] ++ toBe 4 mt.toNat)) by rw [hw7]; exact HO6.out.set (j := 0) (by omega) (.int .u8 (f.toNat : Int)))
      replace HW := Lib.hid (show Below w.heap.size w w7 by have h9 := HW.out; rw [HG0.out] at h9 ⊢; exact h9.trans hb7)
      clear hw7 hb7 hcc0 hcf0 hct hd0
      obtain ⟨z1, hz1⟩ : ∃ z1, z1 = min pn 1232 := ⟨_, rfl⟩
      have hz1a : z1 ≤ pn := by omega
      have hz1b : z1 ≤ 1232 := by omega
      have hz1c : (z1 : Int) ≤ (pc : Int) := by omega
      have HQ1 := Lib.hid hz1
      have hd2 : w7.cell? ⟨g0, 2, none⟩ = some (.slice P pn pc) := HK.out.cell 2
      have hd3 : w7.cell? ⟨g0, 3, none⟩ = some (.slice A n c) := HK.out.cell 3
      clear hz1
      go_upto_region 9 with (refine wpList_value (o := ⟨some 45, _, _, _, _, _⟩) (by rfl) (v := .int .i64 (z1 : Int)) (w' := w7) (by have h9 := HQ1.out; simp only [execOp]; by_cases h8 : (pn : Int) < 1232 <;> (go_simp; omega)) ?_)
      by_cases hn0 : n = 0
      · have hni : ¬ (0 : Int) < (n : Int) := by omega
        go_wp2_with fail
        have HR1 := Lib.hid HO6.out.ok
        have HR2 := Lib.hid (show (Bs.mk P z1 pc (beg.take z1)).ok w7 from ⟨by have h9 := ((HM.out.on HW.out).brow.take (k := z1) (by dsimp only; omega)); rw [Nat.mul_one] at h9; rw [bv_take]; exact h9, by show z1 ≤ pc; omega, hbcm⟩)
        have HR3 := Lib.hid (ok_nil w7)
        have HR4 := Lib.hid (ok_nil w7)
        have HWZ := Lib.hid HW.out.size
        obtain ⟨wz, hwz⟩ : ∃ wz, wz = w7 := ⟨_, rfl⟩
        subst hwz
        obtain ⟨BB, hBB⟩ : ∃ BB, ([[f, 0, 0, 0] ++ toBe 4 mt.toNat, beg.take z1, [], []] : List (List UInt8)).flatten = BB := ⟨_, rfl⟩
        have hBE : BB = front24 (q : Int) ++ [0, 0] ++ rest24 ⟨(q : Int), mt, beg, A, n, c, st⟩ := by
          rw [← hBB, HFR.out]
          subst hn0
          unfold rest24 four24 ext23 begin24
          simp only [if_true, Nat.lt_irrefl, decide_false, Bool.false_eq_true, if_false]
          rw [HQ1.out, take_min beg pn 1232 HBL.out]
          simp
        have HBB := Lib.hid hBB
        obtain ⟨Y, hY⟩ : ∃ Y, body24 ⟨(q : Int), mt, beg, A, n, c, st⟩ src dst = Y := ⟨_, rfl⟩
        have HY := Lib.hid (show wholeF src dst BB = Y by rw [hBE, ← hY]; exact whole_body ⟨(q : Int), mt, beg, A, n, c, st⟩ src dst)
        have HPR := Lib.hid (show put6 (head24 src dst) Y = R by rw [← hY]; exact HP24.out.symm)
        obtain ⟨N, hN⟩ : ∃ N, BB.length = N := ⟨_, rfl⟩
        have hN4 : 4 ≤ N := by rw [← hN, hBE]; simp only [List.length_append, front24_length, List.length_cons, List.length_nil]; omega
        have hNm : N ≤ 65000 := by have h9 := rest24_le ⟨(q : Int), mt, beg, A, n, c, st⟩; rw [← hN, hBE]; simp only [List.length_append, front24_length, List.length_cons, List.length_nil]; omega
        have HN := Lib.hid hN
        clear hBB hBE hY hN
        refine wp_region_rel (fun A B => A.grownBy B none) (fun A => grown_refl A _) (fun A B C h k => grown_trans h k) (relAt (List.cons (fun v _ => v = .agg (bv src).toArray) (List.cons (fun v _ => v = .agg (bv dst).toArray) (List.cons (fun v _ => v = .agg (head24 src dst).cells.toArray) (List.cons (fun v _ => v = .agg (bv src).toArray) (List.cons (fun v _ => v = .agg (bv dst).toArray) (List.cons (fun v _ => v = .slice (some ⟨g6, 0, none⟩) 8 c6) (List.cons (fun v _ => v = .slice P z1 pc) (List.cons (fun v _ => v = .slice none 0 0) (List.cons (fun v _ => v = .slice none 0 0) (List.cons (RowsR [([f, 0, 0, 0] ++ toBe 4 mt.toNat), beg.take z1, [], []]) (List.cons (fun v W => ∃ A' c', v = .slice A' N c' ∧ Own W wz.heap.size 5 1 A' N c' (bv Y)) (List.cons (fun v W => ∃ A' n' c', v = .tuple #[.slice A' n' c', .int .i64 R.2] ∧ Own W wz.heap.size 5 1 A' n' c' (bv R.1)) (List.cons (fun v W => ∃ A' n' c', v = .slice A' n' c' ∧ Own W wz.heap.size 5 1 A' n' c' (bv R.1)) (List.cons (fun v _ => v = .int .i64 R.2) (List.cons (fun v W => ∃ A' n' c', v = .slice A' n' c' ∧ Own W wz.heap.size 5 1 A' n' c' (bv R.1)) (List.cons (fun v _ => v = .int .i64 R.2) ([])))))))))))))))))) (MonoL.at_ (.cons (mono_val _) (.cons (mono_val _) (.cons (mono_val _) (.cons (mono_val _) (.cons (mono_val _) (.cons (mono_val _) (.cons (mono_val _) (.cons (mono_val _) (.cons (mono_val _) (.cons (mono_rows _) (.cons (fun _ _ _ ⟨X, c, hv, h⟩ hg => ⟨X, c, hv, h.below (grow_below hg)⟩) (.cons (fun _ _ _ ⟨X, n, c, hv, h⟩ hg => ⟨X, n, c, hv, h.below (grow_below hg)⟩) (.cons (fun _ _ _ ⟨X, n, c, hv, h⟩ hg => ⟨X, n, c, hv, h.below (grow_below hg)⟩) (.cons (mono_val _) (.cons (fun _ _ _ ⟨X, n, c, hv, h⟩ hg => ⟨X, n, c, hv, h.below (grow_below hg)⟩) (.cons (mono_val _) .nil))))))))))))))))) (by kernel_rfl) (by kernel_rfl) ⟨?_, ?_, ?_, ?_, ?_, ?_, ?_, ?_, ?_, ?_, ?_, ?_, ?_, ?_, ?_, ?_, trivial⟩ ?_
        · intro a vs W hX hR he hf K hK
          rw [if_pos (wanted_none rfl)]
          have e4 : a.eval (.tmp 4) = .pointer (some ⟨g0 + 1, 0, none⟩) := hf 4 (by kernel_rfl)
          have hbW := bthen (below_drew _) (grow_below hX)
          exact wp_value (exec_load _ _ rfl (g0 + 1) e4 26 (bv src) _ (HS.out.on hbW) Tryd.underlying26 rfl (size24 src HSL.out)) (hK _ _ rfl (grown_refl W _))
        · intro a vs W hX hR he hf K hK
          rw [if_pos (wanted_none rfl)]
          have e5 : a.eval (.tmp 5) = .pointer (some ⟨g0 + 1 + 1, 0, none⟩) := hf 5 (by kernel_rfl)
          have hbW := bthen (below_drew _) (grow_below hX)
          exact wp_value (exec_load _ _ rfl (g0 + 1 + 1) e5 26 (bv dst) _ (HD.out.on hbW) Tryd.underlying26 rfl (size24 dst HDL.out)) (hK _ _ rfl (grown_refl W _))
        · intro a vs W hX hR he hf K hK
          rw [if_pos (wanted_none rfl)]
          have e62 : a.eval (.tmp 62) = .agg (bv src).toArray := (he 0 62 (by kernel_rfl) rfl).trans (hR 0 (by kernel_rfl))
          have e63 : a.eval (.tmp 63) = .agg (bv dst).toArray := (he 1 63 (by kernel_rfl) rfl).trans (hR 1 (by kernel_rfl))
          have f62 := e62
          simp only [Act.eval, Array.getD_eq_getD_getElem?] at f62
          have f63 := e63
          simp only [Act.eval, Array.getD_eq_getD_getElem?] at f63
          exact wp_value (exec_build24 _ _ rfl src dst HSL.out HDL.out e62 e63) (hK _ _ rfl (grown_refl W _))
        · intro a vs W hX hR he hf K hK
          rw [if_pos (wanted_none rfl)]
          have e4 : a.eval (.tmp 4) = .pointer (some ⟨g0 + 1, 0, none⟩) := hf 4 (by kernel_rfl)
          have hbW := bthen (below_drew _) (grow_below hX)
          exact wp_value (exec_load _ _ rfl (g0 + 1) e4 26 (bv src) _ (HS.out.on hbW) Tryd.underlying26 rfl (size24 src HSL.out)) (hK _ _ rfl (grown_refl W _))
        · intro a vs W hX hR he hf K hK
          rw [if_pos (wanted_none rfl)]
          have e5 : a.eval (.tmp 5) = .pointer (some ⟨g0 + 1 + 1, 0, none⟩) := hf 5 (by kernel_rfl)
          have hbW := bthen (below_drew _) (grow_below hX)
          exact wp_value (exec_load _ _ rfl (g0 + 1 + 1) e5 26 (bv dst) _ (HD.out.on hbW) Tryd.underlying26 rfl (size24 dst HDL.out)) (hK _ _ rfl (grown_refl W _))
        · intro a vs W hX hR he hf K hK
          rw [if_pos (wanted_none rfl)]
          have e10 : a.eval (.tmp 10) = .slice (some ⟨g6, 0, none⟩) 8 c6 := hf 10 (by kernel_rfl)
          refine wp_value (v := .slice (some ⟨g6, 0, none⟩) 8 c6) ?_ (hK _ _ rfl (grown_refl W _))
          simp only [execOp, e10]
          try go_simp
          try (first | rfl | omega | (simp only [IntKind.wrap_i64, IntKind.wrap_u8, IntKind.wrap_u64, IntKind.wrap_u16, IntKind.wrap_u32]; omega) | (rw [Int.tmod_eq_emod_of_nonneg (by omega)]) | (rw [Int.tmod_eq_emod_of_nonneg (by omega)]; omega))
        · intro a vs W hX hR he hf K hK
          rw [if_pos (wanted_none rfl)]
          have e12 : a.eval (.tmp 12) = .slice P z1 pc := hf 12 (by kernel_rfl)
          refine wp_value (v := .slice P z1 pc) ?_ (hK _ _ rfl (grown_refl W _))
          simp only [execOp, e12]
          try go_simp
          try (first | rfl | omega | (simp only [IntKind.wrap_i64, IntKind.wrap_u8, IntKind.wrap_u64, IntKind.wrap_u16, IntKind.wrap_u32]; omega) | (rw [Int.tmod_eq_emod_of_nonneg (by omega)]) | (rw [Int.tmod_eq_emod_of_nonneg (by omega)]; omega))
        · intro a vs W hX hR he hf K hK
          rw [if_pos (wanted_none rfl)]
          have e13 : a.eval (.tmp 13) = .slice none 0 0 := hf 13 (by kernel_rfl)
          refine wp_value (v := .slice none 0 0) ?_ (hK _ _ rfl (grown_refl W _))
          simp only [execOp, e13]
          try go_simp
          try (first | rfl | omega | (simp only [IntKind.wrap_i64, IntKind.wrap_u8, IntKind.wrap_u64, IntKind.wrap_u16, IntKind.wrap_u32]; omega) | (rw [Int.tmod_eq_emod_of_nonneg (by omega)]) | (rw [Int.tmod_eq_emod_of_nonneg (by omega)]; omega))
        · intro a vs W hX hR he hf K hK
          rw [if_pos (wanted_none rfl)]
          have e8 : a.eval (.tmp 8) = .slice none 0 0 := hf 8 (by kernel_rfl)
          refine wp_value (v := .slice none 0 0) ?_ (hK _ _ rfl (grown_refl W _))
          simp only [execOp, e8]
          try go_simp
          try (first | rfl | omega | (simp only [IntKind.wrap_i64, IntKind.wrap_u8, IntKind.wrap_u64, IntKind.wrap_u16, IntKind.wrap_u32]; omega) | (rw [Int.tmod_eq_emod_of_nonneg (by omega)]) | (rw [Int.tmod_eq_emod_of_nonneg (by omega)]; omega))
        · intro a vs W hX hR he hf K hK
          rw [if_pos (wanted_none rfl)]
          have e67 : a.eval (.tmp 67) = .slice (some ⟨g6, 0, none⟩) 8 c6 := (he 5 67 (by kernel_rfl) rfl).trans (hR 5 (by kernel_rfl))
          have e68 : a.eval (.tmp 68) = .slice P z1 pc := (he 6 68 (by kernel_rfl) rfl).trans (hR 6 (by kernel_rfl))
          have e69 : a.eval (.tmp 69) = .slice none 0 0 := (he 7 69 (by kernel_rfl) rfl).trans (hR 7 (by kernel_rfl))
          have e70 : a.eval (.tmp 70) = .slice none 0 0 := (he 8 70 (by kernel_rfl) rfl).trans (hR 8 (by kernel_rfl))
          have f67 := e67
          simp only [Act.eval, Array.getD_eq_getD_getElem?] at f67
          have f68 := e68
          simp only [Act.eval, Array.getD_eq_getD_getElem?] at f68
          have f69 := e69
          simp only [Act.eval, Array.getD_eq_getD_getElem?] at f69
          have f70 := e70
          simp only [Act.eval, Array.getD_eq_getD_getElem?] at f70
          have hbW := bthen (below_drew _) (grow_below hX)
          refine wp_value (v := .slice (some ⟨W.heap.size, 0, none⟩) 4 4) (w' := W.alloc (.cells #[.slice (some ⟨g6, 0, none⟩) 8 c6, .slice P z1 pc, .slice none 0 0, .slice none 0 0] 22)) ?_ (hK _ _ ⟨[⟨some ⟨g6, 0, none⟩, 8, c6, ([f, 0, 0, 0] ++ toBe 4 mt.toNat)⟩, ⟨P, z1, pc, beg.take z1⟩, ⟨none, 0, 0, []⟩, ⟨none, 0, 0, []⟩], _, _, _, rfl, rfl, ?_, ?_⟩ (World.grownBy_alloc _ _ _))
          · simp only [execOp]
            go_simp
          · rw [World.size_alloc]
            exact Row.new (n := 4) (sz := 1) W _ rfl
          · have k := fun r (hr : Bs.ok W r) => hr.below (alloc_below W (.cells #[.slice (some ⟨g6, 0, none⟩) 8 c6, .slice P z1 pc, .slice none 0 0, .slice none 0 0] 22))
            simp only [List.mem_cons, List.not_mem_nil, or_false]
            rintro r (rfl | rfl | rfl | rfl)
            · exact k _ (HR1.out.below hbW)
            · exact k _ (HR2.out.below hbW)
            · exact k _ (HR3.out.below hbW)
            · exact k _ (HR4.out.below hbW)
        · intro a vs W hX hR he hf K hK
          rw [if_pos (wanted_none rfl)]
          have e65 : a.eval (.tmp 65) = .agg (bv src).toArray := (he 3 65 (by kernel_rfl) rfl).trans (hR 3 (by kernel_rfl))
          have e66 : a.eval (.tmp 66) = .agg (bv dst).toArray := (he 4 66 (by kernel_rfl) rfl).trans (hR 4 (by kernel_rfl))
          have e71 := he 9 71 (by kernel_rfl) rfl
          have p71 := hR 9 (by kernel_rfl)
          change (RowsR [([f, 0, 0, 0] ++ toBe 4 mt.toNat), beg.take z1, [], []]) (vs 9) W at p71
          have hbW := bthen (below_drew _) (grow_below hX)
          obtain ⟨rows9, R9, k9, c9, hv, hl, hr, ho⟩ := p71
          rw [hv] at e71
          have hfl : flat rows9 = BB := by rw [flat_map, hl]; exact HBB.out
          have hk4 : k9 ≤ 4 := by have h1 := hr.1; rw [List.length_map] at h1; have h2 := congrArg List.length hl; simp at h2; omega
          refine wp_enter (f := 22) (args := #[.agg (bv src).toArray, .agg (bv dst).toArray, .slice R9 k9 c9]) (by simp only [execOp, e65, e66, e71]; go_simp; exact ⟨by simpa [Act.eval] using e65, by simpa [Act.eval] using e66, by simpa [Act.eval] using e71⟩) ((whole24_any src dst HSL.out HDL.out R9 k9 c9 rows9 W hr ho (by omega) BB hfl N HN.out hN4 hNm).mono ?_)
          rintro e w' ⟨A3, c3, rfl, hown, hb⟩
          rw [HY.out] at hown
          exact ⟨_, rfl, hK _ _ ⟨A3, c3, rfl, hown.mono hbW.size⟩ (below_grow hb _)⟩
        · intro a vs W hX hR he hf K hK
          rw [if_pos (wanted_none rfl)]
          have e64 : a.eval (.tmp 64) = .agg (head24 src dst).cells.toArray := (he 2 64 (by kernel_rfl) rfl).trans (hR 2 (by kernel_rfl))
          have e72 := he 10 72 (by kernel_rfl) rfl
          have p72 := hR 10 (by kernel_rfl)
          change (fun v W => ∃ A' c', v = .slice A' N c' ∧ Own W wz.heap.size 5 1 A' N c' (bv Y)) (vs 10) W at p72
          have hbW := bthen (below_drew _) (grow_below hX)
          obtain ⟨A3, c3, hv, ho⟩ := p72
          rw [hv] at e72
          refine wp_enter (f := 21) (args := #[.agg (head24 src dst).cells.toArray, .slice A3 N c3]) (by simp only [execOp, e64, e72]; go_simp; exact ⟨by simpa [Act.eval] using e64, by simpa [Act.eval] using e72⟩) ((put6_own (head24 src dst) (head24_fit src dst HSL.out HDL.out) A3 N c3 Y W ho.row ho.le ho.cap).mono ?_)
          rintro e w' ⟨r9, rfl, hl9, ho9, hb⟩
          rw [HPR.out] at hl9
          rw [HPR.out, hl9] at *
          exact ⟨_, rfl, hK _ _ ⟨r9.A, r9.n, r9.c, rfl, ho9.mono hbW.size⟩ (below_grow hb _)⟩
        · intro a vs W hX hR he hf K hK
          rw [if_pos (wanted_none rfl)]
          have e73 := he 11 73 (by kernel_rfl) rfl
          have p73 := hR 11 (by kernel_rfl)
          change (fun v W => ∃ A' n' c', v = .tuple #[.slice A' n' c', .int .i64 R.2] ∧ Own W wz.heap.size 5 1 A' n' c' (bv R.1)) (vs 11) W at p73
          obtain ⟨A3, n3, c3, hv, ho⟩ := p73
          rw [hv] at e73
          refine wp_value (v := .slice A3 n3 c3) ?_ (hK _ _ ⟨A3, n3, c3, rfl, ho⟩ (grown_refl W _))
          simp only [execOp, e73]
          try go_simp
        · intro a vs W hX hR he hf K hK
          rw [if_pos (wanted_none rfl)]
          have e73 := he 11 73 (by kernel_rfl) rfl
          have p73 := hR 11 (by kernel_rfl)
          change (fun v W => ∃ A' n' c', v = .tuple #[.slice A' n' c', .int .i64 R.2] ∧ Own W wz.heap.size 5 1 A' n' c' (bv R.1)) (vs 11) W at p73
          obtain ⟨A3, n3, c3, hv, ho⟩ := p73
          rw [hv] at e73
          refine wp_value (v := .int .i64 R.2) ?_ (hK _ _ rfl (grown_refl W _))
          simp only [execOp, e73]
          try go_simp
        · intro a vs W hX hR he hf K hK
          rw [if_pos (wanted_none rfl)]
          have e74 := he 12 74 (by kernel_rfl) rfl
          have p74 := hR 12 (by kernel_rfl)
          change (fun v W => ∃ A' n' c', v = .slice A' n' c' ∧ Own W wz.heap.size 5 1 A' n' c' (bv R.1)) (vs 12) W at p74
          refine wp_value (v := _) ?_ (hK _ _ p74 (grown_refl W _))
          simp only [execOp, e74]
          try go_simp
        · intro a vs W hX hR he hf K hK
          rw [if_pos (wanted_none rfl)]
          have e75 : a.eval (.tmp 75) = .int .i64 R.2 := (he 13 75 (by kernel_rfl) rfl).trans (hR 13 (by kernel_rfl))
          refine wp_value (v := .int .i64 R.2) ?_ (hK _ _ rfl (grown_refl W _))
          simp only [execOp, e75]
          try go_simp
          try (first | rfl | omega | (simp only [IntKind.wrap_i64, IntKind.wrap_u8, IntKind.wrap_u64, IntKind.wrap_u16, IntKind.wrap_u32]; omega) | (rw [Int.tmod_eq_emod_of_nonneg (by omega)]) | (rw [Int.tmod_eq_emod_of_nonneg (by omega)]; omega))
        · intro vs W3 hX3 hR
          have q0 := hR 0 (by decide)
          have q1 := hR 1 (by decide)
          have q2 := hR 2 (by decide)
          have q3 := hR 3 (by decide)
          have q4 := hR 4 (by decide)
          have q5 := hR 5 (by decide)
          have q6 := hR 6 (by decide)
          have q7 := hR 7 (by decide)
          have q8 := hR 8 (by decide)
          have q9 := hR 9 (by decide)
          have q10 := hR 10 (by decide)
          have q11 := hR 11 (by decide)
          have q12 := hR 12 (by decide)
          have q13 := hR 13 (by decide)
          have q14 := hR 14 (by decide)
          have q15 := hR 15 (by decide)
          change vs 0 = .agg (bv src).toArray at q0
          change vs 1 = .agg (bv dst).toArray at q1
          change vs 2 = .agg (head24 src dst).cells.toArray at q2
          change vs 3 = .agg (bv src).toArray at q3
          change vs 4 = .agg (bv dst).toArray at q4
          change vs 5 = .slice (some ⟨g6, 0, none⟩) 8 c6 at q5
          change vs 6 = .slice P z1 pc at q6
          change vs 7 = .slice none 0 0 at q7
          change vs 8 = .slice none 0 0 at q8
          change (RowsR [([f, 0, 0, 0] ++ toBe 4 mt.toNat), beg.take z1, [], []]) (vs 9) W3 at q9
          change (fun v W => ∃ A' c', v = .slice A' N c' ∧ Own W wz.heap.size 5 1 A' N c' (bv Y)) (vs 10) W3 at q10
          change (fun v W => ∃ A' n' c', v = .tuple #[.slice A' n' c', .int .i64 R.2] ∧ Own W wz.heap.size 5 1 A' n' c' (bv R.1)) (vs 11) W3 at q11
          change (fun v W => ∃ A' n' c', v = .slice A' n' c' ∧ Own W wz.heap.size 5 1 A' n' c' (bv R.1)) (vs 12) W3 at q12
          change vs 13 = .int .i64 R.2 at q13
          change (fun v W => ∃ A' n' c', v = .slice A' n' c' ∧ Own W wz.heap.size 5 1 A' n' c' (bv R.1)) (vs 14) W3 at q14
          change vs 15 = .int .i64 R.2 at q15
          simp only [putAll, Act.put, List.setIfInBounds_toArray, List.set_cons_zero, List.set_cons_succ, q0, q1, q2, q3, q4, q5, q6, q7, q8, q13, q15]
          clear q0 q1 q2 q3 q4 q5 q6 q7 q8 q13 q15
          clear hR
          obtain ⟨A9, n9, c9, hv9, ho9⟩ := q14
          rw [hv9]
          have hbW := bthen (below_drew _) (grow_below hX3)
          have HO9 := Lib.hid ho9
          replace HW := Lib.hid (bthen HW.out hbW)
          clear hbW hX3 ho9
          go_wp2_with fail
          go_ret2
          exact ⟨A9, n9, c9, rfl, HO9.out.mono HWZ.out, HW.out⟩
      · have hni : (0 : Int) < (n : Int) := by omega
        have hmt : mt = 0 := HMZ.out (fun h => hn0 (HNZ.out h))
        subst hmt
        have hcc4 : w7.cell? ⟨g6, 4, none⟩ = some (.int .u8 0) := by
          obtain ⟨g9, hA9, _, _, hcl9, _⟩ := HO6.out.open_ (by omega)
          injection hA9 with hA9
          injection hA9 with hA9
          subst hA9
          exact hcl9 4 _ rfl
        have hcf4 : w7.frozen? ⟨g6, 4, none⟩ = false := by
          obtain ⟨g9, hA9, _, _, _, hfr9⟩ := HO6.out.open_ (by omega)
          injection hA9 with hA9
          injection hA9 with hA9
          subst hA9
          exact hfr9 4
        obtain ⟨z2, hz2d⟩ : ∃ z2, z2 = min z1 128 := ⟨_, rfl⟩
        have hz2a : z2 ≤ z1 := by omega
        have hz2b : z2 ≤ 128 := by omega
        have hz2c : (z2 : Int) ≤ (pc : Int) := by omega
        have HQ2 := Lib.hid hz2d
        obtain ⟨fn, hfnd⟩ : ∃ fn, fn = 128 - z2 := ⟨_, rfl⟩
        have hfn : (128 : Int) - (z2 : Int) = (fn : Int) := by omega
        have HFN := Lib.hid hfnd
        have hfn2 : fn ≤ 1000 := by omega
        clear hz2d hfnd
        go_upto_region 11 with fail
        obtain ⟨w8, hw8⟩ : ∃ w8, w8 = w7.setCell ⟨g6, 4, none⟩ (.int .u8 16) := ⟨_, rfl⟩
        rw [← hw8]
        have hb8 : Below g0 w7 w8 := by rw [hw8]; exact (Below.refl g0 w7).setCell (p := ⟨g6, 4, none⟩) (by simp only; omega) _
        replace HS := Lib.hid (show Blk w8 (g0 + 1) _ _ by rw [hw8]; exact HS.out.far (by simp only; omega) _)
        replace HD := Lib.hid (show Blk w8 (g0 + 1 + 1) _ _ by rw [hw8]; exact HD.out.far (by simp only; omega) _)
        replace HX := Lib.hid (show Own w8 _ 5 1 A5 k c5 _ by rw [hw8]; exact own_far HX.out N5 HXL.out hg6a 4 _)
        replace HO6 := Lib.hid (show Own w8 N5 5 1 (some ⟨g6, 0, none⟩) 8 c6 (bv [f, 0, 0, 0, 16, 0, 0, 0]) by rw [hw8]; exact HO6.out.set (j := 4) (by omega) (.int .u8 16))
        replace HW := Lib.hid (show Below w.heap.size w w8 by have h9 := HW.out; rw [HG0.out] at h9 ⊢; exact h9.trans hb8)
        clear hw8 hb8 hcc4 hcf4 hd2 hd3 HK
        obtain ⟨w9, hw9⟩ : ∃ w9, w9 = w8.alloc (.cells (madeCells (Value.int .u8 0).cells (fn * 1)) 5) := ⟨_, rfl⟩
        have HW9 := Lib.hid hw9
        clear hw9
        have hN58 : N5 ≤ w8.heap.size := by have h9 := HO6.out.lt g6 (by unfold blk; rw [if_neg (by have := HO6.out.le; omega)]; rfl); omega
        go_wp2_with (first
          | (refine wpList_value (o := ⟨some 56, _, _, _, _, _⟩) (by rfl) (v := .int .i64 (z2 : Int)) (w' := w8) (by have h9 := HQ2.out; simp only [execOp]; by_cases h8 : (z1 : Int) < 128 <;> (go_simp; omega)) ?_)
          | (refine wpList_value (o := ⟨some 61, _, _, _, _, _⟩) (by rfl) (v := .slice (some ⟨w8.heap.size, 0, none⟩) fn fn) (w' := w9) (by rw [HW9.out]; exact exec_makeN _ _ rfl fn hfn2 rfl rfl) ?_))
        have HZ := Lib.hid (own_zeros w8 N5 fn hN58 hfn2)
        have hb9 := alloc_below w8 (.cells (madeCells (Value.int .u8 0).cells (fn * 1)) 5)
        rw [← HW9.out] at HZ hb9
        obtain ⟨F9, hF9⟩ : ∃ F9, F9 = (some ⟨w8.heap.size, 0, none⟩ : Option Addr) := ⟨_, rfl⟩
        rw [← hF9] at HZ ⊢
        replace HS := Lib.hid (HS.out.on hb9)
        replace HD := Lib.hid (HD.out.on hb9)
        replace HX := Lib.hid (HX.out.below hb9)
        replace HO6 := Lib.hid (HO6.out.below hb9)
        replace HW := Lib.hid (bthen HW.out hb9)
        clear hF9 hb9
        have HR1 := Lib.hid HO6.out.ok
        have HR2 := Lib.hid (show (Bs.mk P z2 pc (beg.take z2)).ok w9 from ⟨by have h9 := ((HM.out.on HW.out).brow.take (k := z2) (by dsimp only; omega)); rw [Nat.mul_one] at h9; rw [bv_take]; exact h9, by show z2 ≤ pc; omega, hbcm⟩)
        have HR3 := Lib.hid HZ.out.ok
        have HR4 := Lib.hid HX.out.ok
        have HWZ := Lib.hid HW.out.size
        obtain ⟨wz, hwz⟩ : ∃ wz, wz = w9 := ⟨_, rfl⟩
        subst hwz
        obtain ⟨BB, hBB⟩ : ∃ BB, ([[f, 0, 0, 0, 16, 0, 0, 0], beg.take z2, zerosN fn, T] : List (List UInt8)).flatten = BB := ⟨_, rfl⟩
        have hBE : BB = front24 (q : Int) ++ [0, 0] ++ rest24 ⟨(q : Int), 0, beg, A, n, c, st⟩ := by
          rw [← hBB, HFR.out]
          unfold rest24 four24 ext23
          simp only [if_neg hn0, decide_eq_true (Nat.pos_of_ne_zero hn0)]
          rw [← begin_full beg pn z1 z2 fn HBL.out HQ1.out HQ2.out HFN.out, HTT.out]
          simp
        have HBB := Lib.hid hBB
        obtain ⟨Y, hY⟩ : ∃ Y, body24 ⟨(q : Int), 0, beg, A, n, c, st⟩ src dst = Y := ⟨_, rfl⟩
        have HY := Lib.hid (show wholeF src dst BB = Y by rw [hBE, ← hY]; exact whole_body ⟨(q : Int), 0, beg, A, n, c, st⟩ src dst)
        have HPR := Lib.hid (show put6 (head24 src dst) Y = R by rw [← hY]; exact HP24.out.symm)
        obtain ⟨N, hN⟩ : ∃ N, BB.length = N := ⟨_, rfl⟩
        have hN4 : 4 ≤ N := by rw [← hN, hBE]; simp only [List.length_append, front24_length, List.length_cons, List.length_nil]; omega
        have hNm : N ≤ 65000 := by have h9 := rest24_le ⟨(q : Int), 0, beg, A, n, c, st⟩; rw [← hN, hBE]; simp only [List.length_append, front24_length, List.length_cons, List.length_nil]; omega
        have HN := Lib.hid hN
        clear hBB hBE hY hN
        refine wp_region_rel (fun A B => A.grownBy B none) (fun A => grown_refl A _) (fun A B C h k => grown_trans h k) (relAt (List.cons (fun v _ => v = .agg (bv src).toArray) (List.cons (fun v _ => v = .agg (bv dst).toArray) (List.cons (fun v _ => v = .agg (head24 src dst).cells.toArray) (List.cons (fun v _ => v = .agg (bv src).toArray) (List.cons (fun v _ => v = .agg (bv dst).toArray) (List.cons (fun v _ => v = .slice (some ⟨g6, 0, none⟩) 8 c6) (List.cons (fun v _ => v = .slice P z2 pc) (List.cons (fun v _ => v = .slice F9 fn fn) (List.cons (fun v _ => v = .slice A5 k c5) (List.cons (RowsR [[f, 0, 0, 0, 16, 0, 0, 0], beg.take z2, zerosN fn, T]) (List.cons (fun v W => ∃ A' c', v = .slice A' N c' ∧ Own W wz.heap.size 5 1 A' N c' (bv Y)) (List.cons (fun v W => ∃ A' n' c', v = .tuple #[.slice A' n' c', .int .i64 R.2] ∧ Own W wz.heap.size 5 1 A' n' c' (bv R.1)) (List.cons (fun v W => ∃ A' n' c', v = .slice A' n' c' ∧ Own W wz.heap.size 5 1 A' n' c' (bv R.1)) (List.cons (fun v _ => v = .int .i64 R.2) (List.cons (fun v W => ∃ A' n' c', v = .slice A' n' c' ∧ Own W wz.heap.size 5 1 A' n' c' (bv R.1)) (List.cons (fun v _ => v = .int .i64 R.2) ([])))))))))))))))))) (MonoL.at_ (.cons (mono_val _) (.cons (mono_val _) (.cons (mono_val _) (.cons (mono_val _) (.cons (mono_val _) (.cons (mono_val _) (.cons (mono_val _) (.cons (mono_val _) (.cons (mono_val _) (.cons (mono_rows _) (.cons (fun _ _ _ ⟨X, c, hv, h⟩ hg => ⟨X, c, hv, h.below (grow_below hg)⟩) (.cons (fun _ _ _ ⟨X, n, c, hv, h⟩ hg => ⟨X, n, c, hv, h.below (grow_below hg)⟩) (.cons (fun _ _ _ ⟨X, n, c, hv, h⟩ hg => ⟨X, n, c, hv, h.below (grow_below hg)⟩) (.cons (mono_val _) (.cons (fun _ _ _ ⟨X, n, c, hv, h⟩ hg => ⟨X, n, c, hv, h.below (grow_below hg)⟩) (.cons (mono_val _) .nil))))))))))))))))) (by kernel_rfl) (by kernel_rfl) ⟨?_, ?_, ?_, ?_, ?_, ?_, ?_, ?_, ?_, ?_, ?_, ?_, ?_, ?_, ?_, ?_, trivial⟩ ?_
        · intro a vs W hX hR he hf K hK
          rw [if_pos (wanted_none rfl)]
          have e4 : a.eval (.tmp 4) = .pointer (some ⟨g0 + 1, 0, none⟩) := hf 4 (by kernel_rfl)
          have hbW := bthen (below_drew _) (grow_below hX)
          exact wp_value (exec_load _ _ rfl (g0 + 1) e4 26 (bv src) _ (HS.out.on hbW) Tryd.underlying26 rfl (size24 src HSL.out)) (hK _ _ rfl (grown_refl W _))
        · intro a vs W hX hR he hf K hK
          rw [if_pos (wanted_none rfl)]
          have e5 : a.eval (.tmp 5) = .pointer (some ⟨g0 + 1 + 1, 0, none⟩) := hf 5 (by kernel_rfl)
          have hbW := bthen (below_drew _) (grow_below hX)
          exact wp_value (exec_load _ _ rfl (g0 + 1 + 1) e5 26 (bv dst) _ (HD.out.on hbW) Tryd.underlying26 rfl (size24 dst HDL.out)) (hK _ _ rfl (grown_refl W _))
        · intro a vs W hX hR he hf K hK
          rw [if_pos (wanted_none rfl)]
          have e62 : a.eval (.tmp 62) = .agg (bv src).toArray := (he 0 62 (by kernel_rfl) rfl).trans (hR 0 (by kernel_rfl))
          have e63 : a.eval (.tmp 63) = .agg (bv dst).toArray := (he 1 63 (by kernel_rfl) rfl).trans (hR 1 (by kernel_rfl))
          have f62 := e62
          simp only [Act.eval, Array.getD_eq_getD_getElem?] at f62
          have f63 := e63
          simp only [Act.eval, Array.getD_eq_getD_getElem?] at f63
          exact wp_value (exec_build24 _ _ rfl src dst HSL.out HDL.out e62 e63) (hK _ _ rfl (grown_refl W _))
        · intro a vs W hX hR he hf K hK
          rw [if_pos (wanted_none rfl)]
          have e4 : a.eval (.tmp 4) = .pointer (some ⟨g0 + 1, 0, none⟩) := hf 4 (by kernel_rfl)
          have hbW := bthen (below_drew _) (grow_below hX)
          exact wp_value (exec_load _ _ rfl (g0 + 1) e4 26 (bv src) _ (HS.out.on hbW) Tryd.underlying26 rfl (size24 src HSL.out)) (hK _ _ rfl (grown_refl W _))
        · intro a vs W hX hR he hf K hK
          rw [if_pos (wanted_none rfl)]
          have e5 : a.eval (.tmp 5) = .pointer (some ⟨g0 + 1 + 1, 0, none⟩) := hf 5 (by kernel_rfl)
          have hbW := bthen (below_drew _) (grow_below hX)
          exact wp_value (exec_load _ _ rfl (g0 + 1 + 1) e5 26 (bv dst) _ (HD.out.on hbW) Tryd.underlying26 rfl (size24 dst HDL.out)) (hK _ _ rfl (grown_refl W _))
        · intro a vs W hX hR he hf K hK
          rw [if_pos (wanted_none rfl)]
          have e10 : a.eval (.tmp 10) = .slice (some ⟨g6, 0, none⟩) 8 c6 := hf 10 (by kernel_rfl)
          refine wp_value (v := .slice (some ⟨g6, 0, none⟩) 8 c6) ?_ (hK _ _ rfl (grown_refl W _))
          simp only [execOp, e10]
          try go_simp
          try (first | rfl | omega | (simp only [IntKind.wrap_i64, IntKind.wrap_u8, IntKind.wrap_u64, IntKind.wrap_u16, IntKind.wrap_u32]; omega) | (rw [Int.tmod_eq_emod_of_nonneg (by omega)]) | (rw [Int.tmod_eq_emod_of_nonneg (by omega)]; omega))
        · intro a vs W hX hR he hf K hK
          rw [if_pos (wanted_none rfl)]
          have e12 : a.eval (.tmp 12) = .slice P z2 pc := hf 12 (by kernel_rfl)
          refine wp_value (v := .slice P z2 pc) ?_ (hK _ _ rfl (grown_refl W _))
          simp only [execOp, e12]
          try go_simp
          try (first | rfl | omega | (simp only [IntKind.wrap_i64, IntKind.wrap_u8, IntKind.wrap_u64, IntKind.wrap_u16, IntKind.wrap_u32]; omega) | (rw [Int.tmod_eq_emod_of_nonneg (by omega)]) | (rw [Int.tmod_eq_emod_of_nonneg (by omega)]; omega))
        · intro a vs W hX hR he hf K hK
          rw [if_pos (wanted_none rfl)]
          have e13 : a.eval (.tmp 13) = .slice F9 fn fn := hf 13 (by kernel_rfl)
          refine wp_value (v := .slice F9 fn fn) ?_ (hK _ _ rfl (grown_refl W _))
          simp only [execOp, e13]
          try go_simp
          try (first | rfl | omega | (simp only [IntKind.wrap_i64, IntKind.wrap_u8, IntKind.wrap_u64, IntKind.wrap_u16, IntKind.wrap_u32]; omega) | (rw [Int.tmod_eq_emod_of_nonneg (by omega)]) | (rw [Int.tmod_eq_emod_of_nonneg (by omega)]; omega))
        · intro a vs W hX hR he hf K hK
          rw [if_pos (wanted_none rfl)]
          have e8 : a.eval (.tmp 8) = .slice A5 k c5 := hf 8 (by kernel_rfl)
          refine wp_value (v := .slice A5 k c5) ?_ (hK _ _ rfl (grown_refl W _))
          simp only [execOp, e8]
          try go_simp
          try (first | rfl | omega | (simp only [IntKind.wrap_i64, IntKind.wrap_u8, IntKind.wrap_u64, IntKind.wrap_u16, IntKind.wrap_u32]; omega) | (rw [Int.tmod_eq_emod_of_nonneg (by omega)]) | (rw [Int.tmod_eq_emod_of_nonneg (by omega)]; omega))
        · intro a vs W hX hR he hf K hK
          rw [if_pos (wanted_none rfl)]
          have e67 : a.eval (.tmp 67) = .slice (some ⟨g6, 0, none⟩) 8 c6 := (he 5 67 (by kernel_rfl) rfl).trans (hR 5 (by kernel_rfl))
          have e68 : a.eval (.tmp 68) = .slice P z2 pc := (he 6 68 (by kernel_rfl) rfl).trans (hR 6 (by kernel_rfl))
          have e69 : a.eval (.tmp 69) = .slice F9 fn fn := (he 7 69 (by kernel_rfl) rfl).trans (hR 7 (by kernel_rfl))
          have e70 : a.eval (.tmp 70) = .slice A5 k c5 := (he 8 70 (by kernel_rfl) rfl).trans (hR 8 (by kernel_rfl))
          have f67 := e67
          simp only [Act.eval, Array.getD_eq_getD_getElem?] at f67
          have f68 := e68
          simp only [Act.eval, Array.getD_eq_getD_getElem?] at f68
          have f69 := e69
          simp only [Act.eval, Array.getD_eq_getD_getElem?] at f69
          have f70 := e70
          simp only [Act.eval, Array.getD_eq_getD_getElem?] at f70
          have hbW := bthen (below_drew _) (grow_below hX)
          refine wp_value (v := .slice (some ⟨W.heap.size, 0, none⟩) 4 4) (w' := W.alloc (.cells #[.slice (some ⟨g6, 0, none⟩) 8 c6, .slice P z2 pc, .slice F9 fn fn, .slice A5 k c5] 22)) ?_ (hK _ _ ⟨[⟨some ⟨g6, 0, none⟩, 8, c6, [f, 0, 0, 0, 16, 0, 0, 0]⟩, ⟨P, z2, pc, beg.take z2⟩, ⟨F9, fn, fn, zerosN fn⟩, ⟨A5, k, c5, T⟩], _, _, _, rfl, rfl, ?_, ?_⟩ (World.grownBy_alloc _ _ _))
          · simp only [execOp]
            go_simp
          · rw [World.size_alloc]
            exact Row.new (n := 4) (sz := 1) W _ rfl
          · have k := fun r (hr : Bs.ok W r) => hr.below (alloc_below W (.cells #[.slice (some ⟨g6, 0, none⟩) 8 c6, .slice P z2 pc, .slice F9 fn fn, .slice A5 k c5] 22))
            simp only [List.mem_cons, List.not_mem_nil, or_false]
            rintro r (rfl | rfl | rfl | rfl)
            · exact k _ (HR1.out.below hbW)
            · exact k _ (HR2.out.below hbW)
            · exact k _ (HR3.out.below hbW)
            · exact k _ (HR4.out.below hbW)
        · intro a vs W hX hR he hf K hK
          rw [if_pos (wanted_none rfl)]
          have e65 : a.eval (.tmp 65) = .agg (bv src).toArray := (he 3 65 (by kernel_rfl) rfl).trans (hR 3 (by kernel_rfl))
          have e66 : a.eval (.tmp 66) = .agg (bv dst).toArray := (he 4 66 (by kernel_rfl) rfl).trans (hR 4 (by kernel_rfl))
          have e71 := he 9 71 (by kernel_rfl) rfl
          have p71 := hR 9 (by kernel_rfl)
          change (RowsR [[f, 0, 0, 0, 16, 0, 0, 0], beg.take z2, zerosN fn, T]) (vs 9) W at p71
          have hbW := bthen (below_drew _) (grow_below hX)
          obtain ⟨rows9, R9, k9, c9, hv, hl, hr, ho⟩ := p71
          rw [hv] at e71
          have hfl : flat rows9 = BB := by rw [flat_map, hl]; exact HBB.out
          have hk4 : k9 ≤ 4 := by have h1 := hr.1; rw [List.length_map] at h1; have h2 := congrArg List.length hl; simp at h2; omega
          refine wp_enter (f := 22) (args := #[.agg (bv src).toArray, .agg (bv dst).toArray, .slice R9 k9 c9]) (by simp only [execOp, e65, e66, e71]; go_simp; exact ⟨by simpa [Act.eval] using e65, by simpa [Act.eval] using e66, by simpa [Act.eval] using e71⟩) ((whole24_any src dst HSL.out HDL.out R9 k9 c9 rows9 W hr ho (by omega) BB hfl N HN.out hN4 hNm).mono ?_)
          rintro e w' ⟨A3, c3, rfl, hown, hb⟩
          rw [HY.out] at hown
          exact ⟨_, rfl, hK _ _ ⟨A3, c3, rfl, hown.mono hbW.size⟩ (below_grow hb _)⟩
        · intro a vs W hX hR he hf K hK
          rw [if_pos (wanted_none rfl)]
          have e64 : a.eval (.tmp 64) = .agg (head24 src dst).cells.toArray := (he 2 64 (by kernel_rfl) rfl).trans (hR 2 (by kernel_rfl))
          have e72 := he 10 72 (by kernel_rfl) rfl
          have p72 := hR 10 (by kernel_rfl)
          change (fun v W => ∃ A' c', v = .slice A' N c' ∧ Own W wz.heap.size 5 1 A' N c' (bv Y)) (vs 10) W at p72
          have hbW := bthen (below_drew _) (grow_below hX)
          obtain ⟨A3, c3, hv, ho⟩ := p72
          rw [hv] at e72
          refine wp_enter (f := 21) (args := #[.agg (head24 src dst).cells.toArray, .slice A3 N c3]) (by simp only [execOp, e64, e72]; go_simp; exact ⟨by simpa [Act.eval] using e64, by simpa [Act.eval] using e72⟩) ((put6_own (head24 src dst) (head24_fit src dst HSL.out HDL.out) A3 N c3 Y W ho.row ho.le ho.cap).mono ?_)
          rintro e w' ⟨r9, rfl, hl9, ho9, hb⟩
          rw [HPR.out] at hl9
          rw [HPR.out, hl9] at *
          exact ⟨_, rfl, hK _ _ ⟨r9.A, r9.n, r9.c, rfl, ho9.mono hbW.size⟩ (below_grow hb _)⟩
        · intro a vs W hX hR he hf K hK
          rw [if_pos (wanted_none rfl)]
          have e73 := he 11 73 (by kernel_rfl) rfl
          have p73 := hR 11 (by kernel_rfl)
          change (fun v W => ∃ A' n' c', v = .tuple #[.slice A' n' c', .int .i64 R.2] ∧ Own W wz.heap.size 5 1 A' n' c' (bv R.1)) (vs 11) W at p73
          obtain ⟨A3, n3, c3, hv, ho⟩ := p73
          rw [hv] at e73
          refine wp_value (v := .slice A3 n3 c3) ?_ (hK _ _ ⟨A3, n3, c3, rfl, ho⟩ (grown_refl W _))
          simp only [execOp, e73]
          try go_simp
        · intro a vs W hX hR he hf K hK
          rw [if_pos (wanted_none rfl)]
          have e73 := he 11 73 (by kernel_rfl) rfl
          have p73 := hR 11 (by kernel_rfl)
          change (fun v W => ∃ A' n' c', v = .tuple #[.slice A' n' c', .int .i64 R.2] ∧ Own W wz.heap.size 5 1 A' n' c' (bv R.1)) (vs 11) W at p73
          obtain ⟨A3, n3, c3, hv, ho⟩ := p73
          rw [hv] at e73
          refine wp_value (v := .int .i64 R.2) ?_ (hK _ _ rfl (grown_refl W _))
          simp only [execOp, e73]
          try go_simp
        · intro a vs W hX hR he hf K hK
          rw [if_pos (wanted_none rfl)]
          have e74 := he 12 74 (by kernel_rfl) rfl
          have p74 := hR 12 (by kernel_rfl)
          change (fun v W => ∃ A' n' c', v = .slice A' n' c' ∧ Own W wz.heap.size 5 1 A' n' c' (bv R.1)) (vs 12) W at p74
          refine wp_value (v := _) ?_ (hK _ _ p74 (grown_refl W _))
          simp only [execOp, e74]
          try go_simp
        · intro a vs W hX hR he hf K hK
          rw [if_pos (wanted_none rfl)]
          have e75 : a.eval (.tmp 75) = .int .i64 R.2 := (he 13 75 (by kernel_rfl) rfl).trans (hR 13 (by kernel_rfl))
          refine wp_value (v := .int .i64 R.2) ?_ (hK _ _ rfl (grown_refl W _))
          simp only [execOp, e75]
          try go_simp
          try (first | rfl | omega | (simp only [IntKind.wrap_i64, IntKind.wrap_u8, IntKind.wrap_u64, IntKind.wrap_u16, IntKind.wrap_u32]; omega) | (rw [Int.tmod_eq_emod_of_nonneg (by omega)]) | (rw [Int.tmod_eq_emod_of_nonneg (by omega)]; omega))
        · intro vs W3 hX3 hR
          have q0 := hR 0 (by decide)
          have q1 := hR 1 (by decide)
          have q2 := hR 2 (by decide)
          have q3 := hR 3 (by decide)
          have q4 := hR 4 (by decide)
          have q5 := hR 5 (by decide)
          have q6 := hR 6 (by decide)
          have q7 := hR 7 (by decide)
          have q8 := hR 8 (by decide)
          have q9 := hR 9 (by decide)
          have q10 := hR 10 (by decide)
          have q11 := hR 11 (by decide)
          have q12 := hR 12 (by decide)
          have q13 := hR 13 (by decide)
          have q14 := hR 14 (by decide)
          have q15 := hR 15 (by decide)
          change vs 0 = .agg (bv src).toArray at q0
          change vs 1 = .agg (bv dst).toArray at q1
          change vs 2 = .agg (head24 src dst).cells.toArray at q2
          change vs 3 = .agg (bv src).toArray at q3
          change vs 4 = .agg (bv dst).toArray at q4
          change vs 5 = .slice (some ⟨g6, 0, none⟩) 8 c6 at q5
          change vs 6 = .slice P z2 pc at q6
          change vs 7 = .slice F9 fn fn at q7
          change vs 8 = .slice A5 k c5 at q8
          change (RowsR [[f, 0, 0, 0, 16, 0, 0, 0], beg.take z2, zerosN fn, T]) (vs 9) W3 at q9
          change (fun v W => ∃ A' c', v = .slice A' N c' ∧ Own W wz.heap.size 5 1 A' N c' (bv Y)) (vs 10) W3 at q10
          change (fun v W => ∃ A' n' c', v = .tuple #[.slice A' n' c', .int .i64 R.2] ∧ Own W wz.heap.size 5 1 A' n' c' (bv R.1)) (vs 11) W3 at q11
          change (fun v W => ∃ A' n' c', v = .slice A' n' c' ∧ Own W wz.heap.size 5 1 A' n' c' (bv R.1)) (vs 12) W3 at q12
          change vs 13 = .int .i64 R.2 at q13
          change (fun v W => ∃ A' n' c', v = .slice A' n' c' ∧ Own W wz.heap.size 5 1 A' n' c' (bv R.1)) (vs 14) W3 at q14
          change vs 15 = .int .i64 R.2 at q15
          simp only [putAll, Act.put, List.setIfInBounds_toArray, List.set_cons_zero, List.set_cons_succ, q0, q1, q2, q3, q4, q5, q6, q7, q8, q13, q15]
          clear q0 q1 q2 q3 q4 q5 q6 q7 q8 q13 q15
          clear hR
          obtain ⟨A9, n9, c9, hv9, ho9⟩ := q14
          rw [hv9]
          have hbW := bthen (below_drew _) (grow_below hX3)
          have HO9 := Lib.hid ho9
          replace HW := Lib.hid (bthen HW.out hbW)
          clear hbW hX3 ho9
          go_wp2_with fail
          go_ret2
          exact ⟨A9, n9, c9, rfl, HO9.out.mono HWZ.out, HW.out⟩
  · have hpi : (p != 0) = true := by simpa using hp0
    replace HP24 := Lib.hid (HP24.out.trans (if_pos hp0))
    clear hp0
    go_wp2_with fail
    go_ret2
    exact ⟨none, 0, 0, by rw [HP24.out]; rfl, by rw [HP24.out]; exact Own.nil _ _ _ _ _, HW.out⟩
end Go.Proofs.YtbcjkjmjljfhpaaDoor


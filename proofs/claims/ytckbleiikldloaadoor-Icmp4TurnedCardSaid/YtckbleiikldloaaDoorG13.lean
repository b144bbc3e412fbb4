/- Texts of this claim put together, in build order: each one's own remark stands ahead of it. -/
import Derived.Test.YtckbleiikldloaaDoorG12
import Derived.Test.YtckbleiikldloaaDoorG03
import Derived.Laws.CopyRow
import Derived.Lib.SlBuf
/- What the reference's reading of bytes as a header of IPv4 computes. No condition but sizes. -/
namespace Go.Proofs.YtckbleiikldloaaDoor
open Go.RowKit
set_option linter.unusedVariables false
set_option maxRecDepth 20000
set_option linter.unusedSimpArgs false

theorem zeroA4 (w : World) : (zeroValue 26).run Tryd.prog w = .ok (.agg (bv z4).toArray) w := by kernel_rfl
theorem run_buildA4 (a b c d : UInt8) (w : World) : (Instr.build 26 #[(0, .int .u8 (a.toNat : Int)), (1, .int .u8 (b.toNat : Int)), (2, .int .u8 (c.toNat : Int)), (3, .int .u8 (d.toNat : Int))]).run Tryd.prog w = .ok (.agg (bv [a, b, c, d]).toArray) w := by kernel_rfl
theorem exec_buildA4 {w : World} {o : Oper} {x : Act} (x0 x1 x2 x3 : Operand) (ho : o.op = .build 26 #[(0, x0), (1, x1), (2, x2), (3, x3)]) (a b c d : UInt8)
    (h0 : x.eval x0 = .int .u8 (a.toNat : Int)) (h1 : x.eval x1 = .int .u8 (b.toNat : Int)) (h2 : x.eval x2 = .int .u8 (c.toNat : Int)) (h3 : x.eval x3 = .int .u8 (d.toNat : Int)) :
    (execOp x.eval o).run Tryd.prog w = .ok (.value (.agg (bv [a, b, c, d]).toArray)) w := by
  unfold execOp
  simp only [ho, List.map_toArray, List.map_cons, List.map_nil, h0, h1, h2, h3, Sem.run_bind, run_buildA4, Result.andThen_ok]
  rfl
theorem run_build4f (x0 x1 x2 x5 x6 x7 : Int) (x3 x4 : Bool) (a b c d e f g h : UInt8) (s : ByteArray) (w : World) :
    (Instr.build 56 #[(0, .int .u8 x0), (1, .int .i64 x1), (2, .int .u16 x2), (3, .bool x3), (4, .bool x4), (5, .int .i64 x5), (6, .int .u8 x6), (7, .int .u8 x7), (8, .agg (bv [a, b, c, d]).toArray), (9, .agg (bv [e, f, g, h]).toArray), (10, .string s)]).run Tryd.prog w = .ok (.agg (.int .u8 x0 :: .int .i64 x1 :: .int .u16 x2 :: .bool x3 :: .bool x4 :: .int .i64 x5 :: .int .u8 x6 :: .int .u8 x7 :: (bv [a, b, c, d] ++ (bv [e, f, g, h] ++ [.string s]))).toArray) w := by kernel_rfl
theorem exec_build4f {w : World} {o : Oper} {a : Act} (x0 x1 x2 x3 x4 x5 x6 x7 x8 x9 x10 : Operand) (ho : o.op = .build 56 #[(0, x0), (1, x1), (2, x2), (3, x3), (4, x4), (5, x5), (6, x6), (7, x7), (8, x8), (9, x9), (10, x10)]) (y0 y1 y2 y5 y6 y7 : Int) (y3 y4 : Bool) (p q : List UInt8) (s : List UInt8) (hp : p.length = 4) (hq : q.length = 4)
    (h0 : a.eval x0 = .int .u8 y0) (h1 : a.eval x1 = .int .i64 y1) (h2 : a.eval x2 = .int .u16 y2) (h3 : a.eval x3 = .bool y3) (h4 : a.eval x4 = .bool y4) (h5 : a.eval x5 = .int .i64 y5) (h6 : a.eval x6 = .int .u8 y6) (h7 : a.eval x7 = .int .u8 y7) (h8 : a.eval x8 = .agg (bv p).toArray) (h9 : a.eval x9 = .agg (bv q).toArray) (h10 : a.eval x10 = str s) :
    (execOp a.eval o).run Tryd.prog w = .ok (.value (.agg (H4.cells ⟨y0, y1, y2, y3, y4, y5, y6, y7, p, q, s⟩).toArray)) w := by
  obtain ⟨p0, p1, p2, p3, rfl⟩ := list4 p hp
  obtain ⟨q0, q1, q2, q3, rfl⟩ := list4 q hq
  unfold execOp
  simp only [ho, List.map_toArray, List.map_cons, List.map_nil, h0, h1, h2, h3, h4, h5, h6, h7, h8, h9, h10, Sem.run_bind, run_build4f, Result.andThen_ok]
  rfl

set_option maxHeartbeats 1000000 in
theorem four_any (l : List UInt8) (w : World) (hl : 4 ≤ l.length) (hm : l.length ≤ 1099511627776) :
    Calls Tryd.prog 59 #[str l] w fun e w' => e = .returned (.agg (bv (l.take 4)).toArray) ∧ Below w.heap.size w w' := by
  obtain ⟨s0, ha⟩ := get_ex l (k := 0) (by omega)
  obtain ⟨s1, hb⟩ := get_ex l (k := 1) (by omega)
  obtain ⟨s2, hc⟩ := get_ex l (k := 2) (by omega)
  obtain ⟨s3, hd⟩ := get_ex l (k := 3) (by omega)
  have ht : l.take 4 = [s0, s1, s2, s3] := by
    rw [take_snoc l 3 s3 hd, take_snoc l 2 s2 hc, take_snoc l 1 s1 hb, take_snoc l 0 s0 ha]
    rfl
  rw [ht]
  have HG0 := Lib.hid (ba_get l 0 s0 ha)
  have HG1 := Lib.hid (ba_get l 1 s1 hb)
  have HG2 := Lib.hid (ba_get l 2 s2 hc)
  have HG3 := Lib.hid (ba_get l 3 s3 hd)
  have i0 : (0 : Int) < (l.length : Int) := by omega
  have j0 : 0 < l.length := by omega
  have i1 : (1 : Int) < (l.length : Int) := by omega
  have i2 : (2 : Int) < (l.length : Int) := by omega
  have i3 : (3 : Int) < (l.length : Int) := by omega
  clear ht ha hb hc hd
  go_enter Tryd.func59, Tryd.ntmps59
  go_wp2_with (refine wpList_alloc_blk rfl 26 rfl (bv z4) zeroA4 ?_; intro w1 hb1 hB1 hs1)
  refine wp_region_rel (Ext1 w.heap.size 26 (bv [s0, s1, s2, s3])) (Ext1.refl w.heap.size 26 (bv [s0, s1, s2, s3])) (fun A B C h k => h.trans k) (relAt (List.cons (fun v _ => v = str l) (List.cons (fun v _ => v = .int .u8 (s0.toNat : Int)) (List.cons (fun v _ => v = str l) (List.cons (fun v _ => v = .int .u8 (s1.toNat : Int)) (List.cons (fun v _ => v = str l) (List.cons (fun v _ => v = .int .u8 (s2.toNat : Int)) (List.cons (fun v _ => v = str l) (List.cons (fun v _ => v = .int .u8 (s3.toNat : Int)) (List.cons (fun v _ => v = .agg (bv [s0, s1, s2, s3]).toArray) (List.cons (fun _ W => Blk W w.heap.size 26 (bv [s0, s1, s2, s3])) ([])))))))))))) (MonoL.at_ (.cons (mono_val _) (.cons (mono_val _) (.cons (mono_val _) (.cons (mono_val _) (.cons (mono_val _) (.cons (mono_val _) (.cons (mono_val _) (.cons (mono_val _) (.cons (mono_val _) (.cons (fun _ A B h hx => hx.stays h) .nil))))))))))) (by kernel_rfl) (by kernel_rfl) ⟨?_, ?_, ?_, ?_, ?_, ?_, ?_, ?_, ?_, ?_, trivial⟩ ?_
  · intro a vs W hX hR he hf K hK
    rw [if_pos (wanted_none rfl)]
    have e0 : a.eval (.tmp 0) = str l := hf 0 (by kernel_rfl)
    refine wp_value (v := str l) ?_ (hK _ _ rfl (Ext1.refl _ _ _ W))
    simp only [execOp, e0]
    try go_simp
    try (first | rfl | omega | (simp only [IntKind.wrap_i64, IntKind.wrap_u8, IntKind.wrap_u64, IntKind.wrap_u16, IntKind.wrap_u32]; omega) | (rw [Int.tmod_eq_emod_of_nonneg (by omega)]) | (rw [Int.tmod_eq_emod_of_nonneg (by omega)]; omega))
  · intro a vs W hX hR he hf K hK
    rw [if_pos (wanted_none rfl)]
    have e3 : a.eval (.tmp 3) = str l := (he 0 3 (by kernel_rfl) rfl).trans (hR 0 (by kernel_rfl))
    refine wp_value (v := _) ?_ (hK _ _ rfl (Ext1.refl _ _ _ W))
    simp only [execOp, e3]
    go_simp
    rw [HG0.out]
  · intro a vs W hX hR he hf K hK
    rw [if_pos (wanted_none rfl)]
    have e0 : a.eval (.tmp 0) = str l := hf 0 (by kernel_rfl)
    refine wp_value (v := str l) ?_ (hK _ _ rfl (Ext1.refl _ _ _ W))
    simp only [execOp, e0]
    try go_simp
    try (first | rfl | omega | (simp only [IntKind.wrap_i64, IntKind.wrap_u8, IntKind.wrap_u64, IntKind.wrap_u16, IntKind.wrap_u32]; omega) | (rw [Int.tmod_eq_emod_of_nonneg (by omega)]) | (rw [Int.tmod_eq_emod_of_nonneg (by omega)]; omega))
  · intro a vs W hX hR he hf K hK
    rw [if_pos (wanted_none rfl)]
    have e5 : a.eval (.tmp 5) = str l := (he 2 5 (by kernel_rfl) rfl).trans (hR 2 (by kernel_rfl))
    refine wp_value (v := _) ?_ (hK _ _ rfl (Ext1.refl _ _ _ W))
    simp only [execOp, e5]
    go_simp
    rw [HG1.out]
  · intro a vs W hX hR he hf K hK
    rw [if_pos (wanted_none rfl)]
    have e0 : a.eval (.tmp 0) = str l := hf 0 (by kernel_rfl)
    refine wp_value (v := str l) ?_ (hK _ _ rfl (Ext1.refl _ _ _ W))
    simp only [execOp, e0]
    try go_simp
    try (first | rfl | omega | (simp only [IntKind.wrap_i64, IntKind.wrap_u8, IntKind.wrap_u64, IntKind.wrap_u16, IntKind.wrap_u32]; omega) | (rw [Int.tmod_eq_emod_of_nonneg (by omega)]) | (rw [Int.tmod_eq_emod_of_nonneg (by omega)]; omega))
  · intro a vs W hX hR he hf K hK
    rw [if_pos (wanted_none rfl)]
    have e7 : a.eval (.tmp 7) = str l := (he 4 7 (by kernel_rfl) rfl).trans (hR 4 (by kernel_rfl))
    refine wp_value (v := _) ?_ (hK _ _ rfl (Ext1.refl _ _ _ W))
    simp only [execOp, e7]
    go_simp
    rw [HG2.out]
  · intro a vs W hX hR he hf K hK
    rw [if_pos (wanted_none rfl)]
    have e0 : a.eval (.tmp 0) = str l := hf 0 (by kernel_rfl)
    refine wp_value (v := str l) ?_ (hK _ _ rfl (Ext1.refl _ _ _ W))
    simp only [execOp, e0]
    try go_simp
    try (first | rfl | omega | (simp only [IntKind.wrap_i64, IntKind.wrap_u8, IntKind.wrap_u64, IntKind.wrap_u16, IntKind.wrap_u32]; omega) | (rw [Int.tmod_eq_emod_of_nonneg (by omega)]) | (rw [Int.tmod_eq_emod_of_nonneg (by omega)]; omega))
  · intro a vs W hX hR he hf K hK
    rw [if_pos (wanted_none rfl)]
    have e9 : a.eval (.tmp 9) = str l := (he 6 9 (by kernel_rfl) rfl).trans (hR 6 (by kernel_rfl))
    refine wp_value (v := _) ?_ (hK _ _ rfl (Ext1.refl _ _ _ W))
    simp only [execOp, e9]
    go_simp
    rw [HG3.out]
  · intro a vs W hX hR he hf K hK
    rw [if_pos (wanted_none rfl)]
    have e4 : a.eval (.tmp 4) = .int .u8 (s0.toNat : Int) := (he 1 4 (by kernel_rfl) rfl).trans (hR 1 (by kernel_rfl))
    have e6 : a.eval (.tmp 6) = .int .u8 (s1.toNat : Int) := (he 3 6 (by kernel_rfl) rfl).trans (hR 3 (by kernel_rfl))
    have e8 : a.eval (.tmp 8) = .int .u8 (s2.toNat : Int) := (he 5 8 (by kernel_rfl) rfl).trans (hR 5 (by kernel_rfl))
    have e10 : a.eval (.tmp 10) = .int .u8 (s3.toNat : Int) := (he 7 10 (by kernel_rfl) rfl).trans (hR 7 (by kernel_rfl))
    have f4 := e4
    simp only [Act.eval, Array.getD_eq_getD_getElem?] at f4
    have f6 := e6
    simp only [Act.eval, Array.getD_eq_getD_getElem?] at f6
    have f8 := e8
    simp only [Act.eval, Array.getD_eq_getD_getElem?] at f8
    have f10 := e10
    simp only [Act.eval, Array.getD_eq_getD_getElem?] at f10
    exact wp_value (exec_buildA4 _ _ _ _ rfl _ _ _ _ e4 e6 e8 e10) (hK _ _ rfl (Ext1.refl _ _ _ W))
  · intro a vs W hX hR he hf K hK
    rw [if_pos (wanted_none rfl)]
    have e2 : a.eval (.tmp 2) = .pointer (some ⟨w.heap.size, 0, none⟩) := hf 2 (by kernel_rfl)
    have e11 : a.eval (.tmp 11) = .agg (bv [s0, s1, s2, s3]).toArray := (he 8 11 (by kernel_rfl) rfl).trans (hR 8 (by kernel_rfl))
    obtain ⟨zs, hz, hbz⟩ := hX.there ⟨bv z4, rfl, hb1⟩
    refine wp_store_all 26 _ _ rfl w.heap.size _ e2 e11 26 zs hbz (sizeA4 _ rfl) hz.symm (bv_one _) ?_
    intro w' hb' hg' hs'
    exact hK _ _ hb' (Ext1.store hg' hb')
  · intro vs w2 hX2 hR
    have q0 := hR 0 (by decide)
    have q1 := hR 1 (by decide)
    have q2 := hR 2 (by decide)
    have q3 := hR 3 (by decide)
    have q4 := hR 4 (by decide)
    have q5 := hR 5 (by decide)
    have q6 := hR 6 (by decide)
    have q7 := hR 7 (by decide)
    have q8 := hR 8 (by decide)
    have q9 := hR 9 (by decide)
    change vs 0 = str l at q0
    change vs 1 = .int .u8 (s0.toNat : Int) at q1
    change vs 2 = str l at q2
    change vs 3 = .int .u8 (s1.toNat : Int) at q3
    change vs 4 = str l at q4
    change vs 5 = .int .u8 (s2.toNat : Int) at q5
    change vs 6 = str l at q6
    change vs 7 = .int .u8 (s3.toNat : Int) at q7
    change vs 8 = .agg (bv [s0, s1, s2, s3]).toArray at q8
    change (fun _ W => Blk W w.heap.size 26 (bv [s0, s1, s2, s3])) (vs 9) w2 at q9
    simp only [putAll, Act.put, List.setIfInBounds_toArray, List.set_cons_zero, List.set_cons_succ, q0, q1, q2, q3, q4, q5, q6, q7, q8]
    clear q0 q1 q2 q3 q4 q5 q6 q7 q8
    clear hR
    have hg := hX2.grown
    go_wp2
    refine bodyPost_ret (results_cell1 rfl _ _ w.heap.size _ _ _ rfl q9 Tryd.underlying26 rfl (sizeA4 _ rfl)) rfl ?_
    exact ⟨rfl, (below_drewN hB1 1).grown hg hB1.size (fun k hk => by injection hk with hk; omega)⟩

set_option maxHeartbeats 1000000 in
theorem rparse4_short (l : List UInt8) (w : World) (hn : l.length < 20) :
    Calls Tryd.prog 31 #[str l] w fun e w' => e = .returned (.tuple #[.agg H4.zero.cells.toArray, .int .i64 10]) ∧ Below w.heap.size w w' := by
  have hn' : (l.length : Int) < 20 := by omega
  go_enter Tryd.func31, Tryd.ntmps31
  go_wp2_with (first
    | (refine wpList_alloc_blk rfl 56 rfl H4.zero.cells zero4 ?_; intro w1 hb1 hB1 hs1)
    | (refine wpList_value rfl (exec_build4z rfl) ?_)
    | (refine wpList_store_all rfl 56 _ _ rfl w.heap.size H4.zero.cells rfl rfl 56 _ hb1 (size4 _ H4.zero_ok) rfl H4.zero.one ?_; intro w2 hb2 hg2 hs2))
  refine bodyPost_ret (results_cell2 rfl _ _ w.heap.size _ _ _ rfl hb2 Tryd.underlying56 rfl (size4 _ H4.zero_ok)) rfl ?_
  exact ⟨rfl, bgrown hB1 hg2 (by omega) (by omega)⟩

set_option maxHeartbeats 4000000 in
theorem rparse4_ver (l : List UInt8) (w : World) (hn : l.length ≤ 1099511627776) (h20 : 20 ≤ l.length) (u0 : UInt8) (hu0 : l[0]? = some u0) (S L : Nat) (hS : u0.toNat % 16 * 4 = S) (hL : numF l 2 2 = L) (hv : u0.toNat / 16 ≠ 4) :
    Calls Tryd.prog 31 #[str l] w fun e w' => e = .returned (.tuple #[.agg H4.zero.cells.toArray, .int .i64 12]) ∧ Below w.heap.size w w' := by
  have hn' : ¬ (l.length : Int) < 20 := by omega
  have i0 : (0 : Int) < (l.length : Int) := by omega
  have j0 : 0 < l.length := by omega
  have hub := u0.toNat_lt
  have hLb : L < 256 ^ 2 := by rw [← hL]; exact numF_bd _ _ _
  have HG0 := Lib.hid (ba_get l 0 u0 hu0)
  have hSb : S ≤ 60 := by omega
  have HS := Lib.hid hS
  have HL := Lib.hid hL
  have hmul : 4 * ((u0.toNat : Int) % 16) = (S : Int) := by omega
  have HM := Lib.hid hmul
  clear hmul hS hL hu0
  have hv1 : ((u0.toNat : Int) / 16 != 4) = true := by rw [bne_iff_ne]; omega
  clear hv
  have hg0 := HG0.out
  go_enter Tryd.func31, Tryd.ntmps31
  go_wp2_with (first
    | (refine wpList_alloc_blk rfl 56 rfl H4.zero.cells zero4 ?_; intro w1 hb1 hB1 hs1)
    | (refine wpList_value rfl (exec_build4z rfl) ?_)
    | (refine wpList_store_all rfl 56 _ _ rfl w.heap.size H4.zero.cells rfl rfl 56 _ hb1 (size4 _ H4.zero_ok) rfl H4.zero.one ?_; intro w2 hb2 hg2 hs2))
  refine bodyPost_ret (results_cell2 rfl _ _ w.heap.size _ _ _ rfl hb2 Tryd.underlying56 rfl (size4 _ H4.zero_ok)) rfl ?_
  exact ⟨rfl, bgrown hB1 hg2 (by omega) (by omega)⟩

set_option maxHeartbeats 4000000 in
theorem rparse4_len (l : List UInt8) (w : World) (hn : l.length ≤ 1099511627776) (h20 : 20 ≤ l.length) (u0 : UInt8) (hu0 : l[0]? = some u0) (S L : Nat) (hS : u0.toNat % 16 * 4 = S) (hL : numF l 2 2 = L) (hv : u0.toNat / 16 = 4) (hx : S < 20 ∨ L < S ∨ l.length < L) :
    Calls Tryd.prog 31 #[str l] w fun e w' => e = .returned (.tuple #[.agg H4.zero.cells.toArray, .int .i64 13]) ∧ Below w.heap.size w w' := by
  have hn' : ¬ (l.length : Int) < 20 := by omega
  have i0 : (0 : Int) < (l.length : Int) := by omega
  have j0 : 0 < l.length := by omega
  have hub := u0.toNat_lt
  have hLb : L < 256 ^ 2 := by rw [← hL]; exact numF_bd _ _ _
  have HG0 := Lib.hid (ba_get l 0 u0 hu0)
  have hSb : S ≤ 60 := by omega
  have HS := Lib.hid hS
  have HL := Lib.hid hL
  have hmul : 4 * ((u0.toNat : Int) % 16) = (S : Int) := by omega
  have HM := Lib.hid hmul
  clear hmul hS hL hu0
  have hv1 : ((u0.toNat : Int) / 16 != 4) = false := by rw [bne_eq_false_iff_eq]; omega
  have HV := Lib.hid hv
  clear hv
  have hcase : ((S : Int) < 20) ∨ (¬ ((S : Int) < 20) ∧ (l.length : Int) < (S : Int)) ∨ (¬ ((S : Int) < 20) ∧ ¬ (l.length : Int) < (S : Int) ∧ (L : Int) < S) ∨ (¬ ((S : Int) < 20) ∧ ¬ (l.length : Int) < (S : Int) ∧ ¬ ((L : Int) < S) ∧ (l.length : Int) < L) := by omega
  clear hx
  have hg0 := HG0.out
  have hmul := HM.out
  go_enter Tryd.func31, Tryd.ntmps31
  go_wp2_with (refine wpList_alloc_blk rfl 56 rfl H4.zero.cells zero4 ?_; intro w1 hb1 hB1 hs1)
  refine (rnum4_any 2 2 l _ hn (by omega) (by omega) (by omega)).mono ?_
  rintro e w' ⟨rfl, rfl⟩
  rw [HL.out]
  clear hg0 hmul
  rcases hcase with k1 | ⟨k1, k2⟩ | ⟨k1, k2, k3⟩ | ⟨k1, k2, k3, k4⟩
  all_goals
    go_wp2_with (first
      | (refine wpList_value rfl (exec_build4z rfl) ?_)
      | (refine wpList_store_all rfl 56 _ _ rfl w.heap.size H4.zero.cells rfl rfl 56 _ hb1 (size4 _ H4.zero_ok) rfl H4.zero.one ?_; intro w2 hb2 hg2 hs2))
    refine bodyPost_ret (results_cell2 rfl _ _ w.heap.size _ _ _ rfl hb2 Tryd.underlying56 rfl (size4 _ H4.zero_ok)) rfl ?_
    exact ⟨rfl, bgrown hB1 hg2 (by omega) (by omega)⟩

set_option maxHeartbeats 4000000 in
theorem rparse4_sum (l : List UInt8) (w : World) (hn : l.length ≤ 1099511627776) (h20 : 20 ≤ l.length) (u0 : UInt8) (hu0 : l[0]? = some u0) (S L : Nat) (hS : u0.toNat % 16 * 4 = S) (hL : numF l 2 2 = L) (hv : u0.toNat / 16 = 4) (h1 : 20 ≤ S) (h2 : S ≤ L) (h3 : L ≤ l.length) (h4 : rawN (l.take S) ≠ 65535) :
    Calls Tryd.prog 31 #[str l] w fun e w' => e = .returned (.tuple #[.agg H4.zero.cells.toArray, .int .i64 14]) ∧ Below w.heap.size w w' := by
  have hn' : ¬ (l.length : Int) < 20 := by omega
  have i0 : (0 : Int) < (l.length : Int) := by omega
  have j0 : 0 < l.length := by omega
  have hub := u0.toNat_lt
  have hLb : L < 256 ^ 2 := by rw [← hL]; exact numF_bd _ _ _
  have HG0 := Lib.hid (ba_get l 0 u0 hu0)
  have hSb : S ≤ 60 := by omega
  have HS := Lib.hid hS
  have HL := Lib.hid hL
  have hmul : 4 * ((u0.toNat : Int) % 16) = (S : Int) := by omega
  have HM := Lib.hid hmul
  clear hmul hS hL hu0
  have hv1 : ((u0.toNat : Int) / 16 != 4) = false := by rw [bne_eq_false_iff_eq]; omega
  have HV := Lib.hid hv
  clear hv
  have k1 : ¬ ((S : Int) < 20) := by omega
  have k2 : ¬ (l.length : Int) < (S : Int) := by omega
  have k3 : ¬ ((L : Int) < S) := by omega
  have k4 : ¬ ((l.length : Int) < L) := by omega
  have kS : (S : Int) ≤ (l.length : Int) := by omega
  have HX := Lib.hid (show (ByteArray.mk l.toArray).extract 0 S = ByteArray.mk (l.take S).toArray by rw [str_ex]; rfl)
  have H4' := Lib.hid h4
  clear h4
  have hg0 := HG0.out
  have hmul := HM.out
  go_enter Tryd.func31, Tryd.ntmps31
  go_wp2_with (refine wpList_alloc_blk rfl 56 rfl H4.zero.cells zero4 ?_; intro w1 hb1 hB1 hs1)
  refine (rnum4_any 2 2 l _ hn (by omega) (by omega) (by omega)).mono ?_
  rintro e w' ⟨rfl, rfl⟩
  rw [HL.out]
  clear hg0 hmul
  go_wp2_with fail
  rw [HX.out]
  refine (rraw_any (l.take S) _ (by rw [List.length_take]; omega)).mono ?_
  rintro e w' ⟨rfl, rfl⟩
  have hd : ((rawN (l.take S) : Int) != 65535) = true := by rw [bne_iff_ne]; have := H4'.out; omega
  go_wp2_with (first
    | (refine wpList_value rfl (exec_build4z rfl) ?_)
    | (refine wpList_store_all rfl 56 _ _ rfl w.heap.size H4.zero.cells rfl rfl 56 _ hb1 (size4 _ H4.zero_ok) rfl H4.zero.one ?_; intro w2 hb2 hg2 hs2))
  refine bodyPost_ret (results_cell2 rfl _ _ w.heap.size _ _ _ rfl hb2 Tryd.underlying56 rfl (size4 _ H4.zero_ok)) rfl ?_
  exact ⟨rfl, bgrown hB1 hg2 (by omega) (by omega)⟩

set_option maxHeartbeats 4000000 in
theorem rparse4_ok (l : List UInt8) (w : World) (hn : l.length ≤ 1099511627776) (h20 : 20 ≤ l.length) (u0 : UInt8) (hu0 : l[0]? = some u0) (S L : Nat) (hS : u0.toNat % 16 * 4 = S) (hL : numF l 2 2 = L) (hv : u0.toNat / 16 = 4) (h1 : 20 ≤ S) (h2 : S ≤ L) (h3 : L ≤ l.length) (h4 : rawN (l.take S) = 65535) (F I : Nat) (hF : numF l 6 2 = F) (hI : numF l 4 2 = I) (u1 u8 u9 : UInt8) (hu1 : l[1]? = some u1) (hu8 : l[8]? = some u8) (hu9 : l[9]? = some u9) :
    Calls Tryd.prog 31 #[str l] w fun e w' => e = .returned (.tuple #[.agg (H4.mk (u1.toNat : Nat) (L : Nat) (I : Nat) (decide (F / 16384 % 2 = 1)) (decide (F / 8192 % 2 = 1)) (F % 8192 : Nat) (u8.toNat : Nat) (u9.toNat : Nat) ((l.drop 12).take 4) ((l.drop 16).take 4) ((l.take S).drop 20)).cells.toArray, .int .i64 0]) ∧ Below w.heap.size w w' := by
  have hn' : ¬ (l.length : Int) < 20 := by omega
  have i0 : (0 : Int) < (l.length : Int) := by omega
  have j0 : 0 < l.length := by omega
  have hub := u0.toNat_lt
  have hLb : L < 256 ^ 2 := by rw [← hL]; exact numF_bd _ _ _
  have HG0 := Lib.hid (ba_get l 0 u0 hu0)
  have hSb : S ≤ 60 := by omega
  have HS := Lib.hid hS
  have HL := Lib.hid hL
  have hmul : 4 * ((u0.toNat : Int) % 16) = (S : Int) := by omega
  have HM := Lib.hid hmul
  clear hmul hS hL hu0
  have hv1 : ((u0.toNat : Int) / 16 != 4) = false := by rw [bne_eq_false_iff_eq]; omega
  have HV := Lib.hid hv
  clear hv
  have k1 : ¬ ((S : Int) < 20) := by omega
  have k2 : ¬ (l.length : Int) < (S : Int) := by omega
  have k3 : ¬ ((L : Int) < S) := by omega
  have k4 : ¬ ((l.length : Int) < L) := by omega
  have kS : (S : Int) ≤ (l.length : Int) := by omega
  have HX := Lib.hid (show (ByteArray.mk l.toArray).extract 0 S = ByteArray.mk (l.take S).toArray by rw [str_ex]; rfl)
  have H4' := Lib.hid h4
  have hFb : F < 256 ^ 2 := by rw [← hF]; exact numF_bd _ _ _
  have hIb : I < 256 ^ 2 := by rw [← hI]; exact numF_bd _ _ _
  have HF := Lib.hid hF
  have HI := Lib.hid hI
  have HG1 := Lib.hid (ba_get l 1 u1 hu1)
  have HG8 := Lib.hid (ba_get l 8 u8 hu8)
  have HG9 := Lib.hid (ba_get l 9 u9 hu9)
  have HD12 := Lib.hid (str_drop l 12)
  have HD16 := Lib.hid (str_drop l 16)
  have HK1 := Lib.hid (show (((F / 16384 % 2 : Nat) : Int) == 1) = decide (F / 16384 % 2 = 1) by rw [Bool.eq_iff_iff]; simp; omega)
  have HK2 := Lib.hid (show (((F / 8192 % 2 : Nat) : Int) == 1) = decide (F / 8192 % 2 = 1) by rw [Bool.eq_iff_iff]; simp; omega)
  have HS12 := Lib.hid (show ((l.drop 12).take 4).length = 4 by rw [List.length_take, List.length_drop]; omega)
  have HS16 := Lib.hid (show ((l.drop 16).take 4).length = 4 by rw [List.length_take, List.length_drop]; omega)
  have i1 : (1 : Int) < (l.length : Int) := by omega
  have i8 : (8 : Int) < (l.length : Int) := by omega
  have i9 : (9 : Int) < (l.length : Int) := by omega
  have i12 : (12 : Int) ≤ (l.length : Int) := by omega
  have i16 : (16 : Int) ≤ (l.length : Int) := by omega
  have i20 : (20 : Int) ≤ (S : Int) := by omega
  clear hF hI h4 hu1 hu8 hu9
  have hg0 := HG0.out
  have hmul := HM.out
  go_enter Tryd.func31, Tryd.ntmps31
  go_wp2_with (refine wpList_alloc_blk rfl 56 rfl H4.zero.cells zero4 ?_; intro w1 hb1 hB1 hs1)
  refine (rnum4_any 2 2 l _ hn (by omega) (by omega) (by omega)).mono ?_
  rintro e w' ⟨rfl, rfl⟩
  rw [HL.out]
  clear hg0 hmul
  go_wp2_with fail
  rw [HX.out]
  refine (rraw_any (l.take S) _ (by rw [List.length_take]; omega)).mono ?_
  rintro e w' ⟨rfl, rfl⟩
  have hd : ((rawN (l.take S) : Int) != 65535) = false := by rw [bne_eq_false_iff_eq]; have := H4'.out; omega
  go_wp2_with fail
  refine (rnum4_any 6 2 l _ hn (by omega) (by omega) (by omega)).mono ?_
  rintro e w' ⟨rfl, rfl⟩
  rw [HF.out]
  go_wp2_with fail
  refine wp_region_rel (Ext1 w.heap.size 56 (H4.mk (u1.toNat : Nat) (L : Nat) (I : Nat) (decide (F / 16384 % 2 = 1)) (decide (F / 8192 % 2 = 1)) (F % 8192 : Nat) (u8.toNat : Nat) (u9.toNat : Nat) ((l.drop 12).take 4) ((l.drop 16).take 4) ((l.take S).drop 20)).cells) (Ext1.refl w.heap.size 56 (H4.mk (u1.toNat : Nat) (L : Nat) (I : Nat) (decide (F / 16384 % 2 = 1)) (decide (F / 8192 % 2 = 1)) (F % 8192 : Nat) (u8.toNat : Nat) (u9.toNat : Nat) ((l.drop 12).take 4) ((l.drop 16).take 4) ((l.take S).drop 20)).cells) (fun A B C h k => h.trans k) (relAt (List.cons (fun v _ => v = str l) (List.cons (fun v _ => v = .int .u8 (u1.toNat : Int)) (List.cons (fun v _ => v = .int .i64 (L : Int)) (List.cons (fun v _ => v = str l) (List.cons (fun v _ => v = .int .i64 (I : Int)) (List.cons (fun v _ => v = .int .u16 (I : Int)) (List.cons (fun v _ => v = .int .i64 (F : Int)) (List.cons (fun v _ => v = .int .i64 ((F / 16384 : Nat) : Int)) (List.cons (fun v _ => v = .int .i64 ((F / 16384 % 2 : Nat) : Int)) (List.cons (fun v _ => v = .bool (decide (F / 16384 % 2 = 1))) (List.cons (fun v _ => v = .int .i64 (F : Int)) (List.cons (fun v _ => v = .int .i64 ((F / 8192 : Nat) : Int)) (List.cons (fun v _ => v = .int .i64 ((F / 8192 % 2 : Nat) : Int)) (List.cons (fun v _ => v = .bool (decide (F / 8192 % 2 = 1))) (List.cons (fun v _ => v = .int .i64 (F : Int)) (List.cons (fun v _ => v = .int .i64 ((F % 8192 : Nat) : Int)) (List.cons (fun v _ => v = str l) (List.cons (fun v _ => v = .int .u8 (u8.toNat : Int)) (List.cons (fun v _ => v = str l) (List.cons (fun v _ => v = .int .u8 (u9.toNat : Int)) (List.cons (fun v _ => v = str l) (List.cons (fun v _ => v = str (l.drop 12)) (List.cons (fun v _ => v = .agg (bv ((l.drop 12).take 4)).toArray) (List.cons (fun v _ => v = str l) (List.cons (fun v _ => v = str (l.drop 16)) (List.cons (fun v _ => v = .agg (bv ((l.drop 16).take 4)).toArray) (List.cons (fun v _ => v = str l) (List.cons (fun v _ => v = .int .i64 (S : Int)) (List.cons (fun v _ => v = str ((l.take S).drop 20)) (List.cons (fun v _ => v = .agg (H4.mk (u1.toNat : Nat) (L : Nat) (I : Nat) (decide (F / 16384 % 2 = 1)) (decide (F / 8192 % 2 = 1)) (F % 8192 : Nat) (u8.toNat : Nat) (u9.toNat : Nat) ((l.drop 12).take 4) ((l.drop 16).take 4) ((l.take S).drop 20)).cells.toArray) (List.cons (fun _ W => Blk W w.heap.size 56 (H4.mk (u1.toNat : Nat) (L : Nat) (I : Nat) (decide (F / 16384 % 2 = 1)) (decide (F / 8192 % 2 = 1)) (F % 8192 : Nat) (u8.toNat : Nat) (u9.toNat : Nat) ((l.drop 12).take 4) ((l.drop 16).take 4) ((l.take S).drop 20)).cells) (List.cons (fun v _ => v = .int .i64 0) ([])))))))))))))))))))))))))))))))))) (MonoL.at_ (.cons (mono_val _) (.cons (mono_val _) (.cons (mono_val _) (.cons (mono_val _) (.cons (mono_val _) (.cons (mono_val _) (.cons (mono_val _) (.cons (mono_val _) (.cons (mono_val _) (.cons (mono_val _) (.cons (mono_val _) (.cons (mono_val _) (.cons (mono_val _) (.cons (mono_val _) (.cons (mono_val _) (.cons (mono_val _) (.cons (mono_val _) (.cons (mono_val _) (.cons (mono_val _) (.cons (mono_val _) (.cons (mono_val _) (.cons (mono_val _) (.cons (mono_val _) (.cons (mono_val _) (.cons (mono_val _) (.cons (mono_val _) (.cons (mono_val _) (.cons (mono_val _) (.cons (mono_val _) (.cons (mono_val _) (.cons (fun _ A B h hx => hx.stays h) (.cons (mono_val _) .nil))))))))))))))))))))))))))))))))) (by kernel_rfl) (by kernel_rfl) ⟨?_, ?_, ?_, ?_, ?_, ?_, ?_, ?_, ?_, ?_, ?_, ?_, ?_, ?_, ?_, ?_, ?_, ?_, ?_, ?_, ?_, ?_, ?_, ?_, ?_, ?_, ?_, ?_, ?_, ?_, ?_, ?_, trivial⟩ ?_
  · intro a vs W hX hR he hf K hK
    rw [if_pos (wanted_none rfl)]
    have e0 : a.eval (.tmp 0) = str l := hf 0 (by kernel_rfl)
    refine wp_value (v := str l) ?_ (hK _ _ rfl (Ext1.refl _ _ _ W))
    simp only [execOp, e0]
    try go_simp
    try (first | rfl | omega | (simp only [IntKind.wrap_i64, IntKind.wrap_u8, IntKind.wrap_u64, IntKind.wrap_u16, IntKind.wrap_u32]; omega) | (rw [Int.tmod_eq_emod_of_nonneg (by omega)]) | (rw [Int.tmod_eq_emod_of_nonneg (by omega)]; omega))
  · intro a vs W hX hR he hf K hK
    rw [if_pos (wanted_none rfl)]
    have e51 : a.eval (.tmp 51) = str l := (he 0 51 (by kernel_rfl) rfl).trans (hR 0 (by kernel_rfl))
    refine wp_value (v := _) ?_ (hK _ _ rfl (Ext1.refl _ _ _ W))
    simp only [execOp, e51]
    go_simp
    rw [HG1.out]
  · intro a vs W hX hR he hf K hK
    rw [if_pos (wanted_none rfl)]
    have e5 : a.eval (.tmp 5) = .int .i64 (L : Int) := hf 5 (by kernel_rfl)
    refine wp_value (v := .int .i64 (L : Int)) ?_ (hK _ _ rfl (Ext1.refl _ _ _ W))
    simp only [execOp, e5]
    try go_simp
    try (first | rfl | omega | (simp only [IntKind.wrap_i64, IntKind.wrap_u8, IntKind.wrap_u64, IntKind.wrap_u16, IntKind.wrap_u32]; omega) | (rw [Int.tmod_eq_emod_of_nonneg (by omega)]) | (rw [Int.tmod_eq_emod_of_nonneg (by omega)]; omega))
  · intro a vs W hX hR he hf K hK
    rw [if_pos (wanted_none rfl)]
    have e0 : a.eval (.tmp 0) = str l := hf 0 (by kernel_rfl)
    refine wp_value (v := str l) ?_ (hK _ _ rfl (Ext1.refl _ _ _ W))
    simp only [execOp, e0]
    try go_simp
    try (first | rfl | omega | (simp only [IntKind.wrap_i64, IntKind.wrap_u8, IntKind.wrap_u64, IntKind.wrap_u16, IntKind.wrap_u32]; omega) | (rw [Int.tmod_eq_emod_of_nonneg (by omega)]) | (rw [Int.tmod_eq_emod_of_nonneg (by omega)]; omega))
  · intro a vs W hX hR he hf K hK
    rw [if_pos (wanted_none rfl)]
    have e54 : a.eval (.tmp 54) = str l := (he 3 54 (by kernel_rfl) rfl).trans (hR 3 (by kernel_rfl))
    refine wp_enter (f := 58) (args := #[str l, .int .i64 4, .int .i64 2]) (by simp only [execOp, e54]; go_simp; simpa [Act.eval] using e54) ((rnum4_any 4 2 l W hn (by omega) (by omega) (by omega)).mono ?_)
    rintro e w' ⟨rfl, rfl⟩
    rw [HI.out]
    exact ⟨_, rfl, hK _ _ rfl (Ext1.refl _ _ _ W)⟩
  · intro a vs W hX hR he hf K hK
    rw [if_pos (wanted_none rfl)]
    have e55 : a.eval (.tmp 55) = .int .i64 (I : Int) := (he 4 55 (by kernel_rfl) rfl).trans (hR 4 (by kernel_rfl))
    refine wp_value (v := .int .u16 (I : Int)) ?_ (hK _ _ rfl (Ext1.refl _ _ _ W))
    simp only [execOp, e55]
    try go_simp
    try (first | rfl | omega | (simp only [IntKind.wrap_i64, IntKind.wrap_u8, IntKind.wrap_u64, IntKind.wrap_u16, IntKind.wrap_u32]; omega) | (rw [Int.tmod_eq_emod_of_nonneg (by omega)]) | (rw [Int.tmod_eq_emod_of_nonneg (by omega)]; omega))
  · intro a vs W hX hR he hf K hK
    rw [if_pos (wanted_none rfl)]
    have e6 : a.eval (.tmp 6) = .int .i64 (F : Int) := hf 6 (by kernel_rfl)
    refine wp_value (v := .int .i64 (F : Int)) ?_ (hK _ _ rfl (Ext1.refl _ _ _ W))
    simp only [execOp, e6]
    try go_simp
    try (first | rfl | omega | (simp only [IntKind.wrap_i64, IntKind.wrap_u8, IntKind.wrap_u64, IntKind.wrap_u16, IntKind.wrap_u32]; omega) | (rw [Int.tmod_eq_emod_of_nonneg (by omega)]) | (rw [Int.tmod_eq_emod_of_nonneg (by omega)]; omega))
  · intro a vs W hX hR he hf K hK
    rw [if_pos (wanted_none rfl)]
    have e57 : a.eval (.tmp 57) = .int .i64 (F : Int) := (he 6 57 (by kernel_rfl) rfl).trans (hR 6 (by kernel_rfl))
    refine wp_value (v := .int .i64 ((F / 16384 : Nat) : Int)) ?_ (hK _ _ rfl (Ext1.refl _ _ _ W))
    simp only [execOp, e57]
    try go_simp
    try (first | rfl | omega | (simp only [IntKind.wrap_i64, IntKind.wrap_u8, IntKind.wrap_u64, IntKind.wrap_u16, IntKind.wrap_u32]; omega) | (rw [Int.tmod_eq_emod_of_nonneg (by omega)]) | (rw [Int.tmod_eq_emod_of_nonneg (by omega)]; omega))
  · intro a vs W hX hR he hf K hK
    rw [if_pos (wanted_none rfl)]
    have e58 : a.eval (.tmp 58) = .int .i64 ((F / 16384 : Nat) : Int) := (he 7 58 (by kernel_rfl) rfl).trans (hR 7 (by kernel_rfl))
    refine wp_value (v := .int .i64 ((F / 16384 % 2 : Nat) : Int)) ?_ (hK _ _ rfl (Ext1.refl _ _ _ W))
    simp only [execOp, e58]
    try go_simp
    try (first | rfl | omega | (simp only [IntKind.wrap_i64, IntKind.wrap_u8, IntKind.wrap_u64, IntKind.wrap_u16, IntKind.wrap_u32]; omega) | (rw [Int.tmod_eq_emod_of_nonneg (by omega)]) | (rw [Int.tmod_eq_emod_of_nonneg (by omega)]; omega))
  · intro a vs W hX hR he hf K hK
    rw [if_pos (wanted_none rfl)]
    have e59 : a.eval (.tmp 59) = .int .i64 ((F / 16384 % 2 : Nat) : Int) := (he 8 59 (by kernel_rfl) rfl).trans (hR 8 (by kernel_rfl))
    refine wp_value (v := .bool (((F / 16384 % 2 : Nat) : Int) == 1)) ?_ (hK _ _ (congrArg Value.bool HK1.out) (Ext1.refl _ _ _ W))
    simp only [execOp, e59]
    try go_simp
  · intro a vs W hX hR he hf K hK
    rw [if_pos (wanted_none rfl)]
    have e6 : a.eval (.tmp 6) = .int .i64 (F : Int) := hf 6 (by kernel_rfl)
    refine wp_value (v := .int .i64 (F : Int)) ?_ (hK _ _ rfl (Ext1.refl _ _ _ W))
    simp only [execOp, e6]
    try go_simp
    try (first | rfl | omega | (simp only [IntKind.wrap_i64, IntKind.wrap_u8, IntKind.wrap_u64, IntKind.wrap_u16, IntKind.wrap_u32]; omega) | (rw [Int.tmod_eq_emod_of_nonneg (by omega)]) | (rw [Int.tmod_eq_emod_of_nonneg (by omega)]; omega))
  · intro a vs W hX hR he hf K hK
    rw [if_pos (wanted_none rfl)]
    have e61 : a.eval (.tmp 61) = .int .i64 (F : Int) := (he 10 61 (by kernel_rfl) rfl).trans (hR 10 (by kernel_rfl))
    refine wp_value (v := .int .i64 ((F / 8192 : Nat) : Int)) ?_ (hK _ _ rfl (Ext1.refl _ _ _ W))
    simp only [execOp, e61]
    try go_simp
    try (first | rfl | omega | (simp only [IntKind.wrap_i64, IntKind.wrap_u8, IntKind.wrap_u64, IntKind.wrap_u16, IntKind.wrap_u32]; omega) | (rw [Int.tmod_eq_emod_of_nonneg (by omega)]) | (rw [Int.tmod_eq_emod_of_nonneg (by omega)]; omega))
  · intro a vs W hX hR he hf K hK
    rw [if_pos (wanted_none rfl)]
    have e62 : a.eval (.tmp 62) = .int .i64 ((F / 8192 : Nat) : Int) := (he 11 62 (by kernel_rfl) rfl).trans (hR 11 (by kernel_rfl))
    refine wp_value (v := .int .i64 ((F / 8192 % 2 : Nat) : Int)) ?_ (hK _ _ rfl (Ext1.refl _ _ _ W))
    simp only [execOp, e62]
    try go_simp
    try (first | rfl | omega | (simp only [IntKind.wrap_i64, IntKind.wrap_u8, IntKind.wrap_u64, IntKind.wrap_u16, IntKind.wrap_u32]; omega) | (rw [Int.tmod_eq_emod_of_nonneg (by omega)]) | (rw [Int.tmod_eq_emod_of_nonneg (by omega)]; omega))
  · intro a vs W hX hR he hf K hK
    rw [if_pos (wanted_none rfl)]
    have e63 : a.eval (.tmp 63) = .int .i64 ((F / 8192 % 2 : Nat) : Int) := (he 12 63 (by kernel_rfl) rfl).trans (hR 12 (by kernel_rfl))
    refine wp_value (v := .bool (((F / 8192 % 2 : Nat) : Int) == 1)) ?_ (hK _ _ (congrArg Value.bool HK2.out) (Ext1.refl _ _ _ W))
    simp only [execOp, e63]
    try go_simp
  · intro a vs W hX hR he hf K hK
    rw [if_pos (wanted_none rfl)]
    have e6 : a.eval (.tmp 6) = .int .i64 (F : Int) := hf 6 (by kernel_rfl)
    refine wp_value (v := .int .i64 (F : Int)) ?_ (hK _ _ rfl (Ext1.refl _ _ _ W))
    simp only [execOp, e6]
    try go_simp
    try (first | rfl | omega | (simp only [IntKind.wrap_i64, IntKind.wrap_u8, IntKind.wrap_u64, IntKind.wrap_u16, IntKind.wrap_u32]; omega) | (rw [Int.tmod_eq_emod_of_nonneg (by omega)]) | (rw [Int.tmod_eq_emod_of_nonneg (by omega)]; omega))
  · intro a vs W hX hR he hf K hK
    rw [if_pos (wanted_none rfl)]
    have e65 : a.eval (.tmp 65) = .int .i64 (F : Int) := (he 14 65 (by kernel_rfl) rfl).trans (hR 14 (by kernel_rfl))
    refine wp_value (v := .int .i64 ((F % 8192 : Nat) : Int)) ?_ (hK _ _ rfl (Ext1.refl _ _ _ W))
    simp only [execOp, e65]
    try go_simp
    try (first | rfl | omega | (simp only [IntKind.wrap_i64, IntKind.wrap_u8, IntKind.wrap_u64, IntKind.wrap_u16, IntKind.wrap_u32]; omega) | (rw [Int.tmod_eq_emod_of_nonneg (by omega)]) | (rw [Int.tmod_eq_emod_of_nonneg (by omega)]; omega))
  · intro a vs W hX hR he hf K hK
    rw [if_pos (wanted_none rfl)]
    have e0 : a.eval (.tmp 0) = str l := hf 0 (by kernel_rfl)
    refine wp_value (v := str l) ?_ (hK _ _ rfl (Ext1.refl _ _ _ W))
    simp only [execOp, e0]
    try go_simp
    try (first | rfl | omega | (simp only [IntKind.wrap_i64, IntKind.wrap_u8, IntKind.wrap_u64, IntKind.wrap_u16, IntKind.wrap_u32]; omega) | (rw [Int.tmod_eq_emod_of_nonneg (by omega)]) | (rw [Int.tmod_eq_emod_of_nonneg (by omega)]; omega))
  · intro a vs W hX hR he hf K hK
    rw [if_pos (wanted_none rfl)]
    have e67 : a.eval (.tmp 67) = str l := (he 16 67 (by kernel_rfl) rfl).trans (hR 16 (by kernel_rfl))
    refine wp_value (v := _) ?_ (hK _ _ rfl (Ext1.refl _ _ _ W))
    simp only [execOp, e67]
    go_simp
    rw [HG8.out]
  · intro a vs W hX hR he hf K hK
    rw [if_pos (wanted_none rfl)]
    have e0 : a.eval (.tmp 0) = str l := hf 0 (by kernel_rfl)
    refine wp_value (v := str l) ?_ (hK _ _ rfl (Ext1.refl _ _ _ W))
    simp only [execOp, e0]
    try go_simp
    try (first | rfl | omega | (simp only [IntKind.wrap_i64, IntKind.wrap_u8, IntKind.wrap_u64, IntKind.wrap_u16, IntKind.wrap_u32]; omega) | (rw [Int.tmod_eq_emod_of_nonneg (by omega)]) | (rw [Int.tmod_eq_emod_of_nonneg (by omega)]; omega))
  · intro a vs W hX hR he hf K hK
    rw [if_pos (wanted_none rfl)]
    have e69 : a.eval (.tmp 69) = str l := (he 18 69 (by kernel_rfl) rfl).trans (hR 18 (by kernel_rfl))
    refine wp_value (v := _) ?_ (hK _ _ rfl (Ext1.refl _ _ _ W))
    simp only [execOp, e69]
    go_simp
    rw [HG9.out]
  · intro a vs W hX hR he hf K hK
    rw [if_pos (wanted_none rfl)]
    have e0 : a.eval (.tmp 0) = str l := hf 0 (by kernel_rfl)
    refine wp_value (v := str l) ?_ (hK _ _ rfl (Ext1.refl _ _ _ W))
    simp only [execOp, e0]
    try go_simp
    try (first | rfl | omega | (simp only [IntKind.wrap_i64, IntKind.wrap_u8, IntKind.wrap_u64, IntKind.wrap_u16, IntKind.wrap_u32]; omega) | (rw [Int.tmod_eq_emod_of_nonneg (by omega)]) | (rw [Int.tmod_eq_emod_of_nonneg (by omega)]; omega))
  · intro a vs W hX hR he hf K hK
    rw [if_pos (wanted_none rfl)]
    have e71 : a.eval (.tmp 71) = str l := (he 20 71 (by kernel_rfl) rfl).trans (hR 20 (by kernel_rfl))
    have f71 := e71
    simp only [Act.eval, Array.getD_eq_getD_getElem?] at f71
    refine wp_value (v := str (l.drop 12)) ?_ (hK _ _ rfl (Ext1.refl _ _ _ W))
    simp only [execOp, e71]
    go_simp
    exact Value.string.inj HD12.out
  · intro a vs W hX hR he hf K hK
    rw [if_pos (wanted_none rfl)]
    have e72 : a.eval (.tmp 72) = str (l.drop 12) := (he 21 72 (by kernel_rfl) rfl).trans (hR 21 (by kernel_rfl))
    refine wp_enter (f := 59) (args := #[str (l.drop 12)]) (by simp only [execOp, e72]; go_simp; simpa [Act.eval] using e72) ((four_any (l.drop 12) W (by rw [List.length_drop]; omega) (by rw [List.length_drop]; omega)).mono ?_)
    rintro e w' ⟨rfl, hb⟩
    exact ⟨_, rfl, hK _ _ rfl (Ext1.below hb)⟩
  · intro a vs W hX hR he hf K hK
    rw [if_pos (wanted_none rfl)]
    have e0 : a.eval (.tmp 0) = str l := hf 0 (by kernel_rfl)
    refine wp_value (v := str l) ?_ (hK _ _ rfl (Ext1.refl _ _ _ W))
    simp only [execOp, e0]
    try go_simp
    try (first | rfl | omega | (simp only [IntKind.wrap_i64, IntKind.wrap_u8, IntKind.wrap_u64, IntKind.wrap_u16, IntKind.wrap_u32]; omega) | (rw [Int.tmod_eq_emod_of_nonneg (by omega)]) | (rw [Int.tmod_eq_emod_of_nonneg (by omega)]; omega))
  · intro a vs W hX hR he hf K hK
    rw [if_pos (wanted_none rfl)]
    have e74 : a.eval (.tmp 74) = str l := (he 23 74 (by kernel_rfl) rfl).trans (hR 23 (by kernel_rfl))
    have f74 := e74
    simp only [Act.eval, Array.getD_eq_getD_getElem?] at f74
    refine wp_value (v := str (l.drop 16)) ?_ (hK _ _ rfl (Ext1.refl _ _ _ W))
    simp only [execOp, e74]
    go_simp
    exact Value.string.inj HD16.out
  · intro a vs W hX hR he hf K hK
    rw [if_pos (wanted_none rfl)]
    have e75 : a.eval (.tmp 75) = str (l.drop 16) := (he 24 75 (by kernel_rfl) rfl).trans (hR 24 (by kernel_rfl))
    refine wp_enter (f := 59) (args := #[str (l.drop 16)]) (by simp only [execOp, e75]; go_simp; simpa [Act.eval] using e75) ((four_any (l.drop 16) W (by rw [List.length_drop]; omega) (by rw [List.length_drop]; omega)).mono ?_)
    rintro e w' ⟨rfl, hb⟩
    exact ⟨_, rfl, hK _ _ rfl (Ext1.below hb)⟩
  · intro a vs W hX hR he hf K hK
    rw [if_pos (wanted_none rfl)]
    have e0 : a.eval (.tmp 0) = str l := hf 0 (by kernel_rfl)
    refine wp_value (v := str l) ?_ (hK _ _ rfl (Ext1.refl _ _ _ W))
    simp only [execOp, e0]
    try go_simp
    try (first | rfl | omega | (simp only [IntKind.wrap_i64, IntKind.wrap_u8, IntKind.wrap_u64, IntKind.wrap_u16, IntKind.wrap_u32]; omega) | (rw [Int.tmod_eq_emod_of_nonneg (by omega)]) | (rw [Int.tmod_eq_emod_of_nonneg (by omega)]; omega))
  · intro a vs W hX hR he hf K hK
    rw [if_pos (wanted_none rfl)]
    have e4 : a.eval (.tmp 4) = .int .i64 (S : Int) := hf 4 (by kernel_rfl)
    refine wp_value (v := .int .i64 (S : Int)) ?_ (hK _ _ rfl (Ext1.refl _ _ _ W))
    simp only [execOp, e4]
    try go_simp
    try (first | rfl | omega | (simp only [IntKind.wrap_i64, IntKind.wrap_u8, IntKind.wrap_u64, IntKind.wrap_u16, IntKind.wrap_u32]; omega) | (rw [Int.tmod_eq_emod_of_nonneg (by omega)]) | (rw [Int.tmod_eq_emod_of_nonneg (by omega)]; omega))
  · intro a vs W hX hR he hf K hK
    rw [if_pos (wanted_none rfl)]
    have e77 : a.eval (.tmp 77) = str l := (he 26 77 (by kernel_rfl) rfl).trans (hR 26 (by kernel_rfl))
    have e78 : a.eval (.tmp 78) = .int .i64 (S : Int) := (he 27 78 (by kernel_rfl) rfl).trans (hR 27 (by kernel_rfl))
    have f77 := e77
    simp only [Act.eval, Array.getD_eq_getD_getElem?] at f77
    have f78 := e78
    simp only [Act.eval, Array.getD_eq_getD_getElem?] at f78
    refine wp_value (v := _) ?_ (hK _ _ rfl (Ext1.refl _ _ _ W))
    simp only [execOp, e77]
    go_simp
    rw [str_ex]
  · intro a vs W hX hR he hf K hK
    rw [if_pos (wanted_none rfl)]
    have e52 : a.eval (.tmp 52) = .int .u8 (u1.toNat : Int) := (he 1 52 (by kernel_rfl) rfl).trans (hR 1 (by kernel_rfl))
    have e53 : a.eval (.tmp 53) = .int .i64 (L : Int) := (he 2 53 (by kernel_rfl) rfl).trans (hR 2 (by kernel_rfl))
    have e56 : a.eval (.tmp 56) = .int .u16 (I : Int) := (he 5 56 (by kernel_rfl) rfl).trans (hR 5 (by kernel_rfl))
    have e60 : a.eval (.tmp 60) = .bool (decide (F / 16384 % 2 = 1)) := (he 9 60 (by kernel_rfl) rfl).trans (hR 9 (by kernel_rfl))
    have e64 : a.eval (.tmp 64) = .bool (decide (F / 8192 % 2 = 1)) := (he 13 64 (by kernel_rfl) rfl).trans (hR 13 (by kernel_rfl))
    have e66 : a.eval (.tmp 66) = .int .i64 ((F % 8192 : Nat) : Int) := (he 15 66 (by kernel_rfl) rfl).trans (hR 15 (by kernel_rfl))
    have e68 : a.eval (.tmp 68) = .int .u8 (u8.toNat : Int) := (he 17 68 (by kernel_rfl) rfl).trans (hR 17 (by kernel_rfl))
    have e70 : a.eval (.tmp 70) = .int .u8 (u9.toNat : Int) := (he 19 70 (by kernel_rfl) rfl).trans (hR 19 (by kernel_rfl))
    have e73 : a.eval (.tmp 73) = .agg (bv ((l.drop 12).take 4)).toArray := (he 22 73 (by kernel_rfl) rfl).trans (hR 22 (by kernel_rfl))
    have e76 : a.eval (.tmp 76) = .agg (bv ((l.drop 16).take 4)).toArray := (he 25 76 (by kernel_rfl) rfl).trans (hR 25 (by kernel_rfl))
    have e79 : a.eval (.tmp 79) = str ((l.take S).drop 20) := (he 28 79 (by kernel_rfl) rfl).trans (hR 28 (by kernel_rfl))
    have f52 := e52
    simp only [Act.eval, Array.getD_eq_getD_getElem?] at f52
    have f53 := e53
    simp only [Act.eval, Array.getD_eq_getD_getElem?] at f53
    have f56 := e56
    simp only [Act.eval, Array.getD_eq_getD_getElem?] at f56
    have f60 := e60
    simp only [Act.eval, Array.getD_eq_getD_getElem?] at f60
    have f64 := e64
    simp only [Act.eval, Array.getD_eq_getD_getElem?] at f64
    have f66 := e66
    simp only [Act.eval, Array.getD_eq_getD_getElem?] at f66
    have f68 := e68
    simp only [Act.eval, Array.getD_eq_getD_getElem?] at f68
    have f70 := e70
    simp only [Act.eval, Array.getD_eq_getD_getElem?] at f70
    have f73 := e73
    simp only [Act.eval, Array.getD_eq_getD_getElem?] at f73
    have f76 := e76
    simp only [Act.eval, Array.getD_eq_getD_getElem?] at f76
    have f79 := e79
    simp only [Act.eval, Array.getD_eq_getD_getElem?] at f79
    exact wp_value (exec_build4f _ _ _ _ _ _ _ _ _ _ _ rfl _ _ _ _ _ _ _ _ _ _ _ HS12.out HS16.out e52 e53 e56 e60 e64 e66 e68 e70 e73 e76 e79) (hK _ _ rfl (Ext1.refl _ _ _ W))
  · intro a vs W hX hR he hf K hK
    rw [if_pos (wanted_none rfl)]
    have e2 : a.eval (.tmp 2) = .pointer (some ⟨w.heap.size, 0, none⟩) := hf 2 (by kernel_rfl)
    have e80 : a.eval (.tmp 80) = .agg (H4.mk (u1.toNat : Nat) (L : Nat) (I : Nat) (decide (F / 16384 % 2 = 1)) (decide (F / 8192 % 2 = 1)) (F % 8192 : Nat) (u8.toNat : Nat) (u9.toNat : Nat) ((l.drop 12).take 4) ((l.drop 16).take 4) ((l.take S).drop 20)).cells.toArray := (he 29 80 (by kernel_rfl) rfl).trans (hR 29 (by kernel_rfl))
    obtain ⟨zs, hz, hbz⟩ := hX.there ⟨_, H4.cells_same _ _ H4.zero_ok ⟨HS12.out, HS16.out⟩, hb1⟩
    refine wp_store_all 56 _ _ rfl w.heap.size _ e2 e80 56 zs hbz (size4 _ ⟨HS12.out, HS16.out⟩) hz.symm (H4.one _) ?_
    intro w' hb' hg' hs'
    exact hK _ _ hb' (Ext1.store hg' hb')
  · intro a vs W hX hR he hf K hK
    rw [if_pos (wanted_none rfl)]
    refine wp_value (v := .int .i64 0) ?_ (hK _ _ rfl (Ext1.refl _ _ _ W))
    simp only [execOp]
    try go_simp
    try (first | rfl | omega | (simp only [IntKind.wrap_i64, IntKind.wrap_u8, IntKind.wrap_u64, IntKind.wrap_u16, IntKind.wrap_u32]; omega) | (rw [Int.tmod_eq_emod_of_nonneg (by omega)]) | (rw [Int.tmod_eq_emod_of_nonneg (by omega)]; omega))
  · intro vs w8 hX8 hR
    have q0 := hR 0 (by decide)
    have q1 := hR 1 (by decide)
    have q2 := hR 2 (by decide)
    have q3 := hR 3 (by decide)
    have q4 := hR 4 (by decide)
    have q5 := hR 5 (by decide)
    have q6 := hR 6 (by decide)
    have q7 := hR 7 (by decide)
    have q8 := hR 8 (by decide)
    have q9 := hR 9 (by decide)
    have q10 := hR 10 (by decide)
    have q11 := hR 11 (by decide)
    have q12 := hR 12 (by decide)
    have q13 := hR 13 (by decide)
    have q14 := hR 14 (by decide)
    have q15 := hR 15 (by decide)
    have q16 := hR 16 (by decide)
    have q17 := hR 17 (by decide)
    have q18 := hR 18 (by decide)
    have q19 := hR 19 (by decide)
    have q20 := hR 20 (by decide)
    have q21 := hR 21 (by decide)
    have q22 := hR 22 (by decide)
    have q23 := hR 23 (by decide)
    have q24 := hR 24 (by decide)
    have q25 := hR 25 (by decide)
    have q26 := hR 26 (by decide)
    have q27 := hR 27 (by decide)
    have q28 := hR 28 (by decide)
    have q29 := hR 29 (by decide)
    have q30 := hR 30 (by decide)
    have q31 := hR 31 (by decide)
    change vs 0 = str l at q0
    change vs 1 = .int .u8 (u1.toNat : Int) at q1
    change vs 2 = .int .i64 (L : Int) at q2
    change vs 3 = str l at q3
    change vs 4 = .int .i64 (I : Int) at q4
    change vs 5 = .int .u16 (I : Int) at q5
    change vs 6 = .int .i64 (F : Int) at q6
    change vs 7 = .int .i64 ((F / 16384 : Nat) : Int) at q7
    change vs 8 = .int .i64 ((F / 16384 % 2 : Nat) : Int) at q8
    change vs 9 = .bool (decide (F / 16384 % 2 = 1)) at q9
    change vs 10 = .int .i64 (F : Int) at q10
    change vs 11 = .int .i64 ((F / 8192 : Nat) : Int) at q11
    change vs 12 = .int .i64 ((F / 8192 % 2 : Nat) : Int) at q12
    change vs 13 = .bool (decide (F / 8192 % 2 = 1)) at q13
    change vs 14 = .int .i64 (F : Int) at q14
    change vs 15 = .int .i64 ((F % 8192 : Nat) : Int) at q15
    change vs 16 = str l at q16
    change vs 17 = .int .u8 (u8.toNat : Int) at q17
    change vs 18 = str l at q18
    change vs 19 = .int .u8 (u9.toNat : Int) at q19
    change vs 20 = str l at q20
    change vs 21 = str (l.drop 12) at q21
    change vs 22 = .agg (bv ((l.drop 12).take 4)).toArray at q22
    change vs 23 = str l at q23
    change vs 24 = str (l.drop 16) at q24
    change vs 25 = .agg (bv ((l.drop 16).take 4)).toArray at q25
    change vs 26 = str l at q26
    change vs 27 = .int .i64 (S : Int) at q27
    change vs 28 = str ((l.take S).drop 20) at q28
    change vs 29 = .agg (H4.mk (u1.toNat : Nat) (L : Nat) (I : Nat) (decide (F / 16384 % 2 = 1)) (decide (F / 8192 % 2 = 1)) (F % 8192 : Nat) (u8.toNat : Nat) (u9.toNat : Nat) ((l.drop 12).take 4) ((l.drop 16).take 4) ((l.take S).drop 20)).cells.toArray at q29
    change (fun _ W => Blk W w.heap.size 56 (H4.mk (u1.toNat : Nat) (L : Nat) (I : Nat) (decide (F / 16384 % 2 = 1)) (decide (F / 8192 % 2 = 1)) (F % 8192 : Nat) (u8.toNat : Nat) (u9.toNat : Nat) ((l.drop 12).take 4) ((l.drop 16).take 4) ((l.take S).drop 20)).cells) (vs 30) w8 at q30
    change vs 31 = .int .i64 0 at q31
    simp only [putAll, Act.put, List.setIfInBounds_toArray, List.set_cons_zero, List.set_cons_succ, q0, q1, q2, q3, q4, q5, q6, q7, q8, q9, q10, q11, q12, q13, q14, q15, q16, q17, q18, q19, q20, q21, q22, q23, q24, q25, q26, q27, q28, q29, q31]
    clear q0 q1 q2 q3 q4 q5 q6 q7 q8 q9 q10 q11 q12 q13 q14 q15 q16 q17 q18 q19 q20 q21 q22 q23 q24 q25 q26 q27 q28 q29 q31
    clear hR
    have hg := hX8.grown
    go_wp2
    refine bodyPost_ret (results_cell2 rfl _ _ w.heap.size _ _ _ rfl q30 Tryd.underlying56 rfl (size4 _ ⟨HS12.out, HS16.out⟩)) rfl ?_
    exact ⟨rfl, (below_drewN hB1 1).grown hg hB1.size (fun k hk => by injection hk with hk; omega)⟩
theorem rparse4_any (l : List UInt8) (w : World) (hn : l.length ≤ 1099511627776) :
    Calls Tryd.prog 31 #[str l] w fun e w' => e = .returned (.tuple #[.agg (par4 l).1.cells.toArray, .int .i64 (par4 l).2]) ∧ Below w.heap.size w w' := by
  by_cases h20 : l.length < 20
  · have e : par4 l = (H4.zero, 10) := by unfold par4; rw [if_pos (by omega)]
    rw [e]
    exact rparse4_short l w h20
  obtain ⟨u0, hu0⟩ := get_ex l (k := 0) (by omega)
  have g0 : l.getD 0 0 = u0 := by rw [List.getD_eq_getElem?_getD, hu0]; rfl
  by_cases hv : u0.toNat / 16 = 4
  · by_cases hL : size4n l < 20 ∨ numF l 2 2 < size4n l ∨ l.length < numF l 2 2
    · have e : par4 l = (H4.zero, 13) := by unfold par4; rw [if_neg (by omega), g0, if_neg (by omega), if_pos hL]
      rw [e]
      refine rparse4_len l w hn (by omega) u0 hu0 (size4n l) _ ?_ rfl hv hL
      unfold size4n
      rw [g0]
    · have hS : u0.toNat % 16 * 4 = size4n l := by unfold size4n; rw [g0]
      by_cases h4 : rawN (l.take (size4n l)) = 65535
      · obtain ⟨u1, hu1⟩ := get_ex l (k := 1) (by omega)
        obtain ⟨u8, hu8⟩ := get_ex l (k := 8) (by omega)
        obtain ⟨u9, hu9⟩ := get_ex l (k := 9) (by omega)
        have e : par4 l = (⟨(u1.toNat : Nat), (numF l 2 2 : Nat), (numF l 4 2 : Nat), decide (numF l 6 2 / 16384 % 2 = 1), decide (numF l 6 2 / 8192 % 2 = 1), (numF l 6 2 % 8192 : Nat), (u8.toNat : Nat), (u9.toNat : Nat), (l.drop 12).take 4, (l.drop 16).take 4, (l.take (size4n l)).drop 20⟩, 0) := by
          unfold par4
          rw [if_neg (by omega), g0, if_neg (by omega), if_neg hL, if_neg (by simpa using h4)]
          rw [show l.getD 1 0 = u1 by rw [List.getD_eq_getElem?_getD, hu1]; rfl, show l.getD 8 0 = u8 by rw [List.getD_eq_getElem?_getD, hu8]; rfl, show l.getD 9 0 = u9 by rw [List.getD_eq_getElem?_getD, hu9]; rfl]
        rw [e]
        exact rparse4_ok l w hn (by omega) u0 hu0 (size4n l) _ hS rfl hv (by omega) (by omega) (by omega) h4 _ _ rfl rfl u1 u8 u9 hu1 hu8 hu9
      · have e : par4 l = (H4.zero, 14) := by unfold par4; rw [if_neg (by omega), g0, if_neg (by omega), if_neg hL, if_pos h4]
        rw [e]
        exact rparse4_sum l w hn (by omega) u0 hu0 (size4n l) _ hS rfl hv (by omega) (by omega) (by omega) h4
  · have e : par4 l = (H4.zero, 12) := by unfold par4; rw [if_neg (by omega), g0, if_pos hv]
    rw [e]
    exact rparse4_ver l w hn (by omega) u0 hu0 _ _ rfl rfl hv
end Go.Proofs.YtckbleiikldloaaDoor

/- copy onto a row of the call's own, and a string made bytes, as steps. No condition but sizes. -/
namespace Go.Proofs.YtckbleiikldloaaDoor
open Go.RowKit
set_option linter.unusedVariables false
set_option maxRecDepth 20000

theorem run_copy_Own {P : Program} {w : World} {base n c g B m dc sc : Nat} {e dT sT ty : TypeId} {xs ys : List Value} {X : Option Addr} (hu : P.underlying dT = some (.slice e)) (hs : (P.info? e).map (·.size) = some 1)
    (hown : Own w base e 1 (some ⟨g, 0, none⟩) n c xs) (k : Nat) (hm : 0 < m) (hk : k + m ≤ n) (hr : Row w B 1 X m ys) (h1 : ∀ v ∈ ys, v.oneCell' = true) :
    ∃ w', (Builtin.copy_ #[dT, sT] ty #[.slice (some ⟨g, k, none⟩) (n - k) dc, .slice X m sc]).run P w = .ok (goInt m) w' ∧ Own w' base e 1 (some ⟨g, 0, none⟩) n c (xs.take k ++ ys ++ xs.drop (k + m)) ∧ w.grownBy w' (some g) ∧ w'.heap.size = w.heap.size := by
  have hym : ys.length = m := by have := hr.1; omega
  have hxn : xs.length = n := by have := hown.len; omega
  obtain ⟨b, o, rfl, hbB, hcell⟩ := hr.2 hm
  rcases hown.own with ⟨h0, _⟩ | ⟨g', cur, hA, hb, hg, hcs, ht⟩
  · omega
  · obtain rfl : g = g' := by injection hA with hA; injection hA
    have hcap := hown.le
    have hrun := run_copy_row (P := P) w dT sT ty e g k (n - k) dc ⟨b, o, none⟩ m sc cur e ys hu hs hg (by rw [hym]; exact (Nat.min_eq_left (by omega)).symm) (fun j v hv => by
      have := hcell j v hv
      unfold Addr.add
      split
      · rename_i h0; subst h0; simpa using this
      · exact this) (by omega) h1
    rw [hym] at hrun
    refine ⟨_, hrun, ⟨?_, hown.le, hown.cap, .inr ⟨g, _, rfl, hb, setRow_heap w g cur _ e _ hg, ?_, ?_⟩⟩, ⟨rfl, rfl, rfl, by simp [World.setRow], fun i _ hne => setRow_other w g i _ (fun e => hne (by rw [e]))⟩, by simp [World.setRow]⟩
    · simp only [List.length_append, List.length_take, List.length_drop, hym, hxn]
      omega
    · simp only [List.size_toArray, List.length_append, List.length_take, List.length_drop, Array.length_toList, hym]
      omega
    · have ht' : cur.toList.take n = xs := by rw [← ht, Nat.mul_one]
      have e1 : cur.toList.take k = xs.take k := by rw [← ht', List.take_take, Nat.min_eq_left (by omega)]
      have e2 : cur.toList.drop (k + m) = xs.drop (k + m) ++ cur.toList.drop n := by
        have hl : n ≤ cur.toList.length := by rw [Array.length_toList]; omega
        have e3 : cur.toList.drop n = (cur.toList.drop (k + m)).drop (n - (k + m)) := by rw [List.drop_drop]; congr 1; omega
        rw [← ht', List.drop_take, e3, List.take_append_drop]
      show ((cur.toList.take k ++ ys) ++ cur.toList.drop (k + m)).take (n * 1) = _
      rw [e1, e2, ← List.append_assoc]
      exact List.take_left' (by simp only [List.length_append, List.length_take, List.length_drop, hym, hxn]; omega)

theorem wp_copy_Own {P : Program} {w : World} {o : Oper} {a : Act} {K : Act → World → Prop} {Q : Exit → Act → World → Prop} (d s : Operand) (dT sT : TypeId) (ho : o.op = .call { callee := .builtin .copy, args := #[d, s], argTypes := #[dT, sT] })
    {base n c g B m dc sc : Nat} {e : TypeId} {xs ys : List Value} {X : Option Addr} (hu : P.underlying dT = some (.slice e)) (hs : (P.info? e).map (·.size) = some 1)
    (k : Nat) (hd : a.eval d = .slice (some ⟨g, k, none⟩) (n - k) dc) (hsv : a.eval s = .slice X m sc) (hown : Own w base e 1 (some ⟨g, 0, none⟩) n c xs) (hm : 0 < m) (hk : k + m ≤ n) (hr : Row w B 1 X m ys) (h1 : ∀ v ∈ ys, v.oneCell' = true)
    (h : ∀ w', Own w' base e 1 (some ⟨g, 0, none⟩) n c (xs.take k ++ ys ++ xs.drop (k + m)) → w.grownBy w' (some g) → w'.heap.size = w.heap.size → K (a.put o.dst (goInt m)) w') : o.wp P a w K Q := by
  obtain ⟨w', hrun, h2, h3, h4⟩ := run_copy_Own (P := P) (ty := o.type) (sT := sT) (dc := dc) (sc := sc) hu hs hown k hm hk hr h1
  exact Lib.wp_copy_run w d s dT sT ho _ _ hd hsv hrun (h w' h2 h3 h4)
theorem wpList_copy_Own {P : Program} {w : World} {ops : Array Oper} {rest : List Oper} {o : Oper} {a : Act} {Q : Exit → Act → World → Prop} (hgd : Region.wanted o (yielded ops a.tmps) = true) (d s : Operand) (dT sT : TypeId) (ho : o.op = .call { callee := .builtin .copy, args := #[d, s], argTypes := #[dT, sT] })
    {base n c g B m dc sc : Nat} {e : TypeId} {xs ys : List Value} {X : Option Addr} (hu : P.underlying dT = some (.slice e)) (hs : (P.info? e).map (·.size) = some 1)
    (k : Nat) (hd : a.eval d = .slice (some ⟨g, k, none⟩) (n - k) dc) (hsv : a.eval s = .slice X m sc) (hown : Own w base e 1 (some ⟨g, 0, none⟩) n c xs) (hm : 0 < m) (hk : k + m ≤ n) (hr : Row w B 1 X m ys) (h1 : ∀ v ∈ ys, v.oneCell' = true)
    (h : ∀ w', Own w' base e 1 (some ⟨g, 0, none⟩) n c (xs.take k ++ ys ++ xs.drop (k + m)) → w.grownBy w' (some g) → w'.heap.size = w.heap.size → wpList P ops Q rest (a.put o.dst (goInt m)) w') : wpList P ops Q (o :: rest) a w :=
  wpList_wanted hgd fun _ hK => wp_copy_Own d s dT sT ho hu hs k hd hsv hown hm hk hr h1 fun w' a b c => hK _ _ (h w' a b c)

theorem wp_toBytes {P : Program} {w : World} {o : Oper} {a : Act} {K : Act → World → Prop} {Q : Exit → Act → World → Prop} (x : Operand) (S T e : TypeId)
    (ho : o.op = .convert S T x) (hT : P.underlying T = some (.slice e)) (he : P.underlying e = some (.int .u8)) (hS : P.underlying S = some .string)
    (l : List UInt8) (hx : a.eval x = str l) (hl : l.length ≤ maxLen)
    (h : ∀ A c w', (Bs.mk A l.length c l).ok w' → Below w.heap.size w w' → K (a.put o.dst (.slice A l.length c)) w') : o.wp P a w K Q := by
  have hrun := Lib.run_convert_string_bytes (P := P) w S T e ⟨l.toArray⟩ hS hT he
  have hsz : (ByteArray.mk l.toArray).size = l.length := by simp [ByteArray.size]
  have hh := h (some ⟨w.heap.size, 0, none⟩) (grownCap w (ByteArray.mk l.toArray).size 0 e) (Lib.bytesWorld w e ⟨l.toArray⟩) ⟨?_, ?_, ?_⟩ (bytesWorld_below _ _ _)
  · rw [← hsz] at hh
    unfold Oper.wp execOp
    simp only [ho, Sem.run_bind, Sem.run_pure, Result.andThen_ok, hx, hrun]
    exact hh
  · refine ⟨by rw [bv_length, Nat.mul_one], fun hn => ⟨w.heap.size, 0, rfl, by rw [Lib.bytesWorld_size]; omega, fun j u hu => ?_⟩⟩
    have hj : j < l.length := by
      rcases Nat.lt_or_ge j l.length with h' | h'
      · exact h'
      · rw [List.getElem?_eq_none (by rw [bv_length]; exact h')] at hu; cases hu
    rw [Nat.zero_add, Lib.bytesWorld_cell w e _ j (by rw [hsz]; exact hj)]
    rw [bv_get l j l[j] (List.getElem?_eq_getElem hj)] at hu
    rw [← hu]
    simp [List.getElem?_eq_getElem hj]
  · have := grownCap_ge w (ByteArray.mk l.toArray).size 0 e
    show l.length ≤ grownCap w (ByteArray.mk l.toArray).size 0 e
    omega
  · exact grownCap_le_maxLen _ _ _ _ (by omega)
end Go.Proofs.YtckbleiikldloaaDoor


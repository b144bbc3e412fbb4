/- The walk of layer 4 (ip4): awake. No condition. -/
import Derived.Test.YtehidnfkogfaoaaPlain4
namespace Go.Proofs.Ytehidnfkogfaoaa
open Go.RowKit
set_option linter.unusedVariables false
set_option linter.unusedSimpArgs false

theorem run_build4x (x6 x7 : Int) (x3 : Bool) (a b c d e f g h : UInt8) (w : World) :
    (Instr.build 27 #[(3, .bool x3), (6, .int .u8 x6), (7, .int .u8 x7), (8, .agg (bv [a, b, c, d]).toArray), (9, .agg (bv [e, f, g, h]).toArray)]).run Try.prog w = .ok (.agg (.int .u8 0 :: .int .i64 0 :: .int .u16 0 :: .bool x3 :: .bool false :: .int .i64 0 :: .int .u8 x6 :: .int .u8 x7 :: (bv [a, b, c, d] ++ (bv [e, f, g, h] ++ [str []]))).toArray) w := by kernel_rfl
/-- the document's example: its header -/
def ex4 (n : Int) : H4 := ⟨0, n, 0, true, false, 0, 64, 17, [192, 168, 0, 1], [192, 168, 0, 199], []⟩
theorem exec_build4x {w : World} {o : Oper} {a : Act} (x3 x6 x7 x8 x9 : Operand) (ho : o.op = .build 27 #[(3, x3), (6, x6), (7, x7), (8, x8), (9, x9)])
    (h3 : a.eval x3 = .bool true) (h6 : a.eval x6 = .int .u8 64) (h7 : a.eval x7 = .int .u8 17) (h8 : a.eval x8 = .agg (bv [192, 168, 0, 1]).toArray) (h9 : a.eval x9 = .agg (bv [192, 168, 0, 199]).toArray) :
    (execOp a.eval o).run Try.prog w = .ok (.value (.agg (ex4 0).cells.toArray)) w := by
  unfold execOp
  simp only [ho, List.map_toArray, List.map_cons, List.map_nil, h3, h6, h7, h8, h9, Sem.run_bind, run_build4x, Result.andThen_ok]
  rfl
theorem ex4_fit (n : Int) (h : -9223372036854775808 ≤ n ∧ n ≤ 9223372036854775807) : (ex4 n).fit := ⟨⟨rfl, rfl⟩, by simp [ex4], h, by simp [ex4], by simp [ex4], by simp [ex4], by simp [ex4], by simp [ex4]⟩
theorem ex4_bad (n : Int) : ¬ (ex4 n).bad := by simp [H4.bad, ex4]
theorem ex4_set : (H4.cells (ex4 0)).set 1 (.int .i64 115) = (ex4 115).cells := rfl
def z95 : List UInt8 := List.replicate 95 0
theorem make95 (W : World) : (Instr.makeSlice 22 (.int .i64 95) (.int .i64 95)).run Try.prog W = .ok (.slice (some ⟨W.heap.size, 0, none⟩) 95 95) (W.alloc (.cells (bv z95).toArray 5)) := by kernel_rfl
theorem exec_make95 {w : World} {o : Oper} {a : Act} (ho : o.op = .makeSlice 22 (.const (.int .i64 95)) (.const (.int .i64 95))) : (execOp a.eval o).run Try.prog w = .ok (.value (.slice (some ⟨w.heap.size, 0, none⟩) 95 95)) (w.alloc (.cells (bv z95).toArray 5)) := by
  unfold execOp
  simp only [ho, Act.eval, Sem.run_bind, make95, Result.andThen_ok]
  rfl
/-- bytes of the call's own, of a length, and an error -/
def TupR (base : Nat) (l : List UInt8) (er : Int) (v : Value) (W : World) : Prop := ∃ A n c, v = .tuple #[.slice A n c, .int .i64 er] ∧ Own W base 5 1 A n c (bv l)
theorem mono_tup (base : Nat) (l : List UInt8) (er : Int) : ∀ v A B, TupR base l er v A → World.grownBy A B none → TupR base l er v B := fun _ _ _ ⟨X, n, c, h, ho⟩ hg => ⟨X, n, c, h, ho.below (grow_below hg)⟩
theorem bs_store {w : World} {g : Nat} {t : TypeId} {cs : List Value} {A : Option Addr} {n c : Nat} {l : List UInt8} (ho : (Bs.mk A n c l).ok w) (hb : Blk w g t cs) (hn : cs.length < n) (j : Nat) (u : Value) :
    (Bs.mk A n c l).ok (w.setCell ⟨g, j, none⟩ u) := by
  have hne := row_ne ho.row hb hn
  refine ⟨⟨ho.row.1, fun hn => ?_⟩, ho.le, ho.cap⟩
  obtain ⟨b, o, hA, hlt, hcell⟩ := ho.row.2 hn
  refine ⟨b, o, hA, by simpa [World.setCell] using hlt, fun j' u' hu => ?_⟩
  rw [World.cell?_setCell_other _ _ _ _ (fun e => hne b o hA (by injection e with e; exact e.symm))]
  exact hcell j' u' hu

set_option maxHeartbeats 4000000 in
theorem awake_any (w : World) : Calls Try.prog 9 #[] w fun e w' => e = .returned (.bool true) ∧ Below w.heap.size w w' := by
  have HF0 := Lib.hid (ex4_fit 0 (by omega))
  have HF5 := Lib.hid (ex4_fit 115 (by omega))
  have hput := put4_yes (ex4 0) (ex4_bad 0) z95 (by simp [ex4, z95])
  have hpar := par4_pkt (ex4 0) HF0.out (ex4_bad 0) z95 [] (by simp [ex4, z95])
  have hbod := body4_pkt (ex4 0) HF0.out (ex4_bad 0) z95 [] (by simp [ex4, z95])
  rw [List.append_nil] at hpar hbod
  have hpar2 : par4 (pkt4 (ex4 0) z95) = (ex4 115, 0) := hpar
  have hln : (pkt4 (ex4 0) z95).length = 115 := by rw [pkt4_length _ HF0.out.ok]; simp [ex4, z95]
  have htt := ttl4_pkt (ex4 0) HF0.out (ex4_bad 0) z95 [] (by simp [ex4, z95]) 63 (by omega) (by omega)
  rw [List.append_nil, List.append_nil] at htt
  have hl2 : (ttl4 (pkt4 (ex4 0) z95) 63).length = 115 := by rw [htt, pkt4_length _ ((ex4 0).at_fit HF0.out 63 (by omega) (by omega)).ok]; simp [ex4, z95, H4.at_ttl]
  have h10 : (pkt4 (ex4 0) z95)[10]? = some 0xb8 := by decide +kernel
  have h11 : (pkt4 (ex4 0) z95)[11]? = some 0x61 := by decide +kernel
  have k8 : (ttl4 (pkt4 (ex4 0) z95) 63)[8]? = some 63 := by rw [htt]; decide +kernel
  have k10 : (ttl4 (pkt4 (ex4 0) z95) 63)[10]? = some 0xb9 := by rw [htt]; decide +kernel
  obtain ⟨L, hL⟩ : ∃ L, L = pkt4 (ex4 0) z95 := ⟨_, rfl⟩
  rw [← hL] at hput hpar2 hbod hln hl2 h10 h11 k8 k10
  have HP := Lib.hid hput
  have HR := Lib.hid hpar2
  have HBD := Lib.hid hbod
  have HN := Lib.hid hln
  have H2 := Lib.hid hl2
  have H10 := Lib.hid h10
  have H11 := Lib.hid h11
  have K8 := Lib.hid k8
  have K10 := Lib.hid k10
  clear hput hpar hpar2 hbod hln hl2 h10 h11 k8 k10 hL htt
  go_enter Try.func9, Try.ntmps9
  go_wp2_with (first
    | (refine wpList_value rfl (exec_buildA4 _ _ _ _ rfl 192 168 0 1 rfl rfl rfl rfl) ?_)
    | (refine wpList_value rfl (exec_buildA4 _ _ _ _ rfl 192 168 0 199 rfl rfl rfl rfl) ?_)
    | (refine wpList_value rfl (exec_build4x _ _ _ _ _ rfl rfl rfl rfl rfl rfl) ?_)
    | (refine wpList_alloc_blk rfl 27 rfl H4.zero.cells zero4 ?_; intro w1 hbw1 hBw1 hsw1)
    | (refine wpList_store_all rfl 27 _ _ rfl w.heap.size (ex4 0).cells rfl rfl 27 _ hbw1 (size4 _ HF0.out.ok) (H4.cells_same _ _ HF0.out.ok H4.zero_ok) (H4.one _) ?_; intro w2 hbw2 hgw2 hsw2; have hBw2 : Below w.heap.size w w2 := bgrown hBw1 hgw2 (by omega) (by omega)))
  refine wp_region_rel (fun A B => A.grownBy B none) (fun A => grown_refl A _) (fun A B C h k => grown_trans h k) (relAt (List.cons (fun v _ => v = .agg (ex4 0).cells.toArray) (List.cons (BsR z95) (List.cons (TupR w2.heap.size L 0) (List.cons (TupR w2.heap.size L 0) (List.cons (OwnR w2.heap.size L) (List.cons (fun v _ => v = .int .i64 0) (List.cons (OwnR w2.heap.size L) (List.cons (fun v _ => v = .int .i64 0) ([])))))))))) (MonoL.at_ (.cons (mono_val _) (.cons (mono_bs _) (.cons (mono_tup _ _ _) (.cons (mono_tup _ _ _) (.cons (mono_own _ _) (.cons (mono_val _) (.cons (mono_own _ _) (.cons (mono_val _) .nil))))))))) (by kernel_rfl) (by kernel_rfl) ⟨?_, ?_, ?_, ?_, ?_, ?_, ?_, ?_, trivial⟩ ?_
  · intro a vs W hX hR he hf K hK
    rw [if_pos (wanted_none rfl)]
    have e1 : a.eval (.tmp 1) = .pointer (some ⟨w.heap.size, 0, none⟩) := hf 1 (by kernel_rfl)
    have hbW := bthen (below_drew _) (grow_below hX)
    exact wp_value (exec_load 27 _ rfl w.heap.size e1 27 (ex4 0).cells _ (hbw2.on hbW) Try.underlying27 rfl (size4 _ HF0.out.ok)) (hK _ _ rfl (grown_refl W _))
  · intro a vs W hX hR he hf K hK
    rw [if_pos (wanted_none rfl)]
    exact wp_value (exec_make95 rfl) (hK _ _ ⟨_, _, _, rfl, ⟨by rw [World.size_alloc]; exact row_lit W _ z95 95 (by simp) (by simp [z95]), Nat.le_refl _, by simp [maxLen]⟩⟩ (World.grownBy_alloc _ _ _))
  · intro a vs W hX hR he hf K hK
    rw [if_pos (wanted_none rfl)]
    have e12 : a.eval (.tmp 12) = .agg (ex4 0).cells.toArray := (he 0 12 (by kernel_rfl) rfl).trans (hR 0 (by kernel_rfl))
    have e13 := he 1 13 (by kernel_rfl) rfl
    have p13 := hR 1 (by kernel_rfl)
    change (BsR z95) (vs 1) W at p13
    obtain ⟨A, n, c, hv, ho⟩ := p13
    rw [hv] at e13
    obtain rfl : n = 95 := by have := ho.len; simp only [z95, List.length_replicate] at this; omega
    refine wp_enter (f := 14) (args := #[.agg (ex4 0).cells.toArray, .slice A 95 c]) (by simp only [execOp, e12, e13]; go_simp; exact ⟨by simpa [Act.eval] using e12, by simpa [Act.eval] using e13⟩) ((put4_any (ex4 0) HF0.out A 95 c z95 W ho.row ho.le ho.cap (by omega)).mono ?_)
    rintro e w' ⟨⟨A', n', c', l'⟩, rfl, hl, hown, hb⟩
    rw [HP.out] at hl
    simp only at hl
    subst hl
    rw [show (put4 (ex4 0) z95).2 = 0 by rw [HP.out]]
    exact ⟨_, rfl, hK _ _ ⟨A', n', c', rfl, hown.mono (grow_below hX).size⟩ (below_grow hb _)⟩
  · intro a vs W hX hR he hf K hK
    rw [if_pos (wanted_none rfl)]
    have e14 := he 2 14 (by kernel_rfl) rfl
    have p14 := hR 2 (by kernel_rfl)
    change (TupR w2.heap.size L 0) (vs 2) W at p14
    refine wp_value (v := _) ?_ (hK _ _ p14 (grown_refl W _))
    simp only [execOp, e14]
    try go_simp
  · intro a vs W hX hR he hf K hK
    rw [if_pos (wanted_none rfl)]
    have e11 := he 3 11 (by kernel_rfl) rfl
    have p11 := hR 3 (by kernel_rfl)
    change (TupR w2.heap.size L 0) (vs 3) W at p11
    obtain ⟨A, n, c, hv, ho⟩ := p11
    rw [hv] at e11
    refine wp_value (v := .slice A n c) ?_ (hK _ _ ⟨A, n, c, rfl, ho⟩ (grown_refl W _))
    simp only [execOp, e11]
    try go_simp
  · intro a vs W hX hR he hf K hK
    rw [if_pos (wanted_none rfl)]
    have e11 := he 3 11 (by kernel_rfl) rfl
    have p11 := hR 3 (by kernel_rfl)
    change (TupR w2.heap.size L 0) (vs 3) W at p11
    obtain ⟨A, n, c, hv, ho⟩ := p11
    rw [hv] at e11
    refine wp_value (v := .int .i64 0) ?_ (hK _ _ rfl (grown_refl W _))
    simp only [execOp, e11]
    try go_simp
  · intro a vs W hX hR he hf K hK
    rw [if_pos (wanted_none rfl)]
    have e15 := he 4 15 (by kernel_rfl) rfl
    have p15 := hR 4 (by kernel_rfl)
    change (OwnR w2.heap.size L) (vs 4) W at p15
    refine wp_value (v := _) ?_ (hK _ _ p15 (grown_refl W _))
    simp only [execOp, e15]
    try go_simp
  · intro a vs W hX hR he hf K hK
    rw [if_pos (wanted_none rfl)]
    have e16 : a.eval (.tmp 16) = .int .i64 0 := (he 5 16 (by kernel_rfl) rfl).trans (hR 5 (by kernel_rfl))
    refine wp_value (v := .int .i64 0) ?_ (hK _ _ rfl (grown_refl W _))
    simp only [execOp, e16]
    try go_simp
    try (first | rfl | omega | (simp only [IntKind.wrap_i64, IntKind.wrap_u8, IntKind.wrap_u64, IntKind.wrap_u16, IntKind.wrap_u32]; omega) | (rw [Int.tmod_eq_emod_of_nonneg (by omega)]) | (rw [Int.tmod_eq_emod_of_nonneg (by omega)]; omega))
  · intro vs w3 hX3 hR
    have q0 := hR 0 (by decide)
    have q1 := hR 1 (by decide)
    have q2 := hR 2 (by decide)
    have q3 := hR 3 (by decide)
    have q4 := hR 4 (by decide)
    have q5 := hR 5 (by decide)
    have q6 := hR 6 (by decide)
    have q7 := hR 7 (by decide)
    change vs 0 = .agg (ex4 0).cells.toArray at q0
    change (BsR z95) (vs 1) w3 at q1
    change (TupR w2.heap.size L 0) (vs 2) w3 at q2
    change (TupR w2.heap.size L 0) (vs 3) w3 at q3
    change (OwnR w2.heap.size L) (vs 4) w3 at q4
    change vs 5 = .int .i64 0 at q5
    change (OwnR w2.heap.size L) (vs 6) w3 at q6
    change vs 7 = .int .i64 0 at q7
    simp only [putAll, Act.put, List.setIfInBounds_toArray, List.set_cons_zero, List.set_cons_succ, q0, q5, q7]
    clear q0 q5 q7
    clear hR
    obtain ⟨A3, n3, c3, hv, ho3⟩ := q6
    rw [hv]
    have hn3 := ho3.len
    obtain rfl : n3 = 115 := by have := HN.out; rw [bv_length] at hn3; omega
    obtain ⟨b3, o3, rfl, _, _⟩ := ho3.row.2 (show 0 < 115 by omega)
    have hb3 := bthen (below_drew w2) (grow_below hX3)
    have HW := Lib.hid (bthen hBw2 hb3)
    have HB1 := Lib.hid (hbw2.on hb3)
    have HO := Lib.hid ho3.ok
    clear hv q1 q2 q3 q4 hX3 ho3 hn3 hb3 hbw2 hBw2 hBw1 hbw1 hgw2 hsw1 hsw2
    go_wp2_with fail
    refine (parse4_any (some ⟨b3, o3, none⟩) 115 c3 L w3 HO.out.row HO.out.le HO.out.cap (by omega)).mono ?_
    rintro e w4 ⟨rfl, hb4⟩
    rw [show (par4 L).2 = 0 from by rw [HR.out], show (par4 L).1 = ex4 115 from by rw [HR.out]]
    replace HW := Lib.hid (bthen HW.out hb4)
    replace HB1 := Lib.hid (HB1.out.on hb4)
    replace HO := Lib.hid (HO.out.below hb4)
    clear hb4
    have hb1c := HB1.out
    have hc1 : (Blk w4 w.heap.size 27 (ex4 0).cells) := HB1.out
    clear hb1c hc1
    go_wp2_with (first
      | (refine wpList_alloc_blk rfl 27 rfl H4.zero.cells zero4 ?_; intro w5 hbw5 hBw5 hsw5)
      | (refine wpList_store_all rfl 27 _ _ rfl w4.heap.size (ex4 115).cells rfl rfl 27 _ hbw5 (size4 _ HF5.out.ok) (H4.cells_same _ _ HF5.out.ok H4.zero_ok) (H4.one _) ?_; intro w6 hbw6 hgw6 hsw6; have hBw6 : Below w4.heap.size w4 w6 := bgrown hBw5 hgw6 (by omega) (by omega)); have hx6 := HB1.out.on hBw6; have hc2 : w6.cell? ⟨w.heap.size, 1, none⟩ = some (.int .i64 0) := hx6.cell 1; have hf2 := hx6.frozen 1)
    obtain ⟨w7, hw7⟩ : ∃ w7, w7 = w6.setCell ⟨w.heap.size, 1, none⟩ (.int .i64 115) := ⟨_, rfl⟩
    have hB7 : Below w.heap.size w w7 := by rw [hw7]; exact (bthen HW.out hBw6).setCell (Nat.le_refl _) _
    have hy7 : Blk w7 w.heap.size 27 (ex4 115).cells := by rw [hw7, ← ex4_set]; exact hx6.set 1 _
    have hz7 : Blk w7 w4.heap.size 27 (ex4 115).cells := by rw [hw7]; exact hbw6.far (p := ⟨w.heap.size, 1, none⟩) (by have := HB1.out.lt; show w4.heap.size ≠ w.heap.size; omega) _
    have ho7 : (Bs.mk (some ⟨b3, o3, none⟩) 115 c3 L).ok w7 := by rw [hw7]; exact bs_store (HO.out.below hBw6) hx6 (by rw [H4.cells_length _ HF0.out.ok]; decide) 1 _
    rw [← hw7]
    replace HO := Lib.hid ho7
    replace HW := Lib.hid hB7
    replace HB1 := Lib.hid hy7
    have HZ := Lib.hid hz7
    clear hw7 ho7 hB7 hy7 hz7 hc2 hf2 hx6 hbw6 hBw6 hbw5 hBw5 hgw6 hsw5 hsw6
    go_wp2_with fail
    refine (ttl4_any (some ⟨b3, o3, none⟩) 115 c3 L 63 w7 HO.out.row HO.out.le HO.out.cap (by omega) (by omega) (by omega)).mono ?_
    rintro e w8 ⟨⟨A8, n8, c8, l8⟩, rfl, hl8, hown8, hb8⟩
    rw [show (par4 L).2 = 0 from by rw [HR.out]]
    simp only at hl8
    subst hl8
    have ho8 := hown8.ok
    have hn8 := ho8.len
    simp only [Bs.v] at hn8 ⊢
    obtain rfl : n8 = 115 := by rw [← hn8]; exact H2.out
    replace HW := Lib.hid (bthen HW.out hb8)
    replace HB1 := Lib.hid (HB1.out.on hb8)
    replace HZ := Lib.hid (HZ.out.on hb8)
    replace HO := Lib.hid (HO.out.below hb8)
    obtain ⟨b8, o8, rfl, hlt8, hcell8⟩ := ho8.row.2 (show 0 < 115 by omega)
    obtain ⟨_, _, hA3, hlt3, hcell3⟩ := HO.out.row.2 (show 0 < 115 by omega)
    obtain ⟨rfl, rfl⟩ : _ = b3 ∧ _ = o3 := ⟨(Addr.mk.inj (Option.some.inj hA3)).1.symm, (Addr.mk.inj (Option.some.inj hA3)).2.1.symm⟩
    have C10 := hcell3 10 _ (bv_get _ 10 _ H10.out)
    have C11 := hcell3 11 _ (bv_get _ 11 _ H11.out)
    have D8 := hcell8 8 _ (bv_get _ 8 _ K8.out)
    have D10 := hcell8 10 _ (bv_get _ 10 _ K10.out)
    have HD8 := Lib.hid D8
    have HD10 := Lib.hid D10
    have HL8 := Lib.hid hlt8
    have kc3 := HO.out.le
    clear hown8 ho8 hb8 hn8 hcell8 hcell3 D8 D10 hlt8 hlt3 hA3
    simp only at kc3
    go_wp2_with (first
      | (refine wpList_load_blk (by rfl) 27 (.tmp 4) (by rfl) w4.heap.size (by rfl) 27 _ _ HZ.out Try.underlying27 rfl (size4 _ HF5.out.ok) ?_)
      | (refine wpList_load_blk (by rfl) 27 (.tmp 1) (by rfl) w.heap.size (by rfl) 27 _ _ HB1.out Try.underlying27 rfl (size4 _ HF5.out.ok) ?_)
      | (refine wpList_value (by rfl) (exec_eq4 _ _ _ (by rfl) (ex4 115) HF5.out.ok (by rfl) (by rfl)) ?_))
    refine (body4_any (some ⟨_, _, none⟩) 115 c3 L w8 HO.out.row HO.out.le HO.out.cap (by omega)).mono ?_
    rintro e w9 ⟨⟨A9, n9, c9, l9⟩, rfl, hl9, ho9, hb9⟩
    have hn9 := ho9.len
    rw [HBD.out] at hl9
    simp only at hl9
    subst hl9
    simp only [Bs.v, z95, List.length_replicate] at hn9 ⊢
    subst hn9
    replace HW := Lib.hid (bthen HW.out hb9)
    replace HB1 := Lib.hid (HB1.out.on hb9)
    replace HD8 := Lib.hid ((hb9.cell (p := ⟨b8, o8 + 8, none⟩) HL8.out).trans HD8.out)
    replace HD10 := Lib.hid ((hb9.cell (p := ⟨b8, o8 + 10, none⟩) HL8.out).trans HD10.out)
    replace HL8 := Lib.hid (Nat.lt_of_lt_of_le HL8.out hb9.size)
    clear hb9 ho9 C10 C11
    go_wp2_with (refine wpList_load_blk (by rfl) 27 (.tmp 1) (by rfl) w.heap.size (by rfl) 27 _ _ HB1.out Try.underlying27 rfl (size4 _ HF5.out.ok) ?_)
    refine (size4_any (ex4 115) HF5.out.ok _ (by simp [ex4])).mono ?_
    rintro e w10 ⟨rfl, hb10⟩
    rw [show (20 + ((ex4 115).opt.length : Int)) = 20 from rfl]
    replace HW := Lib.hid (bthen HW.out hb10)
    have D8 := (hb10.cell (p := ⟨b8, o8 + 8, none⟩) HL8.out).trans HD8.out
    have D10 := (hb10.cell (p := ⟨b8, o8 + 10, none⟩) HL8.out).trans HD10.out
    clear hb10
    go_wp2_with fail
    go_ret
    exact ⟨rfl, HW.out⟩
end Go.Proofs.Ytehidnfkogfaoaa

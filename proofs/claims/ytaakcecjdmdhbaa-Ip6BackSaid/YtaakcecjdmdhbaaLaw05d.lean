/- The walk of layer 5 (ip6): Back. No condition but those of the row. -/
import Derived.Test.YtaakcecjdmdhbaaLaw05
import Derived.Test.YtaakcecjdmdhbaaOpenH6
import Derived.Test.YtaakcecjdmdhbaaIp6e
namespace Go.Proofs.Ytaakcecjdmdhbaa
open Go.RowKit
set_option linter.unusedVariables false
set_option linter.unusedSimpArgs false

theorem grown_setX (W : World) (b o : Nat) (v : Value) : W.grownBy (W.setCell ⟨b, o, none⟩ v) (some b) :=
  ⟨rfl, rfl, rfl, by simp [World.setCell], fun k hk hne => Below.heap_setCell W ⟨b, o, none⟩ v k (by intro e; exact hne (by rw [e]))⟩

set_option maxHeartbeats 4000000 in
set_option maxRecDepth 20000 in
theorem walk_Ip6Back (w : World) (h : H6) (hf : h.fit) (b1 : Bs) (hb1 : b1.ok w) (b2 : Bs) (hb2 : b2.ok w) : Calls Try.prog 5 #[.agg h.cells.toArray, b1.v, b2.v] w fun e w' => e = .returned (.bool true) ∧ Below w.heap.size w w' := by
  obtain ⟨A, n, c, l⟩ := b1
  obtain ⟨X, m, cx, x⟩ := b2
  have hll := hb1.len
  have hlx := hb2.len
  simp only [Bs.v] at hll hlx ⊢
  have HF := Lib.hid hf
  have HO := Lib.hid hb1
  have HX := Lib.hid hb2
  clear hf hb1 hb2
  by_cases hs : n ≤ 1000
  rotate_left
  · have hs1 : (1000 : Int) < (n : Int) := by omega
    go_enter Try.func5, Try.ntmps5
    go_wp2_with (refine wpList_box_blk rfl 26 _ rfl h.cells rfl ?_; intro w1 hbb1 hB1 hs1)
    refine (awake_any w1).mono ?_
    rintro e w2 ⟨rfl, hb2⟩
    go_wp2
    go_ret
    exact ⟨rfl, bthen hB1 hb2⟩
  have hs1 : ¬ (1000 : Int) < (n : Int) := by omega
  by_cases hs' : m ≤ 100
  rotate_left
  · have hs2 : (100 : Int) < (m : Int) := by omega
    go_enter Try.func5, Try.ntmps5
    go_wp2_with (refine wpList_box_blk rfl 26 _ rfl h.cells rfl ?_; intro w1 hbb1 hB1 hs1)
    refine (awake_any w1).mono ?_
    rintro e w2 ⟨rfl, hb2⟩
    go_wp2
    go_ret
    exact ⟨rfl, bthen hB1 hb2⟩
  have hs2 : ¬ (100 : Int) < (m : Int) := by omega
  go_enter Try.func5, Try.ntmps5
  go_wp2_with (refine wpList_box_blk rfl 26 _ rfl h.cells rfl ?_; intro w1 hbb1 hB1 hs1; have HB1 := Lib.hid hbb1; clear hbb1 hs1)
  refine (awake_any w1).mono ?_
  rintro e w2 ⟨rfl, hb2⟩
  have HW2 := Lib.hid (bthen hB1 hb2)
  have HB2 := Lib.hid (HB1.out.on hb2)
  have HO2 := Lib.hid (HO.out.below HW2.out)
  clear HB1 hB1 hb2
  go_wp2_with (refine wpList_load_blk rfl 26 _ rfl w.heap.size rfl 26 _ _ HB2.out Try.underlying26 rfl (size6 _ HF.out.ok) ?_)
  refine (put6_own h HF.out A n c l w2 HO2.out.row HO2.out.le HO2.out.cap).mono ?_
  rintro e w3 ⟨⟨A3, n3, c3, l3⟩, rfl, hl3, ho3, hb3⟩
  simp only at hl3 ho3
  have hW3 := bthen HW2.out hb3
  have hb3s := hb3.size
  have hB3 := HB2.out.on hb3
  have hn3 := ho3.ok.len
  simp only [Bs.v] at hn3 ⊢
  by_cases hx : h.flow < 0 ∨ 1048576 ≤ h.flow
  · have hp : put6 h l = ([], 1) := by unfold put6; rw [if_pos hx]
    rw [hp] at hl3 ⊢
    simp only at hl3
    subst hl3
    obtain rfl : n3 = 0 := by simpa using hn3.symm
    clear hn3 ho3 hb3 hB3
    go_wp2
    go_ret
    exact ⟨rfl, hW3⟩
  have hx0 : 0 ≤ h.flow := by omega
  have hx1 : h.flow < 1048576 := by omega
  clear hx
  rw [put6_yes h hx0 hx1 l (by omega)] at hl3 ⊢
  simp only at hl3
  have hn40 : n3 = 40 + n := by rw [← hn3, hl3, pkt6_length _ HF.out.ok, hll]
  have hok : ({ h with len := (n : Int) } : H6).ok := ⟨HF.out.ok.src, HF.out.ok.dst⟩
  obtain ⟨tt, htt⟩ : ∃ tt, ((h.ttl + 1) % 256) = tt := ⟨_, rfl⟩
  have hu0 : 0 ≤ tt ∧ tt ≤ 255 := by omega
  have fb : ({ h with ttl := tt } : H6).fit := ⟨⟨HF.out.ok.src, HF.out.ok.dst⟩, HF.out.cls, HF.out.flow, HF.out.len, HF.out.next, hu0⟩
  have HP := Lib.hid (show par6 (pkt6 h l ++ x) = ({ h with len := (n : Int) }, 0) by have := par6_pkt h HF.out hx0 hx1 l x (by omega); rw [hll] at this; exact this)
  have HT := Lib.hid (ttl6_pkt h HF.out hx0 hx1 l x (by omega) tt)
  have HBD1 := Lib.hid (body6_pkt h HF.out hx0 hx1 l x (by omega))
  have HP2 := Lib.hid (show par6 (pkt6 { h with ttl := tt } l ++ x) = ({ h with ttl := tt, len := (n : Int) }, 0) by have := par6_pkt { h with ttl := tt } fb hx0 hx1 l x (by omega); rw [hll] at this; exact this)
  have HBD2 := Lib.hid (body6_pkt { h with ttl := tt } fb hx0 hx1 l x (by omega))
  have HPS := Lib.hid (show par6 (l3.take 39) = (H6.zero, 10) by unfold par6; rw [if_pos (by rw [List.length_take]; omega)])
  have hlen12 : (pkt6 { h with ttl := tt } l ++ x).length = n3 + m := by rw [List.length_append, pkt6_length _ fb.ok, hn40]; omega
  have HU := Lib.hid htt
  have HOK := Lib.hid hok
  have HOK2 := Lib.hid (show ({ h with ttl := tt, len := (n : Int) } : H6).ok from ⟨HF.out.ok.src, HF.out.ok.dst⟩)
  have HL3 := Lib.hid hl3
  have hsz2 : w.heap.size < w2.heap.size := HB2.out.lt
  obtain ⟨g3, rfl, hg3, hg3', hcl3, hfr3⟩ := ho3.open_ (by omega)
  have hc2 : w3.cell? ⟨w.heap.size, 2, none⟩ = some (.int .i64 h.len) := hB3.cell 2
  have hf2 := hB3.frozen 2
  have hset := hB3.set 2 (.int .i64 (n : Int))
  rw [show h.cells.set 2 (.int .i64 (n : Int)) = ({ h with len := (n : Int) } : H6).cells from rfl] at hset
  have hown := ho3.kept (grown_setX w3 w.heap.size 2 (.int .i64 (n : Int))) (fun k hk => by have := (ho3.lt k hk).1; rintro ⟨⟩; omega)
  have hW4 := hW3.setCell (p := ⟨w.heap.size, 2, none⟩) (Nat.le_refl _) (.int .i64 (n : Int))
  have hle3 : (39 : Int) ≤ (c3 : Int) := by have := ho3.le; omega
  obtain ⟨w4, hw4⟩ : ∃ w4, w4 = w3.setCell ⟨w.heap.size, 2, none⟩ (.int .i64 (n : Int)) := ⟨_, rfl⟩
  have hsz4 : w3.heap.size = w4.heap.size := by rw [hw4]; simp [World.setCell]
  rw [← hw4] at hset hown hW4
  have HB4 := Lib.hid hset
  have HO4 := Lib.hid hown
  have HW4 := Lib.hid hW4
  have HF4 := Lib.hid fb
  have H40 := Lib.hid hn40
  have HN3 := Lib.hid hn3
  have HW4E := Lib.hid hw4
  have HG3 := Lib.hid hg3
  clear hset hown hW4 hW3 hb3 hB3 fb ho3 hcl3 hfr3 hl3 hok htt hn3 hn40 hg3' hw4 hg3
  have hr39 : Row w4 w4.heap.size 1 (some ⟨g3, 0, none⟩) 39 (bv (l3.take 39)) := by
    have := HO4.out.ok.row.take (k := 39) (show 39 ≤ n3 by have := H40.out; omega)
    rw [show 39 * 1 = 39 from rfl, ← bv_take] at this
    exact this
  have HR39 := Lib.hid hr39
  clear hr39
  go_wp2_with fail
  rw [← HW4E.out]
  refine (parse6_any (some ⟨g3, 0, none⟩) 39 c3 (l3.take 39) w4 HR39.out (by omega) HO4.out.cap (by omega)).mono ?_
  rintro e w5 ⟨rfl, hb5⟩
  rw [HPS.out]
  have HW5 := Lib.hid (bthen HW4.out hb5)
  have HB5 := Lib.hid (HB4.out.on hb5)
  have HO5 := Lib.hid (HO4.out.below hb5)
  have HS5 := Lib.hid (Nat.le_trans (Nat.le_of_eq hsz4) hb5.size)
  clear hb5 hsz4 hc2 hf2
  go_wp2_with (first
    | (refine wpList_alloc_blk rfl 26 rfl H6.zero.cells zero6 ?_; intro w6 hbw6 hBw6 hsw6)
    | (refine wpList_store_all rfl 26 _ _ rfl w5.heap.size H6.zero.cells rfl rfl 26 _ hbw6 (size6 _ H6.zero_ok) (H6.cells_same _ _ H6.zero_ok H6.zero_ok) (H6.one _) ?_; intro w7 hbw7 hgw7 hsw7; have hBw7 : Below w5.heap.size w5 w7 := bgrown hBw6 hgw7 (by omega) (by omega)); have HW7 := Lib.hid (bthen HW5.out hBw7); have HO7 := Lib.hid (HO5.out.below hBw7); have HB7 := Lib.hid (HB5.out.on hBw7); have HX7 := Lib.hid (HX.out.below HW7.out); have HS7 := Lib.hid (Nat.le_trans hb3s (Nat.le_trans HS5.out hBw7.size))
    | (at_builtin; refine wpList_append_Own _ rfl _ _ 22 rfl w2.heap.size 5 _ 1 1 Try.underlying22 infoByte rfl (by decide) _ _ _ _ rfl HO7.out w7.heap.size X m cx (bv x) rfl HX7.out.row (bv_one _) (by have := H40.out; simp only [maxLen]; omega) (by have := H40.out; omega) HS7.out ?_; intro A8 c8 w8 hown8 hg8 _))
  have hW8 := below_grown HW7.out hg8 HW7.out.size (fun k hk => by have := (HO7.out.lt k hk).1; omega)
  have hB8 := HB7.out.grown hg8 (fun e => by have := (HO7.out.lt _ e.symm).1; omega)
  rw [← bv_append, HL3.out] at hown8
  have HO8 := Lib.hid hown8.ok
  have HW8 := Lib.hid hW8
  have HB8 := Lib.hid hB8
  clear hown8 hg8 hW8 hB8 hBw6 hsw6 hBw7 hgw7 hsw7 hbw7 HO7 HB7 HX7 HS7 HW7 HS5 HO5 HB5 HW5 HR39 HW4E HO4 HB4 HW4
  go_wp2_with fail
  refine (parse6_any A8 (n3 + m) c8 (pkt6 h l ++ x) w8 HO8.out.row HO8.out.le HO8.out.cap (by have := H40.out; omega)).mono ?_
  rintro e w9 ⟨rfl, hb9⟩
  rw [HP.out]
  have HW9 := Lib.hid (bthen HW8.out hb9)
  have HB9 := Lib.hid (HB8.out.on hb9)
  have HO9 := Lib.hid (HO8.out.below hb9)
  clear hb9 HW8 HB8 HO8
  go_wp2_with (first
    | (refine wpList_alloc_blk rfl 26 rfl H6.zero.cells zero6 ?_; intro w10 hbw10 hBw10 hsw10)
    | (refine wpList_store_all rfl 26 _ _ rfl w9.heap.size ({ h with len := (n : Int) } : H6).cells rfl rfl 26 _ hbw10 (size6 _ HOK.out) (H6.cells_same _ _ HOK.out H6.zero_ok) (H6.one _) ?_; intro w11 hbw11 hgw11 hsw11; have hBw11 : Below w9.heap.size w9 w11 := bgrown hBw10 hgw11 (by omega) (by omega)); have HW11 := Lib.hid (bthen HW9.out hBw11); have HO11 := Lib.hid (HO9.out.below hBw11); have hB11 := HB9.out.on hBw11; have HP11 := Lib.hid hbw11; have c11 : w11.cell? ⟨w.heap.size, 4, none⟩ = some (.int .u8 h.ttl) := hB11.cell 4; have HB11 := Lib.hid hB11; clear hB11)
  rw [HU.out]
  refine (ttl6_any A8 (n3 + m) c8 (pkt6 h l ++ x) tt w11 HO11.out.row HO11.out.le HO11.out.cap (by have := H40.out; omega) hu0.1 hu0.2).mono ?_
  rintro e w12 ⟨⟨A12, n12, c12, l12⟩, rfl, hl12, ho12, hb12⟩
  rw [HP.out]
  rw [HT.out] at hl12
  simp only at hl12
  subst hl12
  have hn12 := ho12.len
  simp only [Bs.v] at hn12 ⊢
  rw [hlen12] at hn12
  subst hn12
  have HW12 := Lib.hid (bthen HW11.out hb12)
  have HB12 := Lib.hid (HB11.out.on hb12)
  have HP12 := Lib.hid (HP11.out.on hb12)
  have HO12 := Lib.hid (HO11.out.below hb12)
  have HC12 := Lib.hid ho12
  clear hb12 ho12 HW11 HB11 HP11 HO11 c11 hBw10 hsw10 hBw11 hgw11 hsw11 hbw11 HW9 HB9 HO9
  go_wp2_with fail
  refine (parse6_any A12 (n3 + m) c12 _ w12 HC12.out.row HC12.out.le HC12.out.cap (by have := H40.out; omega)).mono ?_
  rintro e w13 ⟨rfl, hb13⟩
  rw [HP2.out]
  have HW13 := Lib.hid (bthen HW12.out hb13)
  have HB13 := Lib.hid (HB12.out.on hb13)
  have HP13 := Lib.hid (HP12.out.on hb13)
  have HO13 := Lib.hid (HO12.out.below hb13)
  have HC13 := Lib.hid (HC12.out.below hb13)
  clear hb13 HW12 HB12 HP12 HO12 HC12
  go_wp2_with (first
    | (refine wpList_alloc_blk rfl 26 rfl H6.zero.cells zero6 ?_; intro w14 hbw14 hBw14 hsw14)
    | (refine wpList_store_all rfl 26 _ _ rfl w13.heap.size ({ h with ttl := tt, len := (n : Int) } : H6).cells rfl rfl 26 _ hbw14 (size6 _ HOK2.out) (H6.cells_same _ _ HOK2.out H6.zero_ok) (H6.one _) ?_; intro w15 hbw15 hgw15 hsw15; have hBw15 : Below w13.heap.size w13 w15 := bgrown hBw14 hgw15 (by omega) (by omega)))
  have HW15 := Lib.hid (bthen HW13.out hBw15)
  have HB15 := Lib.hid (HB13.out.on hBw15)
  have HP15 := Lib.hid (HP13.out.on hBw15)
  have HO15 := Lib.hid (HO13.out.below hBw15)
  have HC15 := Lib.hid (HC13.out.below hBw15)
  have HQ15 := Lib.hid hbw15
  have HL15 := Lib.hid (HO.out.below HW15.out)
  have HLT := Lib.hid HB13.out.lt
  have h40 : (n3 : Int) = 40 + (n : Int) := by have := H40.out; omega
  clear HW13 HB13 HP13 HO13 HC13 hBw14 hsw14 hBw15 hgw15 hsw15 hbw15
  refine wp_region_rel (fun A B => A.grownBy B none) (fun A => grown_refl A _) (fun A B C h k => grown_trans h k) (relAt (List.cons (fun v _ => v = .agg ({ h with len := (n : Int) } : H6).cells.toArray) (List.cons (fun v _ => v = .agg ({ h with len := (n : Int) } : H6).cells.toArray) (List.cons (fun v _ => v = .bool false) (List.cons (fun v _ => v = .bool false) (List.cons (fun v _ => v = .int .i64 0) (List.cons (fun v _ => v = .bool false) (List.cons (fun v _ => v = .bool false) (List.cons (fun v _ => v = .bool false) (List.cons (fun v _ => v = .int .i64 0) (List.cons (fun v _ => v = .bool false) (List.cons (fun v _ => v = .bool false) (List.cons (fun v _ => v = .bool false) (List.cons (fun v _ => v = .int .i64 0) (List.cons (fun v _ => v = .bool false) (List.cons (fun v _ => v = .bool false) (List.cons (fun v _ => v = .bool false) (List.cons (fun v _ => v = .slice A8 (n3 + m) c8) (List.cons (BsR l) (List.cons (fun v _ => v = str l) (List.cons (fun v _ => v = .slice A n c) (List.cons (fun v _ => v = str l) (List.cons (fun v _ => v = .bool false) (List.cons (fun v _ => v = .bool false) (List.cons (fun v _ => v = .bool false) (List.cons (fun v _ => v = .slice A12 (n3 + m) c12) (List.cons (BsR l) (List.cons (fun v _ => v = str l) (List.cons (fun v _ => v = .slice A n c) (List.cons (fun v _ => v = str l) (List.cons (fun v _ => v = .bool false) (List.cons (fun v _ => v = .bool false) (List.cons (fun v _ => v = .bool false) (List.cons (fun v _ => v = .int .i64 (n3 : Int)) (List.cons (fun v _ => v = .slice A n c) (List.cons (fun v _ => v = .int .i64 (n : Int)) (List.cons (fun v _ => v = .int .i64 (40 + (n : Int))) (List.cons (fun v _ => v = .bool false) (List.cons (fun v _ => v = .bool false) (List.cons (fun v _ => v = .bool false) (List.cons (fun v _ => v = .int .i64 10) (List.cons (fun v _ => v = .bool false) (List.cons (fun v _ => v = .bool false) ([])))))))))))))))))))))))))))))))))))))))))))) (MonoL.at_ (.cons (mono_val _) (.cons (mono_val _) (.cons (mono_val _) (.cons (mono_val _) (.cons (mono_val _) (.cons (mono_val _) (.cons (mono_val _) (.cons (mono_val _) (.cons (mono_val _) (.cons (mono_val _) (.cons (mono_val _) (.cons (mono_val _) (.cons (mono_val _) (.cons (mono_val _) (.cons (mono_val _) (.cons (mono_val _) (.cons (mono_val _) (.cons (mono_bs _) (.cons (mono_val _) (.cons (mono_val _) (.cons (mono_val _) (.cons (mono_val _) (.cons (mono_val _) (.cons (mono_val _) (.cons (mono_val _) (.cons (mono_bs _) (.cons (mono_val _) (.cons (mono_val _) (.cons (mono_val _) (.cons (mono_val _) (.cons (mono_val _) (.cons (mono_val _) (.cons (mono_val _) (.cons (mono_val _) (.cons (mono_val _) (.cons (mono_val _) (.cons (mono_val _) (.cons (mono_val _) (.cons (mono_val _) (.cons (mono_val _) (.cons (mono_val _) (.cons (mono_val _) .nil))))))))))))))))))))))))))))))))))))))))))) (by kernel_rfl) (by kernel_rfl) ⟨?_, ?_, ?_, ?_, ?_, ?_, ?_, ?_, ?_, ?_, ?_, ?_, ?_, ?_, ?_, ?_, ?_, ?_, ?_, ?_, ?_, ?_, ?_, ?_, ?_, ?_, ?_, ?_, ?_, ?_, ?_, ?_, ?_, ?_, ?_, ?_, ?_, ?_, ?_, ?_, ?_, ?_, trivial⟩ ?_
  · intro a vs W hX hR he hf K hK
    rw [if_pos (wanted_none rfl)]
    have e13 : a.eval (.tmp 13) = .pointer (some ⟨w9.heap.size, 0, none⟩) := hf 13 (by kernel_rfl)
    have hbW := bthen (below_drew _) (grow_below hX)
    exact wp_value (exec_load 26 _ rfl w9.heap.size e13 26 ({ h with len := (n : Int) } : H6).cells _ (HP15.out.on hbW) Try.underlying26 rfl (size6 _ HOK.out)) (hK _ _ rfl (grown_refl W _))
  · intro a vs W hX hR he hf K hK
    rw [if_pos (wanted_none rfl)]
    have e3 : a.eval (.tmp 3) = .pointer (some ⟨w.heap.size, 0, none⟩) := hf 3 (by kernel_rfl)
    have hbW := bthen (below_drew _) (grow_below hX)
    exact wp_value (exec_load 26 _ rfl w.heap.size e3 26 ({ h with len := (n : Int) } : H6).cells _ (HB15.out.on hbW) Try.underlying26 rfl (size6 _ HOK.out)) (hK _ _ rfl (grown_refl W _))
  · intro a vs W hX hR he hf K hK
    rw [if_pos (wanted_none rfl)]
    have e77 : a.eval (.tmp 77) = .agg ({ h with len := (n : Int) } : H6).cells.toArray := (he 0 77 (by kernel_rfl) rfl).trans (hR 0 (by kernel_rfl))
    have e78 : a.eval (.tmp 78) = .agg ({ h with len := (n : Int) } : H6).cells.toArray := (he 1 78 (by kernel_rfl) rfl).trans (hR 1 (by kernel_rfl))
    exact wp_value (exec_neq6 _ _ _ rfl ({ h with len := (n : Int) } : H6) HOK.out e77 e78) (hK _ _ rfl (grown_refl W _))
  · intro a vs W hX hR he hf K hK
    rw [if_pos (wanted_none rfl)]
    have e79 : a.eval (.tmp 79) = .bool false := (he 2 79 (by kernel_rfl) rfl).trans (hR 2 (by kernel_rfl))
    refine wp_value (v := .bool false) ?_ (hK _ _ rfl (grown_refl W _))
    simp only [execOp, e79]
    try go_simp
    try (first | rfl | omega | (simp only [IntKind.wrap_i64, IntKind.wrap_u8, IntKind.wrap_u64, IntKind.wrap_u16, IntKind.wrap_u32]; omega) | (rw [Int.tmod_eq_emod_of_nonneg (by omega)]) | (rw [Int.tmod_eq_emod_of_nonneg (by omega)]; omega))
  · intro a vs W hX hR he hf K hK
    have e80 : a.eval (.tmp 80) = .bool false := (he 3 80 (by kernel_rfl) rfl).trans (hR 3 (by kernel_rfl))
    refine Eq.mpr (if_pos (by exact (wanted_some rfl rfl e80).trans rfl)) ?_
    have e14 : a.eval (.tmp 14) = .int .i64 0 := hf 14 (by kernel_rfl)
    refine wp_value (v := .int .i64 0) ?_ (hK _ _ rfl (grown_refl W _))
    simp only [execOp, e14]
    try go_simp
    try (first | rfl | omega | (simp only [IntKind.wrap_i64, IntKind.wrap_u8, IntKind.wrap_u64, IntKind.wrap_u16, IntKind.wrap_u32]; omega) | (rw [Int.tmod_eq_emod_of_nonneg (by omega)]) | (rw [Int.tmod_eq_emod_of_nonneg (by omega)]; omega))
  · intro a vs W hX hR he hf K hK
    have e80 : a.eval (.tmp 80) = .bool false := (he 3 80 (by kernel_rfl) rfl).trans (hR 3 (by kernel_rfl))
    refine Eq.mpr (if_pos (by exact (wanted_some rfl rfl e80).trans rfl)) ?_
    have e81 : a.eval (.tmp 81) = .int .i64 0 := (he 4 81 (by kernel_rfl) rfl).trans (hR 4 (by kernel_rfl))
    refine wp_value (v := .bool false) ?_ (hK _ _ rfl (grown_refl W _))
    simp only [execOp, e81]
    try go_simp
    try (first | rfl | omega | (simp only [IntKind.wrap_i64, IntKind.wrap_u8, IntKind.wrap_u64, IntKind.wrap_u16, IntKind.wrap_u32]; omega) | (rw [Int.tmod_eq_emod_of_nonneg (by omega)]) | (rw [Int.tmod_eq_emod_of_nonneg (by omega)]; omega))
  · intro a vs W hX hR he hf K hK
    rw [if_pos (wanted_none rfl)]
    have e80 : a.eval (.tmp 80) = .bool false := (he 3 80 (by kernel_rfl) rfl).trans (hR 3 (by kernel_rfl))
    have e82 : a.eval (.tmp 82) = .bool false := (he 5 82 (by kernel_rfl) rfl).trans (hR 5 (by kernel_rfl))
    refine wp_value (v := .bool false) ?_ (hK _ _ rfl (grown_refl W _))
    simp only [execOp, e80, e82]
    try go_simp
    try (first | rfl | omega | (simp only [IntKind.wrap_i64, IntKind.wrap_u8, IntKind.wrap_u64, IntKind.wrap_u16, IntKind.wrap_u32]; omega) | (rw [Int.tmod_eq_emod_of_nonneg (by omega)]) | (rw [Int.tmod_eq_emod_of_nonneg (by omega)]; omega))
  · intro a vs W hX hR he hf K hK
    rw [if_pos (wanted_none rfl)]
    have e83 : a.eval (.tmp 83) = .bool false := (he 6 83 (by kernel_rfl) rfl).trans (hR 6 (by kernel_rfl))
    refine wp_value (v := .bool false) ?_ (hK _ _ rfl (grown_refl W _))
    simp only [execOp, e83]
    try go_simp
    try (first | rfl | omega | (simp only [IntKind.wrap_i64, IntKind.wrap_u8, IntKind.wrap_u64, IntKind.wrap_u16, IntKind.wrap_u32]; omega) | (rw [Int.tmod_eq_emod_of_nonneg (by omega)]) | (rw [Int.tmod_eq_emod_of_nonneg (by omega)]; omega))
  · intro a vs W hX hR he hf K hK
    have e84 : a.eval (.tmp 84) = .bool false := (he 7 84 (by kernel_rfl) rfl).trans (hR 7 (by kernel_rfl))
    refine Eq.mpr (if_pos (by exact (wanted_some rfl rfl e84).trans rfl)) ?_
    have e16 : a.eval (.tmp 16) = .int .i64 0 := hf 16 (by kernel_rfl)
    refine wp_value (v := .int .i64 0) ?_ (hK _ _ rfl (grown_refl W _))
    simp only [execOp, e16]
    try go_simp
    try (first | rfl | omega | (simp only [IntKind.wrap_i64, IntKind.wrap_u8, IntKind.wrap_u64, IntKind.wrap_u16, IntKind.wrap_u32]; omega) | (rw [Int.tmod_eq_emod_of_nonneg (by omega)]) | (rw [Int.tmod_eq_emod_of_nonneg (by omega)]; omega))
  · intro a vs W hX hR he hf K hK
    have e84 : a.eval (.tmp 84) = .bool false := (he 7 84 (by kernel_rfl) rfl).trans (hR 7 (by kernel_rfl))
    refine Eq.mpr (if_pos (by exact (wanted_some rfl rfl e84).trans rfl)) ?_
    have e85 : a.eval (.tmp 85) = .int .i64 0 := (he 8 85 (by kernel_rfl) rfl).trans (hR 8 (by kernel_rfl))
    refine wp_value (v := .bool false) ?_ (hK _ _ rfl (grown_refl W _))
    simp only [execOp, e85]
    try go_simp
    try (first | rfl | omega | (simp only [IntKind.wrap_i64, IntKind.wrap_u8, IntKind.wrap_u64, IntKind.wrap_u16, IntKind.wrap_u32]; omega) | (rw [Int.tmod_eq_emod_of_nonneg (by omega)]) | (rw [Int.tmod_eq_emod_of_nonneg (by omega)]; omega))
  · intro a vs W hX hR he hf K hK
    rw [if_pos (wanted_none rfl)]
    have e84 : a.eval (.tmp 84) = .bool false := (he 7 84 (by kernel_rfl) rfl).trans (hR 7 (by kernel_rfl))
    have e86 : a.eval (.tmp 86) = .bool false := (he 9 86 (by kernel_rfl) rfl).trans (hR 9 (by kernel_rfl))
    refine wp_value (v := .bool false) ?_ (hK _ _ rfl (grown_refl W _))
    simp only [execOp, e84, e86]
    try go_simp
    try (first | rfl | omega | (simp only [IntKind.wrap_i64, IntKind.wrap_u8, IntKind.wrap_u64, IntKind.wrap_u16, IntKind.wrap_u32]; omega) | (rw [Int.tmod_eq_emod_of_nonneg (by omega)]) | (rw [Int.tmod_eq_emod_of_nonneg (by omega)]; omega))
  · intro a vs W hX hR he hf K hK
    rw [if_pos (wanted_none rfl)]
    have e87 : a.eval (.tmp 87) = .bool false := (he 10 87 (by kernel_rfl) rfl).trans (hR 10 (by kernel_rfl))
    refine wp_value (v := .bool false) ?_ (hK _ _ rfl (grown_refl W _))
    simp only [execOp, e87]
    try go_simp
    try (first | rfl | omega | (simp only [IntKind.wrap_i64, IntKind.wrap_u8, IntKind.wrap_u64, IntKind.wrap_u16, IntKind.wrap_u32]; omega) | (rw [Int.tmod_eq_emod_of_nonneg (by omega)]) | (rw [Int.tmod_eq_emod_of_nonneg (by omega)]; omega))
  · intro a vs W hX hR he hf K hK
    have e88 : a.eval (.tmp 88) = .bool false := (he 11 88 (by kernel_rfl) rfl).trans (hR 11 (by kernel_rfl))
    refine Eq.mpr (if_pos (by exact (wanted_some rfl rfl e88).trans rfl)) ?_
    have e18 : a.eval (.tmp 18) = .int .i64 0 := hf 18 (by kernel_rfl)
    refine wp_value (v := .int .i64 0) ?_ (hK _ _ rfl (grown_refl W _))
    simp only [execOp, e18]
    try go_simp
    try (first | rfl | omega | (simp only [IntKind.wrap_i64, IntKind.wrap_u8, IntKind.wrap_u64, IntKind.wrap_u16, IntKind.wrap_u32]; omega) | (rw [Int.tmod_eq_emod_of_nonneg (by omega)]) | (rw [Int.tmod_eq_emod_of_nonneg (by omega)]; omega))
  · intro a vs W hX hR he hf K hK
    have e88 : a.eval (.tmp 88) = .bool false := (he 11 88 (by kernel_rfl) rfl).trans (hR 11 (by kernel_rfl))
    refine Eq.mpr (if_pos (by exact (wanted_some rfl rfl e88).trans rfl)) ?_
    have e89 : a.eval (.tmp 89) = .int .i64 0 := (he 12 89 (by kernel_rfl) rfl).trans (hR 12 (by kernel_rfl))
    refine wp_value (v := .bool false) ?_ (hK _ _ rfl (grown_refl W _))
    simp only [execOp, e89]
    try go_simp
    try (first | rfl | omega | (simp only [IntKind.wrap_i64, IntKind.wrap_u8, IntKind.wrap_u64, IntKind.wrap_u16, IntKind.wrap_u32]; omega) | (rw [Int.tmod_eq_emod_of_nonneg (by omega)]) | (rw [Int.tmod_eq_emod_of_nonneg (by omega)]; omega))
  · intro a vs W hX hR he hf K hK
    rw [if_pos (wanted_none rfl)]
    have e88 : a.eval (.tmp 88) = .bool false := (he 11 88 (by kernel_rfl) rfl).trans (hR 11 (by kernel_rfl))
    have e90 : a.eval (.tmp 90) = .bool false := (he 13 90 (by kernel_rfl) rfl).trans (hR 13 (by kernel_rfl))
    refine wp_value (v := .bool false) ?_ (hK _ _ rfl (grown_refl W _))
    simp only [execOp, e88, e90]
    try go_simp
    try (first | rfl | omega | (simp only [IntKind.wrap_i64, IntKind.wrap_u8, IntKind.wrap_u64, IntKind.wrap_u16, IntKind.wrap_u32]; omega) | (rw [Int.tmod_eq_emod_of_nonneg (by omega)]) | (rw [Int.tmod_eq_emod_of_nonneg (by omega)]; omega))
  · intro a vs W hX hR he hf K hK
    rw [if_pos (wanted_none rfl)]
    have e91 : a.eval (.tmp 91) = .bool false := (he 14 91 (by kernel_rfl) rfl).trans (hR 14 (by kernel_rfl))
    refine wp_value (v := .bool false) ?_ (hK _ _ rfl (grown_refl W _))
    simp only [execOp, e91]
    try go_simp
    try (first | rfl | omega | (simp only [IntKind.wrap_i64, IntKind.wrap_u8, IntKind.wrap_u64, IntKind.wrap_u16, IntKind.wrap_u32]; omega) | (rw [Int.tmod_eq_emod_of_nonneg (by omega)]) | (rw [Int.tmod_eq_emod_of_nonneg (by omega)]; omega))
  · intro a vs W hX hR he hf K hK
    have e92 : a.eval (.tmp 92) = .bool false := (he 15 92 (by kernel_rfl) rfl).trans (hR 15 (by kernel_rfl))
    refine Eq.mpr (if_pos (by exact (wanted_some rfl rfl e92).trans rfl)) ?_
    have e8 : a.eval (.tmp 8) = .slice A8 (n3 + m) c8 := hf 8 (by kernel_rfl)
    refine wp_value (v := .slice A8 (n3 + m) c8) ?_ (hK _ _ rfl (grown_refl W _))
    simp only [execOp, e8]
    try go_simp
    try (first | rfl | omega | (simp only [IntKind.wrap_i64, IntKind.wrap_u8, IntKind.wrap_u64, IntKind.wrap_u16, IntKind.wrap_u32]; omega) | (rw [Int.tmod_eq_emod_of_nonneg (by omega)]) | (rw [Int.tmod_eq_emod_of_nonneg (by omega)]; omega))
  · intro a vs W hX hR he hf K hK
    have e92 : a.eval (.tmp 92) = .bool false := (he 15 92 (by kernel_rfl) rfl).trans (hR 15 (by kernel_rfl))
    refine Eq.mpr (if_pos (by exact (wanted_some rfl rfl e92).trans rfl)) ?_
    have e93 : a.eval (.tmp 93) = .slice A8 (n3 + m) c8 := (he 16 93 (by kernel_rfl) rfl).trans (hR 16 (by kernel_rfl))
    have hbW := bthen (below_drew _) (grow_below hX)
    have ho := HO15.out.below hbW
    refine wp_enter (f := 10) (args := #[.slice A8 (n3 + m) c8]) (by simp only [execOp, e93]; go_simp; simpa [Act.eval] using e93) ((body6_any A8 (n3 + m) c8 _ W ho.row ho.le ho.cap (by omega)).mono ?_)
    rintro e w' ⟨⟨A', n', c', l'⟩, rfl, hl, ho', hb⟩
    rw [HBD1.out] at hl
    simp only at hl
    subst hl
    exact ⟨_, rfl, hK _ _ ⟨_, _, _, rfl, ho'⟩ (below_grow hb _)⟩
  · intro a vs W hX hR he hf K hK
    have e92 : a.eval (.tmp 92) = .bool false := (he 15 92 (by kernel_rfl) rfl).trans (hR 15 (by kernel_rfl))
    refine Eq.mpr (if_pos (by exact (wanted_some rfl rfl e92).trans rfl)) ?_
    have e94 := he 17 94 (by kernel_rfl) rfl
    have p94 := hR 17 (by kernel_rfl)
    obtain ⟨A, n, c, hv, ho⟩ := p94
    rw [hv] at e94
    exact wp_value (exec_str 22 9 5 _ rfl Try.underlying22 Try.underlying5 Try.underlying9 A n c _ e94 ho) (hK _ _ rfl (grown_refl W _))
  · intro a vs W hX hR he hf K hK
    have e92 : a.eval (.tmp 92) = .bool false := (he 15 92 (by kernel_rfl) rfl).trans (hR 15 (by kernel_rfl))
    refine Eq.mpr (if_pos (by exact (wanted_some rfl rfl e92).trans rfl)) ?_
    have e1 : a.eval (.tmp 1) = .slice A n c := hf 1 (by kernel_rfl)
    refine wp_value (v := .slice A n c) ?_ (hK _ _ rfl (grown_refl W _))
    simp only [execOp, e1]
    try go_simp
    try (first | rfl | omega | (simp only [IntKind.wrap_i64, IntKind.wrap_u8, IntKind.wrap_u64, IntKind.wrap_u16, IntKind.wrap_u32]; omega) | (rw [Int.tmod_eq_emod_of_nonneg (by omega)]) | (rw [Int.tmod_eq_emod_of_nonneg (by omega)]; omega))
  · intro a vs W hX hR he hf K hK
    have e92 : a.eval (.tmp 92) = .bool false := (he 15 92 (by kernel_rfl) rfl).trans (hR 15 (by kernel_rfl))
    refine Eq.mpr (if_pos (by exact (wanted_some rfl rfl e92).trans rfl)) ?_
    have e96 : a.eval (.tmp 96) = .slice A n c := (he 19 96 (by kernel_rfl) rfl).trans (hR 19 (by kernel_rfl))
    have hbW := bthen (below_drew _) (grow_below hX)
    exact wp_value (exec_str 22 9 5 _ rfl Try.underlying22 Try.underlying5 Try.underlying9 A n c l e96 (HL15.out.below hbW)) (hK _ _ rfl (grown_refl W _))
  · intro a vs W hX hR he hf K hK
    have e92 : a.eval (.tmp 92) = .bool false := (he 15 92 (by kernel_rfl) rfl).trans (hR 15 (by kernel_rfl))
    refine Eq.mpr (if_pos (by exact (wanted_some rfl rfl e92).trans rfl)) ?_
    have e95 : a.eval (.tmp 95) = str l := (he 18 95 (by kernel_rfl) rfl).trans (hR 18 (by kernel_rfl))
    have e97 : a.eval (.tmp 97) = str l := (he 20 97 (by kernel_rfl) rfl).trans (hR 20 (by kernel_rfl))
    refine wp_value (v := .bool false) ?_ (hK _ _ rfl (grown_refl W _))
    simp only [execOp, e95, e97]
    try go_simp
    try (first | rfl | omega | (simp only [IntKind.wrap_i64, IntKind.wrap_u8, IntKind.wrap_u64, IntKind.wrap_u16, IntKind.wrap_u32]; omega) | (rw [Int.tmod_eq_emod_of_nonneg (by omega)]) | (rw [Int.tmod_eq_emod_of_nonneg (by omega)]; omega))
  · intro a vs W hX hR he hf K hK
    rw [if_pos (wanted_none rfl)]
    have e92 : a.eval (.tmp 92) = .bool false := (he 15 92 (by kernel_rfl) rfl).trans (hR 15 (by kernel_rfl))
    have e98 : a.eval (.tmp 98) = .bool false := (he 21 98 (by kernel_rfl) rfl).trans (hR 21 (by kernel_rfl))
    refine wp_value (v := .bool false) ?_ (hK _ _ rfl (grown_refl W _))
    simp only [execOp, e92, e98]
    try go_simp
    try (first | rfl | omega | (simp only [IntKind.wrap_i64, IntKind.wrap_u8, IntKind.wrap_u64, IntKind.wrap_u16, IntKind.wrap_u32]; omega) | (rw [Int.tmod_eq_emod_of_nonneg (by omega)]) | (rw [Int.tmod_eq_emod_of_nonneg (by omega)]; omega))
  · intro a vs W hX hR he hf K hK
    rw [if_pos (wanted_none rfl)]
    have e99 : a.eval (.tmp 99) = .bool false := (he 22 99 (by kernel_rfl) rfl).trans (hR 22 (by kernel_rfl))
    refine wp_value (v := .bool false) ?_ (hK _ _ rfl (grown_refl W _))
    simp only [execOp, e99]
    try go_simp
    try (first | rfl | omega | (simp only [IntKind.wrap_i64, IntKind.wrap_u8, IntKind.wrap_u64, IntKind.wrap_u16, IntKind.wrap_u32]; omega) | (rw [Int.tmod_eq_emod_of_nonneg (by omega)]) | (rw [Int.tmod_eq_emod_of_nonneg (by omega)]; omega))
  · intro a vs W hX hR he hf K hK
    have e100 : a.eval (.tmp 100) = .bool false := (he 23 100 (by kernel_rfl) rfl).trans (hR 23 (by kernel_rfl))
    refine Eq.mpr (if_pos (by exact (wanted_some rfl rfl e100).trans rfl)) ?_
    have e15 : a.eval (.tmp 15) = .slice A12 (n3 + m) c12 := hf 15 (by kernel_rfl)
    refine wp_value (v := .slice A12 (n3 + m) c12) ?_ (hK _ _ rfl (grown_refl W _))
    simp only [execOp, e15]
    try go_simp
    try (first | rfl | omega | (simp only [IntKind.wrap_i64, IntKind.wrap_u8, IntKind.wrap_u64, IntKind.wrap_u16, IntKind.wrap_u32]; omega) | (rw [Int.tmod_eq_emod_of_nonneg (by omega)]) | (rw [Int.tmod_eq_emod_of_nonneg (by omega)]; omega))
  · intro a vs W hX hR he hf K hK
    have e100 : a.eval (.tmp 100) = .bool false := (he 23 100 (by kernel_rfl) rfl).trans (hR 23 (by kernel_rfl))
    refine Eq.mpr (if_pos (by exact (wanted_some rfl rfl e100).trans rfl)) ?_
    have e101 : a.eval (.tmp 101) = .slice A12 (n3 + m) c12 := (he 24 101 (by kernel_rfl) rfl).trans (hR 24 (by kernel_rfl))
    have hbW := bthen (below_drew _) (grow_below hX)
    have ho := HC15.out.below hbW
    refine wp_enter (f := 10) (args := #[.slice A12 (n3 + m) c12]) (by simp only [execOp, e101]; go_simp; simpa [Act.eval] using e101) ((body6_any A12 (n3 + m) c12 _ W ho.row ho.le ho.cap (by omega)).mono ?_)
    rintro e w' ⟨⟨A', n', c', l'⟩, rfl, hl, ho', hb⟩
    rw [HBD2.out] at hl
    simp only at hl
    subst hl
    exact ⟨_, rfl, hK _ _ ⟨_, _, _, rfl, ho'⟩ (below_grow hb _)⟩
  · intro a vs W hX hR he hf K hK
    have e100 : a.eval (.tmp 100) = .bool false := (he 23 100 (by kernel_rfl) rfl).trans (hR 23 (by kernel_rfl))
    refine Eq.mpr (if_pos (by exact (wanted_some rfl rfl e100).trans rfl)) ?_
    have e102 := he 25 102 (by kernel_rfl) rfl
    have p102 := hR 25 (by kernel_rfl)
    obtain ⟨A, n, c, hv, ho⟩ := p102
    rw [hv] at e102
    exact wp_value (exec_str 22 9 5 _ rfl Try.underlying22 Try.underlying5 Try.underlying9 A n c _ e102 ho) (hK _ _ rfl (grown_refl W _))
  · intro a vs W hX hR he hf K hK
    have e100 : a.eval (.tmp 100) = .bool false := (he 23 100 (by kernel_rfl) rfl).trans (hR 23 (by kernel_rfl))
    refine Eq.mpr (if_pos (by exact (wanted_some rfl rfl e100).trans rfl)) ?_
    have e1 : a.eval (.tmp 1) = .slice A n c := hf 1 (by kernel_rfl)
    refine wp_value (v := .slice A n c) ?_ (hK _ _ rfl (grown_refl W _))
    simp only [execOp, e1]
    try go_simp
    try (first | rfl | omega | (simp only [IntKind.wrap_i64, IntKind.wrap_u8, IntKind.wrap_u64, IntKind.wrap_u16, IntKind.wrap_u32]; omega) | (rw [Int.tmod_eq_emod_of_nonneg (by omega)]) | (rw [Int.tmod_eq_emod_of_nonneg (by omega)]; omega))
  · intro a vs W hX hR he hf K hK
    have e100 : a.eval (.tmp 100) = .bool false := (he 23 100 (by kernel_rfl) rfl).trans (hR 23 (by kernel_rfl))
    refine Eq.mpr (if_pos (by exact (wanted_some rfl rfl e100).trans rfl)) ?_
    have e104 : a.eval (.tmp 104) = .slice A n c := (he 27 104 (by kernel_rfl) rfl).trans (hR 27 (by kernel_rfl))
    have hbW := bthen (below_drew _) (grow_below hX)
    exact wp_value (exec_str 22 9 5 _ rfl Try.underlying22 Try.underlying5 Try.underlying9 A n c l e104 (HL15.out.below hbW)) (hK _ _ rfl (grown_refl W _))
  · intro a vs W hX hR he hf K hK
    have e100 : a.eval (.tmp 100) = .bool false := (he 23 100 (by kernel_rfl) rfl).trans (hR 23 (by kernel_rfl))
    refine Eq.mpr (if_pos (by exact (wanted_some rfl rfl e100).trans rfl)) ?_
    have e103 : a.eval (.tmp 103) = str l := (he 26 103 (by kernel_rfl) rfl).trans (hR 26 (by kernel_rfl))
    have e105 : a.eval (.tmp 105) = str l := (he 28 105 (by kernel_rfl) rfl).trans (hR 28 (by kernel_rfl))
    refine wp_value (v := .bool false) ?_ (hK _ _ rfl (grown_refl W _))
    simp only [execOp, e103, e105]
    try go_simp
    try (first | rfl | omega | (simp only [IntKind.wrap_i64, IntKind.wrap_u8, IntKind.wrap_u64, IntKind.wrap_u16, IntKind.wrap_u32]; omega) | (rw [Int.tmod_eq_emod_of_nonneg (by omega)]) | (rw [Int.tmod_eq_emod_of_nonneg (by omega)]; omega))
  · intro a vs W hX hR he hf K hK
    rw [if_pos (wanted_none rfl)]
    have e100 : a.eval (.tmp 100) = .bool false := (he 23 100 (by kernel_rfl) rfl).trans (hR 23 (by kernel_rfl))
    have e106 : a.eval (.tmp 106) = .bool false := (he 29 106 (by kernel_rfl) rfl).trans (hR 29 (by kernel_rfl))
    refine wp_value (v := .bool false) ?_ (hK _ _ rfl (grown_refl W _))
    simp only [execOp, e100, e106]
    try go_simp
    try (first | rfl | omega | (simp only [IntKind.wrap_i64, IntKind.wrap_u8, IntKind.wrap_u64, IntKind.wrap_u16, IntKind.wrap_u32]; omega) | (rw [Int.tmod_eq_emod_of_nonneg (by omega)]) | (rw [Int.tmod_eq_emod_of_nonneg (by omega)]; omega))
  · intro a vs W hX hR he hf K hK
    rw [if_pos (wanted_none rfl)]
    have e107 : a.eval (.tmp 107) = .bool false := (he 30 107 (by kernel_rfl) rfl).trans (hR 30 (by kernel_rfl))
    refine wp_value (v := .bool false) ?_ (hK _ _ rfl (grown_refl W _))
    simp only [execOp, e107]
    try go_simp
    try (first | rfl | omega | (simp only [IntKind.wrap_i64, IntKind.wrap_u8, IntKind.wrap_u64, IntKind.wrap_u16, IntKind.wrap_u32]; omega) | (rw [Int.tmod_eq_emod_of_nonneg (by omega)]) | (rw [Int.tmod_eq_emod_of_nonneg (by omega)]; omega))
  · intro a vs W hX hR he hf K hK
    have e108 : a.eval (.tmp 108) = .bool false := (he 31 108 (by kernel_rfl) rfl).trans (hR 31 (by kernel_rfl))
    refine Eq.mpr (if_pos (by exact (wanted_some rfl rfl e108).trans rfl)) ?_
    have e10 : a.eval (.tmp 10) = .int .i64 (n3 : Int) := hf 10 (by kernel_rfl)
    refine wp_value (v := .int .i64 (n3 : Int)) ?_ (hK _ _ rfl (grown_refl W _))
    simp only [execOp, e10]
    try go_simp
    try (first | rfl | omega | (simp only [IntKind.wrap_i64, IntKind.wrap_u8, IntKind.wrap_u64, IntKind.wrap_u16, IntKind.wrap_u32]; omega) | (rw [Int.tmod_eq_emod_of_nonneg (by omega)]) | (rw [Int.tmod_eq_emod_of_nonneg (by omega)]; omega))
  · intro a vs W hX hR he hf K hK
    have e108 : a.eval (.tmp 108) = .bool false := (he 31 108 (by kernel_rfl) rfl).trans (hR 31 (by kernel_rfl))
    refine Eq.mpr (if_pos (by exact (wanted_some rfl rfl e108).trans rfl)) ?_
    have e1 : a.eval (.tmp 1) = .slice A n c := hf 1 (by kernel_rfl)
    refine wp_value (v := .slice A n c) ?_ (hK _ _ rfl (grown_refl W _))
    simp only [execOp, e1]
    try go_simp
    try (first | rfl | omega | (simp only [IntKind.wrap_i64, IntKind.wrap_u8, IntKind.wrap_u64, IntKind.wrap_u16, IntKind.wrap_u32]; omega) | (rw [Int.tmod_eq_emod_of_nonneg (by omega)]) | (rw [Int.tmod_eq_emod_of_nonneg (by omega)]; omega))
  · intro a vs W hX hR he hf K hK
    have e108 : a.eval (.tmp 108) = .bool false := (he 31 108 (by kernel_rfl) rfl).trans (hR 31 (by kernel_rfl))
    refine Eq.mpr (if_pos (by exact (wanted_some rfl rfl e108).trans rfl)) ?_
    have e110 : a.eval (.tmp 110) = .slice A n c := (he 33 110 (by kernel_rfl) rfl).trans (hR 33 (by kernel_rfl))
    have f110 := e110
    simp only [Act.eval, Array.getD_eq_getD_getElem?] at f110
    refine wp_value (v := .int .i64 (n : Int)) ?_ (hK _ _ rfl (grown_refl W _))
    simp only [execOp, e110]
    try go_simp
    try (first | rfl | omega | (simp only [IntKind.wrap_i64, IntKind.wrap_u8, IntKind.wrap_u64, IntKind.wrap_u16, IntKind.wrap_u32]; omega) | (rw [Int.tmod_eq_emod_of_nonneg (by omega)]) | (rw [Int.tmod_eq_emod_of_nonneg (by omega)]; omega))
  · intro a vs W hX hR he hf K hK
    have e108 : a.eval (.tmp 108) = .bool false := (he 31 108 (by kernel_rfl) rfl).trans (hR 31 (by kernel_rfl))
    refine Eq.mpr (if_pos (by exact (wanted_some rfl rfl e108).trans rfl)) ?_
    have e111 : a.eval (.tmp 111) = .int .i64 (n : Int) := (he 34 111 (by kernel_rfl) rfl).trans (hR 34 (by kernel_rfl))
    refine wp_value (v := .int .i64 (40 + (n : Int))) ?_ (hK _ _ rfl (grown_refl W _))
    simp only [execOp, e111]
    try go_simp
    try (first | rfl | omega | (simp only [IntKind.wrap_i64, IntKind.wrap_u8, IntKind.wrap_u64, IntKind.wrap_u16, IntKind.wrap_u32]; omega) | (rw [Int.tmod_eq_emod_of_nonneg (by omega)]) | (rw [Int.tmod_eq_emod_of_nonneg (by omega)]; omega))
  · intro a vs W hX hR he hf K hK
    have e108 : a.eval (.tmp 108) = .bool false := (he 31 108 (by kernel_rfl) rfl).trans (hR 31 (by kernel_rfl))
    refine Eq.mpr (if_pos (by exact (wanted_some rfl rfl e108).trans rfl)) ?_
    have e109 : a.eval (.tmp 109) = .int .i64 (n3 : Int) := (he 32 109 (by kernel_rfl) rfl).trans (hR 32 (by kernel_rfl))
    have e112 : a.eval (.tmp 112) = .int .i64 (40 + (n : Int)) := (he 35 112 (by kernel_rfl) rfl).trans (hR 35 (by kernel_rfl))
    refine wp_value (v := _) ?_ (hK _ _ rfl (grown_refl W _))
    simp only [execOp, e109, e112]
    go_simp
    try simp
    try omega
  · intro a vs W hX hR he hf K hK
    rw [if_pos (wanted_none rfl)]
    have e108 : a.eval (.tmp 108) = .bool false := (he 31 108 (by kernel_rfl) rfl).trans (hR 31 (by kernel_rfl))
    have e113 : a.eval (.tmp 113) = .bool false := (he 36 113 (by kernel_rfl) rfl).trans (hR 36 (by kernel_rfl))
    refine wp_value (v := .bool false) ?_ (hK _ _ rfl (grown_refl W _))
    simp only [execOp, e108, e113]
    try go_simp
    try (first | rfl | omega | (simp only [IntKind.wrap_i64, IntKind.wrap_u8, IntKind.wrap_u64, IntKind.wrap_u16, IntKind.wrap_u32]; omega) | (rw [Int.tmod_eq_emod_of_nonneg (by omega)]) | (rw [Int.tmod_eq_emod_of_nonneg (by omega)]; omega))
  · intro a vs W hX hR he hf K hK
    rw [if_pos (wanted_none rfl)]
    have e114 : a.eval (.tmp 114) = .bool false := (he 37 114 (by kernel_rfl) rfl).trans (hR 37 (by kernel_rfl))
    refine wp_value (v := .bool false) ?_ (hK _ _ rfl (grown_refl W _))
    simp only [execOp, e114]
    try go_simp
    try (first | rfl | omega | (simp only [IntKind.wrap_i64, IntKind.wrap_u8, IntKind.wrap_u64, IntKind.wrap_u16, IntKind.wrap_u32]; omega) | (rw [Int.tmod_eq_emod_of_nonneg (by omega)]) | (rw [Int.tmod_eq_emod_of_nonneg (by omega)]; omega))
  · intro a vs W hX hR he hf K hK
    have e115 : a.eval (.tmp 115) = .bool false := (he 38 115 (by kernel_rfl) rfl).trans (hR 38 (by kernel_rfl))
    refine Eq.mpr (if_pos (by exact (wanted_some rfl rfl e115).trans rfl)) ?_
    have e12 : a.eval (.tmp 12) = .int .i64 10 := hf 12 (by kernel_rfl)
    refine wp_value (v := .int .i64 10) ?_ (hK _ _ rfl (grown_refl W _))
    simp only [execOp, e12]
    try go_simp
    try (first | rfl | omega | (simp only [IntKind.wrap_i64, IntKind.wrap_u8, IntKind.wrap_u64, IntKind.wrap_u16, IntKind.wrap_u32]; omega) | (rw [Int.tmod_eq_emod_of_nonneg (by omega)]) | (rw [Int.tmod_eq_emod_of_nonneg (by omega)]; omega))
  · intro a vs W hX hR he hf K hK
    have e115 : a.eval (.tmp 115) = .bool false := (he 38 115 (by kernel_rfl) rfl).trans (hR 38 (by kernel_rfl))
    refine Eq.mpr (if_pos (by exact (wanted_some rfl rfl e115).trans rfl)) ?_
    have e116 : a.eval (.tmp 116) = .int .i64 10 := (he 39 116 (by kernel_rfl) rfl).trans (hR 39 (by kernel_rfl))
    refine wp_value (v := .bool false) ?_ (hK _ _ rfl (grown_refl W _))
    simp only [execOp, e116]
    try go_simp
    try (first | rfl | omega | (simp only [IntKind.wrap_i64, IntKind.wrap_u8, IntKind.wrap_u64, IntKind.wrap_u16, IntKind.wrap_u32]; omega) | (rw [Int.tmod_eq_emod_of_nonneg (by omega)]) | (rw [Int.tmod_eq_emod_of_nonneg (by omega)]; omega))
  · intro a vs W hX hR he hf K hK
    rw [if_pos (wanted_none rfl)]
    have e115 : a.eval (.tmp 115) = .bool false := (he 38 115 (by kernel_rfl) rfl).trans (hR 38 (by kernel_rfl))
    have e117 : a.eval (.tmp 117) = .bool false := (he 40 117 (by kernel_rfl) rfl).trans (hR 40 (by kernel_rfl))
    refine wp_value (v := .bool false) ?_ (hK _ _ rfl (grown_refl W _))
    simp only [execOp, e115, e117]
    try go_simp
    try (first | rfl | omega | (simp only [IntKind.wrap_i64, IntKind.wrap_u8, IntKind.wrap_u64, IntKind.wrap_u16, IntKind.wrap_u32]; omega) | (rw [Int.tmod_eq_emod_of_nonneg (by omega)]) | (rw [Int.tmod_eq_emod_of_nonneg (by omega)]; omega))
  · intro vs W hX hR
    have q0 := hR 0 (by decide)
    have q1 := hR 1 (by decide)
    have q2 := hR 2 (by decide)
    have q3 := hR 3 (by decide)
    have q4 := hR 4 (by decide)
    have q5 := hR 5 (by decide)
    have q6 := hR 6 (by decide)
    have q7 := hR 7 (by decide)
    have q8 := hR 8 (by decide)
    have q9 := hR 9 (by decide)
    have q10 := hR 10 (by decide)
    have q11 := hR 11 (by decide)
    have q12 := hR 12 (by decide)
    have q13 := hR 13 (by decide)
    have q14 := hR 14 (by decide)
    have q15 := hR 15 (by decide)
    have q16 := hR 16 (by decide)
    have q17 := hR 17 (by decide)
    have q18 := hR 18 (by decide)
    have q19 := hR 19 (by decide)
    have q20 := hR 20 (by decide)
    have q21 := hR 21 (by decide)
    have q22 := hR 22 (by decide)
    have q23 := hR 23 (by decide)
    have q24 := hR 24 (by decide)
    have q25 := hR 25 (by decide)
    have q26 := hR 26 (by decide)
    have q27 := hR 27 (by decide)
    have q28 := hR 28 (by decide)
    have q29 := hR 29 (by decide)
    have q30 := hR 30 (by decide)
    have q31 := hR 31 (by decide)
    have q32 := hR 32 (by decide)
    have q33 := hR 33 (by decide)
    have q34 := hR 34 (by decide)
    have q35 := hR 35 (by decide)
    have q36 := hR 36 (by decide)
    have q37 := hR 37 (by decide)
    have q38 := hR 38 (by decide)
    have q39 := hR 39 (by decide)
    have q40 := hR 40 (by decide)
    have q41 := hR 41 (by decide)
    change vs 0 = .agg ({ h with len := (n : Int) } : H6).cells.toArray at q0
    change vs 1 = .agg ({ h with len := (n : Int) } : H6).cells.toArray at q1
    change vs 2 = .bool false at q2
    change vs 3 = .bool false at q3
    change vs 4 = .int .i64 0 at q4
    change vs 5 = .bool false at q5
    change vs 6 = .bool false at q6
    change vs 7 = .bool false at q7
    change vs 8 = .int .i64 0 at q8
    change vs 9 = .bool false at q9
    change vs 10 = .bool false at q10
    change vs 11 = .bool false at q11
    change vs 12 = .int .i64 0 at q12
    change vs 13 = .bool false at q13
    change vs 14 = .bool false at q14
    change vs 15 = .bool false at q15
    change vs 16 = .slice A8 (n3 + m) c8 at q16
    change (BsR l) (vs 17) W at q17
    change vs 18 = str l at q18
    change vs 19 = .slice A n c at q19
    change vs 20 = str l at q20
    change vs 21 = .bool false at q21
    change vs 22 = .bool false at q22
    change vs 23 = .bool false at q23
    change vs 24 = .slice A12 (n3 + m) c12 at q24
    change (BsR l) (vs 25) W at q25
    change vs 26 = str l at q26
    change vs 27 = .slice A n c at q27
    change vs 28 = str l at q28
    change vs 29 = .bool false at q29
    change vs 30 = .bool false at q30
    change vs 31 = .bool false at q31
    change vs 32 = .int .i64 (n3 : Int) at q32
    change vs 33 = .slice A n c at q33
    change vs 34 = .int .i64 (n : Int) at q34
    change vs 35 = .int .i64 (40 + (n : Int)) at q35
    change vs 36 = .bool false at q36
    change vs 37 = .bool false at q37
    change vs 38 = .bool false at q38
    change vs 39 = .int .i64 10 at q39
    change vs 40 = .bool false at q40
    change vs 41 = .bool false at q41
    simp only [putAll, Act.put, List.setIfInBounds_toArray, List.set_cons_zero, List.set_cons_succ, q0, q1, q2, q3, q4, q5, q6, q7, q8, q9, q10, q11, q12, q13, q14, q15, q16, q18, q19, q20, q21, q22, q23, q24, q26, q27, q28, q29, q30, q31, q32, q33, q34, q35, q36, q37, q38, q39, q40, q41]
    clear q0 q1 q2 q3 q4 q5 q6 q7 q8 q9 q10 q11 q12 q13 q14 q15 q16 q18 q19 q20 q21 q22 q23 q24 q26 q27 q28 q29 q30 q31 q32 q33 q34 q35 q36 q37 q38 q39 q40 q41
    clear hR
    have hbW := bthen (below_drew _) (grow_below hX)
    have hbB := HB15.out.on hbW
    have hbQ := HQ15.out.on hbW
    have hW := bthen HW15.out hbW
    have c4 : W.cell? ⟨w.heap.size, 4, none⟩ = some (.int .u8 h.ttl) := hbB.cell 4
    have f4 := hbB.frozen 4
    have HS := Lib.hid (hbB.set 4 (.int .u8 (((h.ttl + 1) % 256))))
    have HQ := Lib.hid (hbQ.far (p := ⟨w.heap.size, 4, none⟩) (by have := HLT.out; show w13.heap.size ≠ w.heap.size; omega) (.int .u8 (((h.ttl + 1) % 256))))
    have HWW := Lib.hid (hW.setCell (p := ⟨w.heap.size, 4, none⟩) (Nat.le_refl _) (.int .u8 (((h.ttl + 1) % 256))))
    rw [show ({ h with len := (n : Int) } : H6).cells.set 4 (.int .u8 ((h.ttl + 1) % 256)) = ({ h with ttl := tt, len := (n : Int) } : H6).cells by rw [HU.out]; rfl] at HS
    clear hbB hbQ hW hbW hX
    go_wp2_with (first
      | (refine wpList_load_blk (by rfl) 26 (.tmp 17) (by rfl) w13.heap.size (by rfl) 26 _ _ HQ.out Try.underlying26 rfl (size6 _ HOK2.out) ?_)
      | (refine wpList_load_blk (by rfl) 26 (.tmp 3) (by rfl) w.heap.size (by rfl) 26 _ _ HS.out Try.underlying26 rfl (size6 _ HOK2.out) ?_)
      | (refine wpList_value (by rfl) (exec_eq6 _ _ _ (by rfl) _ HOK2.out (by rfl) (by rfl)) ?_))
    go_ret
    exact ⟨rfl, HWW.out⟩

end Go.Proofs.Ytaakcecjdmdhbaa

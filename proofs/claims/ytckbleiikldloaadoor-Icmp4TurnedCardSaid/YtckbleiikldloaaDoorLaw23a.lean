/- The walks of Icmp4Puts and Icmp4Gets (layer 23). No condition but what the package's table holds. -/
import Derived.Test.YtckbleiikldloaaDoorG23
import Derived.Test.YtckbleiikldloaaDoorG24
import Derived.Test.YtckbleiikldloaaDoorG13
namespace Go.Proofs.YtckbleiikldloaaDoor
open Go.RowKit
set_option linter.unusedVariables false
set_option maxRecDepth 20000
set_option linter.unusedSimpArgs false

theorem exec_eqS {w : World} {o : Oper} {c : Act} (x y : Operand) (ty : TypeId) (ho : o.op = .binOp .eql 9 x y ty) (s : List UInt8) (hx : c.eval x = str s) (hy : c.eval y = str s) : (execOp c.eval o).run Tryd.prog w = .ok (.value (.bool true)) w := exec_eqS23 x y ty ho s hx hy
theorem Mm.ok.on {w w' : World} {m : Mm} (h : m.ok w) (hb : Below w.heap.size w w') : m.ok w' := ⟨h.kind, h.mtu, h.beg, (h.row.below hb).more hb.size, h.le, h.cap, h.fit⟩
theorem Mp.ok.mm {w : World} {m : Mp} (h : m.ok w) : m.m.ok w := ⟨h.kind, h.mtu, by have h1 := h.blen; have h2 := h.ble; have h3 := h.bcap; unfold maxLen at h3; show m.beg.length ≤ _; omega, h.row, h.le, h.cap, h.fit⟩
theorem toldG_small (l : List UInt8) : (toldG l).1.length ≤ 16 := by
  unfold toldG
  split
  · simp
  · split
    · simp
    · split
      · simp
      · rw [outs_length]; omega
theorem getF4_small (l : List UInt8) : (getF4 l).1.2.2.2.length ≤ 16 := by
  unfold getF4 gotF4
  have h := toldG_small ((readF4 l).1.drop 136)
  repeat' split
  all_goals first | exact h | simp [noGot]
set_option maxRecDepth 100000 in
set_option maxHeartbeats 4000000 in
theorem walk_Icmp4Puts (W : World) (hT : Typ23 W) (m : Mp) (hm : m.ok W) (s : List UInt8) (hs : s.length = 4) (d : List UInt8) (hd : d.length = 4) :
    Calls Tryd.prog 3 #[.agg m.cells.toArray, .agg (bv s).toArray, .agg (bv d).toArray] W fun e w' => e = .returned (.bool true) ∧ Below W.heap.size W w' := by
  have AW := Lib.hid (awake23 W hT)
  have HT := Lib.hid hT
  have HM := Lib.hid hm
  have HS := Lib.hid hs
  have HD := Lib.hid hd
  have hpl : m.pn ≤ 9223372036854775807 := by have h1 := hm.ble; have h2 := hm.bcap; unfold maxLen at h2; omega
  have hnl : m.n ≤ 9223372036854775807 := by have h1 := hm.le; have h2 := hm.cap; unfold maxLen at h2; omega
  clear hT hm hs hd
  by_cases h1 : 400 < m.pn
  · have h1i : (400 : Int) < (m.pn : Int) := by omega
    go_enter Tryd.func3, Tryd.ntmps3
    go_upto_region 1 with (first
      | (refine wpList_box_blk (by rfl) 25 (.tmp 0) rfl m.cells rfl ?_; intro w1 hb1 hB1 hs1; clear hs1)
      | (refine wpList_box_blk (by rfl) 26 (.tmp 1) rfl (bv s) rfl ?_; intro w2 hb2 hB2 hs2; clear hs2)
      | (refine wpList_box_blk (by rfl) 26 (.tmp 2) rfl (bv d) rfl ?_; intro w3 hb3 hB3 hs3; clear hs3))
    obtain ⟨g0, hg0⟩ : ∃ g, W.heap.size = g := ⟨_, rfl⟩
    obtain ⟨g1, hg1⟩ : ∃ g, w1.heap.size = g := ⟨_, rfl⟩
    obtain ⟨g2, hg2⟩ : ∃ g, w2.heap.size = g := ⟨_, rfl⟩
    have hk1 := (hb1.on hB2).on hB3
    have hk2 := hb2.on hB3
    rw [hg0] at hk1
    rw [hg1] at hk2
    rw [hg2] at hb3
    try rw [hg0]
    try rw [hg1]
    try rw [hg2]
    have HK := Lib.hid hk1
    have HS2 := Lib.hid hk2
    have HD2 := Lib.hid hb3
    have HW := Lib.hid (bthen (bthen hB1 hB2) hB3)
    clear hb1 hB1 hb2 hB2 hb3 hB3 hk1 hk2 hg0 hg1 hg2
    go_wp2_with fail
    refine (awake23 w3 (HT.out.on HW.out)).mono ?_
    rintro e w4 ⟨rfl, hb⟩
    replace HW := Lib.hid (bthen HW.out hb)
    replace HK := Lib.hid (HK.out.on hb)
    replace HS2 := Lib.hid (HS2.out.on hb)
    replace HD2 := Lib.hid (HD2.out.on hb)
    have k2 : w4.cell? ⟨g0, 2, none⟩ = some (.slice m.P m.pn m.pc) := HK.out.cell 2
    have k3 : w4.cell? ⟨g0, 3, none⟩ = some (.slice m.A m.n m.c) := HK.out.cell 3
    clear hb
    go_wp2_with fail
    go_ret
    exact ⟨rfl, HW.out⟩
  · have h1i : ¬ (400 : Int) < (m.pn : Int) := by omega
    by_cases h2 : 40 < m.n
    · have h2i : (40 : Int) < (m.n : Int) := by omega
      go_enter Tryd.func3, Tryd.ntmps3
      go_upto_region 1 with (first
        | (refine wpList_box_blk (by rfl) 25 (.tmp 0) rfl m.cells rfl ?_; intro w1 hb1 hB1 hs1; clear hs1)
        | (refine wpList_box_blk (by rfl) 26 (.tmp 1) rfl (bv s) rfl ?_; intro w2 hb2 hB2 hs2; clear hs2)
        | (refine wpList_box_blk (by rfl) 26 (.tmp 2) rfl (bv d) rfl ?_; intro w3 hb3 hB3 hs3; clear hs3))
      obtain ⟨g0, hg0⟩ : ∃ g, W.heap.size = g := ⟨_, rfl⟩
      obtain ⟨g1, hg1⟩ : ∃ g, w1.heap.size = g := ⟨_, rfl⟩
      obtain ⟨g2, hg2⟩ : ∃ g, w2.heap.size = g := ⟨_, rfl⟩
      have hk1 := (hb1.on hB2).on hB3
      have hk2 := hb2.on hB3
      rw [hg0] at hk1
      rw [hg1] at hk2
      rw [hg2] at hb3
      try rw [hg0]
      try rw [hg1]
      try rw [hg2]
      have HK := Lib.hid hk1
      have HS2 := Lib.hid hk2
      have HD2 := Lib.hid hb3
      have HW := Lib.hid (bthen (bthen hB1 hB2) hB3)
      clear hb1 hB1 hb2 hB2 hb3 hB3 hk1 hk2 hg0 hg1 hg2
      go_wp2_with fail
      refine (awake23 w3 (HT.out.on HW.out)).mono ?_
      rintro e w4 ⟨rfl, hb⟩
      replace HW := Lib.hid (bthen HW.out hb)
      replace HK := Lib.hid (HK.out.on hb)
      replace HS2 := Lib.hid (HS2.out.on hb)
      replace HD2 := Lib.hid (HD2.out.on hb)
      have k2 : w4.cell? ⟨g0, 2, none⟩ = some (.slice m.P m.pn m.pc) := HK.out.cell 2
      have k3 : w4.cell? ⟨g0, 3, none⟩ = some (.slice m.A m.n m.c) := HK.out.cell 3
      clear hb
      go_wp2_with fail
      go_ret
      exact ⟨rfl, HW.out⟩
    · have h2i : ¬ (40 : Int) < (m.n : Int) := by omega
      obtain ⟨F, hF⟩ : ∃ F, (put23 m.m s d).1 = F := ⟨_, rfl⟩
      obtain ⟨q, hq⟩ : ∃ q, (put23 m.m s d).2 = q := ⟨_, rfl⟩
      have HF := Lib.hid (show put23 m.m s d = (F, q) by rw [← hF, ← hq])
      have hL1 : True := trivial
      clear hF hq
      go_enter Tryd.func3, Tryd.ntmps3
      go_upto_region 1 with (first
        | (refine wpList_box_blk (by rfl) 25 (.tmp 0) rfl m.cells rfl ?_; intro w1 hb1 hB1 hs1; clear hs1)
        | (refine wpList_box_blk (by rfl) 26 (.tmp 1) rfl (bv s) rfl ?_; intro w2 hb2 hB2 hs2; clear hs2)
        | (refine wpList_box_blk (by rfl) 26 (.tmp 2) rfl (bv d) rfl ?_; intro w3 hb3 hB3 hs3; clear hs3))
      obtain ⟨g0, hg0⟩ : ∃ g, W.heap.size = g := ⟨_, rfl⟩
      obtain ⟨g1, hg1⟩ : ∃ g, w1.heap.size = g := ⟨_, rfl⟩
      obtain ⟨g2, hg2⟩ : ∃ g, w2.heap.size = g := ⟨_, rfl⟩
      have hk1 := (hb1.on hB2).on hB3
      have hk2 := hb2.on hB3
      rw [hg0] at hk1
      rw [hg1] at hk2
      rw [hg2] at hb3
      try rw [hg0]
      try rw [hg1]
      try rw [hg2]
      have HK := Lib.hid hk1
      have HS2 := Lib.hid hk2
      have HD2 := Lib.hid hb3
      have HW := Lib.hid (bthen (bthen hB1 hB2) hB3)
      clear hb1 hB1 hb2 hB2 hb3 hB3 hk1 hk2 hg0 hg1 hg2
      go_wp2_with fail
      refine (awake23 w3 (HT.out.on HW.out)).mono ?_
      rintro e w4 ⟨rfl, hb⟩
      replace HW := Lib.hid (bthen HW.out hb)
      replace HK := Lib.hid (HK.out.on hb)
      replace HS2 := Lib.hid (HS2.out.on hb)
      replace HD2 := Lib.hid (HD2.out.on hb)
      have k2 : w4.cell? ⟨g0, 2, none⟩ = some (.slice m.P m.pn m.pc) := HK.out.cell 2
      have k3 : w4.cell? ⟨g0, 3, none⟩ = some (.slice m.A m.n m.c) := HK.out.cell 3
      clear hb
      clear hL1
      go_upto_region 6 with fail
      clear k2 k3
      go_wp2_with (first
        | (refine wpList_load_blk (by rfl) 25 _ rfl g0 rfl 25 _ _ HK.out Tryd.underlying25 rfl (sizeMp _) ?_)
        | (refine wpList_load_blk (by rfl) 26 _ rfl g1 rfl 26 _ _ HS2.out Tryd.underlying26 rfl (sizeA4 _ HS.out) ?_)
        | (refine wpList_load_blk (by rfl) 26 _ rfl g2 rfl 26 _ _ HD2.out Tryd.underlying26 rfl (sizeA4 _ HD.out) ?_))
      refine (put23p_any m w4 (HM.out.on HW.out) (HT.out.on HW.out) (by omega) s d HS.out HD.out).mono ?_
      rintro e w5 ⟨A5, n5, c5, rfl, ho5, hb5⟩
      rw [HF.out] at ho5 ⊢
      dsimp only at ho5 ⊢
      replace HW := Lib.hid (bthen HW.out hb5)
      replace HK := Lib.hid (HK.out.on hb5)
      replace HS2 := Lib.hid (HS2.out.on hb5)
      replace HD2 := Lib.hid (HD2.out.on hb5)
      have HO := Lib.hid ho5
      clear ho5 hb5
      go_wp2_with fail
      refine wp_region_rel (fun A B => A.grownBy B none) (fun A => grown_refl A _) (fun A B C h k => grown_trans h k) (relAt (List.cons (fun v _ => v = .agg m.cells.toArray) (List.cons (fun v _ => v = .agg m.m.cells.toArray) (List.cons (fun v _ => v = .agg (bv s).toArray) (List.cons (fun v _ => v = .agg (bv d).toArray) (List.cons (fun v _ => v = .tuple #[str F, .int .i64 q]) (List.cons (fun v _ => v = .tuple #[str F, .int .i64 q]) (List.cons (fun v _ => v = str F) (List.cons (fun v _ => v = .int .i64 q) (List.cons (fun v _ => v = str F) (List.cons (fun v _ => v = .int .i64 q) ([])))))))))))) (MonoL.at_ (.cons (mono_val _) (.cons (mono_val _) (.cons (mono_val _) (.cons (mono_val _) (.cons (mono_val _) (.cons (mono_val _) (.cons (mono_val _) (.cons (mono_val _) (.cons (mono_val _) (.cons (mono_val _) .nil))))))))))) (by kernel_rfl) (by kernel_rfl) ⟨?_, ?_, ?_, ?_, ?_, ?_, ?_, ?_, ?_, ?_, trivial⟩ ?_
      · intro a vs W hX hR he hf K hK
        rw [if_pos (wanted_none rfl)]
        have e3 : a.eval (.tmp 3) = .pointer (some ⟨g0, 0, none⟩) := hf 3 (by kernel_rfl)
        have hbW := bthen (below_drew _) (grow_below hX)
        exact wp_value (exec_load 25 _ rfl g0 e3 25 m.cells _ (HK.out.on hbW) Tryd.underlying25 rfl (sizeMp _)) (hK _ _ rfl (grown_refl W _))
      · intro a vs W hX hR he hf K hK
        rw [if_pos (wanted_none rfl)]
        have e33 : a.eval (.tmp 33) = .agg m.cells.toArray := (he 0 33 (by kernel_rfl) rfl).trans (hR 0 (by kernel_rfl))
        have hbW := bthen (below_drew _) (grow_below hX)
        refine wp_enter (f := 10) (args := #[.agg m.cells.toArray]) (by simp only [execOp, e33]; go_simp; simpa [Act.eval] using e33) ((plain23_any m W ((HM.out.on HW.out).on hbW)).mono ?_)
        rintro e w' ⟨rfl, hb⟩
        exact ⟨_, rfl, hK _ _ rfl (below_grow hb _)⟩
      · intro a vs W hX hR he hf K hK
        rw [if_pos (wanted_none rfl)]
        have e4 : a.eval (.tmp 4) = .pointer (some ⟨g1, 0, none⟩) := hf 4 (by kernel_rfl)
        have hbW := bthen (below_drew _) (grow_below hX)
        exact wp_value (exec_load 26 _ rfl g1 e4 26 (bv s) _ (HS2.out.on hbW) Tryd.underlying26 rfl (sizeA4 _ HS.out)) (hK _ _ rfl (grown_refl W _))
      · intro a vs W hX hR he hf K hK
        rw [if_pos (wanted_none rfl)]
        have e5 : a.eval (.tmp 5) = .pointer (some ⟨g2, 0, none⟩) := hf 5 (by kernel_rfl)
        have hbW := bthen (below_drew _) (grow_below hX)
        exact wp_value (exec_load 26 _ rfl g2 e5 26 (bv d) _ (HD2.out.on hbW) Tryd.underlying26 rfl (sizeA4 _ HD.out)) (hK _ _ rfl (grown_refl W _))
      · intro a vs W hX hR he hf K hK
        rw [if_pos (wanted_none rfl)]
        have e34 : a.eval (.tmp 34) = .agg m.m.cells.toArray := (he 1 34 (by kernel_rfl) rfl).trans (hR 1 (by kernel_rfl))
        have e35 : a.eval (.tmp 35) = .agg (bv s).toArray := (he 2 35 (by kernel_rfl) rfl).trans (hR 2 (by kernel_rfl))
        have e36 : a.eval (.tmp 36) = .agg (bv d).toArray := (he 3 36 (by kernel_rfl) rfl).trans (hR 3 (by kernel_rfl))
        have hbW := bthen (below_drew _) (grow_below hX)
        refine wp_enter (f := 9) (args := #[.agg m.m.cells.toArray, .agg (bv s).toArray, .agg (bv d).toArray]) (by simp only [execOp, e34, e35, e36]; go_simp; exact ⟨by simpa [Act.eval] using e34, by simpa [Act.eval] using e35, by simpa [Act.eval] using e36⟩) ((rput23_any m.m W ((HM.out.on HW.out).on hbW).mm (by show m.beg.length ≤ _; have := HM.out.blen; omega) (by show m.n ≤ _; omega) s d HS.out HD.out).mono ?_)
        rintro e w' ⟨rfl, hb⟩
        exact ⟨_, rfl, hK _ _ (congrArg (fun z : List UInt8 × Int => Value.tuple #[str z.1, .int .i64 z.2]) HF.out) (below_grow hb _)⟩
      · intro a vs W hX hR he hf K hK
        rw [if_pos (wanted_none rfl)]
        have e37 : a.eval (.tmp 37) = .tuple #[str F, .int .i64 q] := (he 4 37 (by kernel_rfl) rfl).trans (hR 4 (by kernel_rfl))
        refine wp_value (v := .tuple #[str F, .int .i64 q]) ?_ (hK _ _ rfl (grown_refl W _))
        simp only [execOp, e37]
        try go_simp
        try (first | rfl | omega | (simp only [IntKind.wrap_i64, IntKind.wrap_u8, IntKind.wrap_u64, IntKind.wrap_u16, IntKind.wrap_u32]; omega) | (rw [Int.tmod_eq_emod_of_nonneg (by omega)]) | (rw [Int.tmod_eq_emod_of_nonneg (by omega)]; omega))
      · intro a vs W hX hR he hf K hK
        rw [if_pos (wanted_none rfl)]
        have e32 : a.eval (.tmp 32) = .tuple #[str F, .int .i64 q] := (he 5 32 (by kernel_rfl) rfl).trans (hR 5 (by kernel_rfl))
        refine wp_value (v := str F) ?_ (hK _ _ rfl (grown_refl W _))
        simp only [execOp, e32]
        try go_simp
        try (first | rfl | omega | (simp only [IntKind.wrap_i64, IntKind.wrap_u8, IntKind.wrap_u64, IntKind.wrap_u16, IntKind.wrap_u32]; omega) | (rw [Int.tmod_eq_emod_of_nonneg (by omega)]) | (rw [Int.tmod_eq_emod_of_nonneg (by omega)]; omega))
      · intro a vs W hX hR he hf K hK
        rw [if_pos (wanted_none rfl)]
        have e32 : a.eval (.tmp 32) = .tuple #[str F, .int .i64 q] := (he 5 32 (by kernel_rfl) rfl).trans (hR 5 (by kernel_rfl))
        refine wp_value (v := .int .i64 q) ?_ (hK _ _ rfl (grown_refl W _))
        simp only [execOp, e32]
        try go_simp
        try (first | rfl | omega | (simp only [IntKind.wrap_i64, IntKind.wrap_u8, IntKind.wrap_u64, IntKind.wrap_u16, IntKind.wrap_u32]; omega) | (rw [Int.tmod_eq_emod_of_nonneg (by omega)]) | (rw [Int.tmod_eq_emod_of_nonneg (by omega)]; omega))
      · intro a vs W hX hR he hf K hK
        rw [if_pos (wanted_none rfl)]
        have e38 : a.eval (.tmp 38) = str F := (he 6 38 (by kernel_rfl) rfl).trans (hR 6 (by kernel_rfl))
        refine wp_value (v := str F) ?_ (hK _ _ rfl (grown_refl W _))
        simp only [execOp, e38]
        try go_simp
        try (first | rfl | omega | (simp only [IntKind.wrap_i64, IntKind.wrap_u8, IntKind.wrap_u64, IntKind.wrap_u16, IntKind.wrap_u32]; omega) | (rw [Int.tmod_eq_emod_of_nonneg (by omega)]) | (rw [Int.tmod_eq_emod_of_nonneg (by omega)]; omega))
      · intro a vs W hX hR he hf K hK
        rw [if_pos (wanted_none rfl)]
        have e39 : a.eval (.tmp 39) = .int .i64 q := (he 7 39 (by kernel_rfl) rfl).trans (hR 7 (by kernel_rfl))
        refine wp_value (v := .int .i64 q) ?_ (hK _ _ rfl (grown_refl W _))
        simp only [execOp, e39]
        try go_simp
        try (first | rfl | omega | (simp only [IntKind.wrap_i64, IntKind.wrap_u8, IntKind.wrap_u64, IntKind.wrap_u16, IntKind.wrap_u32]; omega) | (rw [Int.tmod_eq_emod_of_nonneg (by omega)]) | (rw [Int.tmod_eq_emod_of_nonneg (by omega)]; omega))
      · intro vs w6 hX6 hR
        have q0 := hR 0 (by decide)
        have q1 := hR 1 (by decide)
        have q2 := hR 2 (by decide)
        have q3 := hR 3 (by decide)
        have q4 := hR 4 (by decide)
        have q5 := hR 5 (by decide)
        have q6 := hR 6 (by decide)
        have q7 := hR 7 (by decide)
        have q8 := hR 8 (by decide)
        have q9 := hR 9 (by decide)
        change vs 0 = .agg m.cells.toArray at q0
        change vs 1 = .agg m.m.cells.toArray at q1
        change vs 2 = .agg (bv s).toArray at q2
        change vs 3 = .agg (bv d).toArray at q3
        change vs 4 = .tuple #[str F, .int .i64 q] at q4
        change vs 5 = .tuple #[str F, .int .i64 q] at q5
        change vs 6 = str F at q6
        change vs 7 = .int .i64 q at q7
        change vs 8 = str F at q8
        change vs 9 = .int .i64 q at q9
        simp only [putAll, Act.put, List.setIfInBounds_toArray, List.set_cons_zero, List.set_cons_succ, q0, q1, q2, q3, q4, q5, q6, q7, q8, q9]
        clear q0 q1 q2 q3 q4 q5 q6 q7 q8 q9
        clear hR
        have hb6 := bthen (below_drew _) (grow_below hX6)
        have HRO := Lib.hid (HO.out.below hb6).row
        have HW6 := Lib.hid (bthen HW.out hb6)
        clear hX6 hb6
        go_wp2_with (first
          | (refine wpList_str (by rfl) (.tmp 40) 22 9 5 rfl Tryd.underlying22 Tryd.underlying5 Tryd.underlying9 _ _ _ _ F (by rfl) HRO.out ?_)
          | (refine wpList_value (by rfl) (exec_eqS _ _ _ rfl F (by rfl) (by rfl)) ?_))
        go_ret
        exact ⟨rfl, HW6.out⟩
set_option maxRecDepth 100000 in
set_option maxHeartbeats 4000000 in
theorem walk_Icmp4Gets (W : World) (hT : Typ23 W) (b : Bs) (hb : b.ok W) :
    Calls Tryd.prog 4 #[b.v] W fun e w' => e = .returned (.bool true) ∧ Below W.heap.size W w' := by
  have AW := Lib.hid (awake23 W hT)
  have HT := Lib.hid hT
  have HB := Lib.hid hb
  have hpl : b.n ≤ 9223372036854775807 := by have h1 := hb.le; have h2 := hb.cap; unfold maxLen at h2; omega
  clear hT hb
  show Calls Tryd.prog 4 #[.slice b.A b.n b.c] W _
  by_cases h1 : 2000 < b.n
  · have h1i : (2000 : Int) < (b.n : Int) := by omega
    go_enter Tryd.func4, Tryd.ntmps4
    go_wp2_with fail
    refine AW.out.mono ?_
    rintro e w1 ⟨rfl, hb⟩
    have HW := Lib.hid hb
    clear hb
    go_wp2_with fail
    go_ret
    exact ⟨rfl, HW.out⟩
  · have h1i : ¬ (2000 : Int) < (b.n : Int) := by omega
    have hlen : b.l.length = b.n := HB.out.len
    obtain ⟨G, hG⟩ : ∃ G, (getF4 b.l).1 = G := ⟨_, rfl⟩
    obtain ⟨q, hq⟩ : ∃ q, (getF4 b.l).2 = q := ⟨_, rfl⟩
    have P5 := fun (w : World) (h : Row w w.heap.size 1 b.A b.n (bv b.l)) (h2 : Typ23 w) => get23_any b.A b.n b.c b.l w h HB.out.le HB.out.cap (by omega) h2
    have P7 := fun (w : World) => rget23_any b.l w (by omega)
    simp only [hG, hq] at P5 P7
    have HP5 := Lib.hid P5
    have HP7 := Lib.hid P7
    have HGG := Lib.hid hG
    clear P5 P7 hG hq hlen
    go_enter Tryd.func4, Tryd.ntmps4
    go_wp2_with fail
    refine AW.out.mono ?_
    rintro e w1 ⟨rfl, hb⟩
    have HW := Lib.hid hb
    clear hb
    go_wp2_with fail
    refine (HP5.out w1 (HB.out.below HW.out).row (HT.out.on HW.out)).mono ?_
    rintro e w2 ⟨m5, rfl, hok5, hgot5, hb⟩
    replace HW := Lib.hid (bthen HW.out hb)
    have H5 := Lib.hid hok5
    have HG5 := Lib.hid hgot5
    clear hb hok5 hgot5
    go_upto_region 7 with (first
      | (refine wpList_alloc_blk (by rfl) 25 rfl Mp.zero.cells zeroMp ?_; intro w3 hb3 hB3 hs3)
      | (refine wpList_store_all (by rfl) 25 _ _ rfl w2.heap.size m5.cells rfl rfl 25 _ hb3 (sizeMp _) rfl (oneMp _) ?_; intro w4 hb4 hg4 hs4))
    obtain ⟨g4, hg4'⟩ : ∃ g, w2.heap.size = g := ⟨_, rfl⟩
    have hB4 : Below w2.heap.size w2 w4 := bgrown hB3 hg4 (by omega) (Nat.le_refl _)
    rw [hg4'] at hb4
    try rw [hg4']
    replace HW := Lib.hid (bthen HW.out hB4)
    replace H5 := Lib.hid (H5.out.on hB4)
    have HK := Lib.hid hb4
    have HRB := Lib.hid (HB.out.below HW.out).row
    clear hb3 hB3 hs3 hb4 hg4 hs4 hB4 hg4'
    go_wp2_with (refine wpList_str (by rfl) (.tmp 20) 22 9 5 rfl Tryd.underlying22 Tryd.underlying5 Tryd.underlying9 _ _ _ _ b.l (by rfl) HRB.out ?_)
    refine (HP7.out w4).mono ?_
    rintro e w5 ⟨m7, rfl, hok7, hgot7, hb⟩
    replace HW := Lib.hid (bthen HW.out hb)
    replace H5 := Lib.hid (H5.out.on hb)
    replace HK := Lib.hid (HK.out.on hb)
    have H7 := Lib.hid hok7
    have HG7 := Lib.hid hgot7
    clear hb hok7 hgot7
    go_upto_region 8 with (first
      | (refine wpList_alloc_blk (by rfl) 34 rfl Mm.zero.cells zeroMm ?_; intro w6 hb6 hB6 hs6)
      | (refine wpList_store_all (by rfl) 34 _ _ rfl w5.heap.size m7.cells rfl rfl 34 _ hb6 (sizeMm _) rfl (oneMm _) ?_; intro w7 hb7 hg7 hs7))
    obtain ⟨g6, hg6'⟩ : ∃ g, w5.heap.size = g := ⟨_, rfl⟩
    have hB7 : Below w5.heap.size w5 w7 := bgrown hB6 hg7 (by omega) (Nat.le_refl _)
    rw [hg6'] at hb7
    try rw [hg6']
    replace HW := Lib.hid (bthen HW.out hB7)
    replace H5 := Lib.hid (H5.out.on hB7)
    replace H7 := Lib.hid (H7.out.on hB7)
    replace HK := Lib.hid (HK.out.on hB7)
    have HL := Lib.hid hb7
    have hgg : m5.got = m7.got := HG5.out.trans HG7.out.symm
    unfold Mp.got Mm.got at hgg
    simp only [Prod.mk.injEq] at hgg
    have HE1 := Lib.hid (show m5.m.kind = m7.kind from hgg.1)
    have HE2 := Lib.hid (show m5.m.mtu = m7.mtu from hgg.2.1)
    have HE3 := Lib.hid (show m5.m.beg = m7.beg from hgg.2.2.1)
    have HE4 := Lib.hid (show m5.m.st = m7.st from hgg.2.2.2)
    have HN5 := Lib.hid (show m5.m.n ≤ 1000000 from by
      have h9 := H5.out.slen
      have h8 := getF4_small b.l
      have h7 : m5.got = (getF4 b.l).1 := by rw [HG5.out]; exact HGG.out.symm
      have h6 : m5.st = (getF4 b.l).1.2.2.2 := congrArg (fun z : Got => z.2.2.2) h7
      rw [← h6] at h8
      have h5 := HB.out.len
      show m5.n ≤ _
      omega)
    clear hb6 hB6 hs6 hb7 hg7 hs7 hB7 hg6' hgg
    refine wp_region_rel (fun A B => A.grownBy B none) (fun A => grown_refl A _) (fun A B C h k => grown_trans h k) (relAt (List.cons (fun v _ => v = .agg m5.cells.toArray) (List.cons (fun v _ => v = .agg m5.m.cells.toArray) (List.cons (fun v _ => v = .agg m7.cells.toArray) (List.cons (fun v _ => v = .bool true) (List.cons (fun v _ => v = .bool true) (List.cons (fun v _ => v = .int .i64 q) (List.cons (fun v _ => v = .int .i64 q) (List.cons (fun v _ => v = .bool true) (List.cons (fun v _ => v = .bool true) (List.cons (fun v _ => v = .bool true) (List.cons (fun v _ => v = .slice b.A b.n b.c) (List.cons (fun v _ => v = .bool (isF4 b.l)) (List.cons (fun v _ => v = .slice b.A b.n b.c) (List.cons (fun v _ => v = str b.l) (List.cons (fun v _ => v = .bool (isF4 b.l)) (List.cons (fun v _ => v = .bool true) (List.cons (fun v _ => v = .bool true) (List.cons (fun v _ => v = .bool true) ([])))))))))))))))))))) (MonoL.at_ (.cons (mono_val _) (.cons (mono_val _) (.cons (mono_val _) (.cons (mono_val _) (.cons (mono_val _) (.cons (mono_val _) (.cons (mono_val _) (.cons (mono_val _) (.cons (mono_val _) (.cons (mono_val _) (.cons (mono_val _) (.cons (mono_val _) (.cons (mono_val _) (.cons (mono_val _) (.cons (mono_val _) (.cons (mono_val _) (.cons (mono_val _) (.cons (mono_val _) .nil))))))))))))))))))) (by kernel_rfl) (by kernel_rfl) ⟨?_, ?_, ?_, ?_, ?_, ?_, ?_, ?_, ?_, ?_, ?_, ?_, ?_, ?_, ?_, ?_, ?_, ?_, trivial⟩ ?_
    · intro a vs W hX hR he hf K hK
      rw [if_pos (wanted_none rfl)]
      have e4 : a.eval (.tmp 4) = .pointer (some ⟨g4, 0, none⟩) := hf 4 (by kernel_rfl)
      have hbW := bthen (below_drew _) (grow_below hX)
      exact wp_value (exec_load 25 _ rfl g4 e4 25 m5.cells _ (HK.out.on hbW) Tryd.underlying25 rfl (sizeMp _)) (hK _ _ rfl (grown_refl W _))
    · intro a vs W hX hR he hf K hK
      rw [if_pos (wanted_none rfl)]
      have e25 : a.eval (.tmp 25) = .agg m5.cells.toArray := (he 0 25 (by kernel_rfl) rfl).trans (hR 0 (by kernel_rfl))
      have hbW := bthen (below_drew _) (grow_below hX)
      refine wp_enter (f := 10) (args := #[.agg m5.cells.toArray]) (by simp only [execOp, e25]; go_simp; simpa [Act.eval] using e25) ((plain23_any m5 W (H5.out.on hbW)).mono ?_)
      rintro e w' ⟨rfl, hb⟩
      exact ⟨_, rfl, hK _ _ rfl (below_grow hb _)⟩
    · intro a vs W hX hR he hf K hK
      rw [if_pos (wanted_none rfl)]
      have e6 : a.eval (.tmp 6) = .pointer (some ⟨g6, 0, none⟩) := hf 6 (by kernel_rfl)
      have hbW := bthen (below_drew _) (grow_below hX)
      exact wp_value (exec_load 34 _ rfl g6 e6 34 m7.cells _ (HL.out.on hbW) Tryd.underlying34 rfl (sizeMm _)) (hK _ _ rfl (grown_refl W _))
    · intro a vs W hX hR he hf K hK
      rw [if_pos (wanted_none rfl)]
      have e26 : a.eval (.tmp 26) = .agg m5.m.cells.toArray := (he 1 26 (by kernel_rfl) rfl).trans (hR 1 (by kernel_rfl))
      have e27 : a.eval (.tmp 27) = .agg m7.cells.toArray := (he 2 27 (by kernel_rfl) rfl).trans (hR 2 (by kernel_rfl))
      have hbW := bthen (below_drew _) (grow_below hX)
      refine wp_enter (f := 13) (args := #[.agg m5.m.cells.toArray, .agg m7.cells.toArray]) (by simp only [execOp, e26, e27]; go_simp; exact ⟨by simpa [Act.eval] using e26, by simpa [Act.eval] using e27⟩) ((same23_yes m5.m m7 W (H5.out.on hbW).mm (H7.out.on hbW) HE1.out HE2.out HE3.out HE4.out HN5.out).mono ?_)
      rintro e w' ⟨rfl, hb⟩
      exact ⟨_, rfl, hK _ _ rfl (below_grow hb _)⟩
    · intro a vs W hX hR he hf K hK
      rw [if_pos (wanted_none rfl)]
      have e28 : a.eval (.tmp 28) = .bool true := (he 3 28 (by kernel_rfl) rfl).trans (hR 3 (by kernel_rfl))
      refine wp_value (v := .bool true) ?_ (hK _ _ rfl (grown_refl W _))
      simp only [execOp, e28]
      try go_simp
      try (first | rfl | omega | (simp only [IntKind.wrap_i64, IntKind.wrap_u8, IntKind.wrap_u64, IntKind.wrap_u16, IntKind.wrap_u32]; omega) | (rw [Int.tmod_eq_emod_of_nonneg (by omega)]) | (rw [Int.tmod_eq_emod_of_nonneg (by omega)]; omega))
    · intro a vs W hX hR he hf K hK
      have e29 : a.eval (.tmp 29) = .bool true := (he 4 29 (by kernel_rfl) rfl).trans (hR 4 (by kernel_rfl))
      refine Eq.mpr (if_pos (by exact (wanted_some rfl rfl e29).trans rfl)) ?_
      have e5 : a.eval (.tmp 5) = .int .i64 q := hf 5 (by kernel_rfl)
      refine wp_value (v := .int .i64 q) ?_ (hK _ _ rfl (grown_refl W _))
      simp only [execOp, e5]
      try go_simp
      try (first | rfl | omega | (simp only [IntKind.wrap_i64, IntKind.wrap_u8, IntKind.wrap_u64, IntKind.wrap_u16, IntKind.wrap_u32]; omega) | (rw [Int.tmod_eq_emod_of_nonneg (by omega)]) | (rw [Int.tmod_eq_emod_of_nonneg (by omega)]; omega))
    · intro a vs W hX hR he hf K hK
      have e29 : a.eval (.tmp 29) = .bool true := (he 4 29 (by kernel_rfl) rfl).trans (hR 4 (by kernel_rfl))
      refine Eq.mpr (if_pos (by exact (wanted_some rfl rfl e29).trans rfl)) ?_
      have e7 : a.eval (.tmp 7) = .int .i64 q := hf 7 (by kernel_rfl)
      refine wp_value (v := .int .i64 q) ?_ (hK _ _ rfl (grown_refl W _))
      simp only [execOp, e7]
      try go_simp
      try (first | rfl | omega | (simp only [IntKind.wrap_i64, IntKind.wrap_u8, IntKind.wrap_u64, IntKind.wrap_u16, IntKind.wrap_u32]; omega) | (rw [Int.tmod_eq_emod_of_nonneg (by omega)]) | (rw [Int.tmod_eq_emod_of_nonneg (by omega)]; omega))
    · intro a vs W hX hR he hf K hK
      have e29 : a.eval (.tmp 29) = .bool true := (he 4 29 (by kernel_rfl) rfl).trans (hR 4 (by kernel_rfl))
      refine Eq.mpr (if_pos (by exact (wanted_some rfl rfl e29).trans rfl)) ?_
      have e30 : a.eval (.tmp 30) = .int .i64 q := (he 5 30 (by kernel_rfl) rfl).trans (hR 5 (by kernel_rfl))
      have e31 : a.eval (.tmp 31) = .int .i64 q := (he 6 31 (by kernel_rfl) rfl).trans (hR 6 (by kernel_rfl))
      refine wp_value (v := .bool true) ?_ (hK _ _ rfl (grown_refl W _))
      simp only [execOp, e30, e31]
      try go_simp
      try (first | rfl | omega | (simp only [IntKind.wrap_i64, IntKind.wrap_u8, IntKind.wrap_u64, IntKind.wrap_u16, IntKind.wrap_u32]; omega) | (rw [Int.tmod_eq_emod_of_nonneg (by omega)]) | (rw [Int.tmod_eq_emod_of_nonneg (by omega)]; omega))
    · intro a vs W hX hR he hf K hK
      rw [if_pos (wanted_none rfl)]
      have e29 : a.eval (.tmp 29) = .bool true := (he 4 29 (by kernel_rfl) rfl).trans (hR 4 (by kernel_rfl))
      have e32 : a.eval (.tmp 32) = .bool true := (he 7 32 (by kernel_rfl) rfl).trans (hR 7 (by kernel_rfl))
      refine wp_value (v := .bool true) ?_ (hK _ _ rfl (grown_refl W _))
      simp only [execOp, e29, e32]
      try go_simp
      try (first | rfl | omega | (simp only [IntKind.wrap_i64, IntKind.wrap_u8, IntKind.wrap_u64, IntKind.wrap_u16, IntKind.wrap_u32]; omega) | (rw [Int.tmod_eq_emod_of_nonneg (by omega)]) | (rw [Int.tmod_eq_emod_of_nonneg (by omega)]; omega))
    · intro a vs W hX hR he hf K hK
      rw [if_pos (wanted_none rfl)]
      have e33 : a.eval (.tmp 33) = .bool true := (he 8 33 (by kernel_rfl) rfl).trans (hR 8 (by kernel_rfl))
      refine wp_value (v := .bool true) ?_ (hK _ _ rfl (grown_refl W _))
      simp only [execOp, e33]
      try go_simp
      try (first | rfl | omega | (simp only [IntKind.wrap_i64, IntKind.wrap_u8, IntKind.wrap_u64, IntKind.wrap_u16, IntKind.wrap_u32]; omega) | (rw [Int.tmod_eq_emod_of_nonneg (by omega)]) | (rw [Int.tmod_eq_emod_of_nonneg (by omega)]; omega))
    · intro a vs W hX hR he hf K hK
      have e34 : a.eval (.tmp 34) = .bool true := (he 9 34 (by kernel_rfl) rfl).trans (hR 9 (by kernel_rfl))
      refine Eq.mpr (if_pos (by exact (wanted_some rfl rfl e34).trans rfl)) ?_
      have e0 : a.eval (.tmp 0) = .slice b.A b.n b.c := hf 0 (by kernel_rfl)
      refine wp_value (v := .slice b.A b.n b.c) ?_ (hK _ _ rfl (grown_refl W _))
      simp only [execOp, e0]
      try go_simp
      try (first | rfl | omega | (simp only [IntKind.wrap_i64, IntKind.wrap_u8, IntKind.wrap_u64, IntKind.wrap_u16, IntKind.wrap_u32]; omega) | (rw [Int.tmod_eq_emod_of_nonneg (by omega)]) | (rw [Int.tmod_eq_emod_of_nonneg (by omega)]; omega))
    · intro a vs W hX hR he hf K hK
      have e34 : a.eval (.tmp 34) = .bool true := (he 9 34 (by kernel_rfl) rfl).trans (hR 9 (by kernel_rfl))
      refine Eq.mpr (if_pos (by exact (wanted_some rfl rfl e34).trans rfl)) ?_
      have e35 : a.eval (.tmp 35) = .slice b.A b.n b.c := (he 10 35 (by kernel_rfl) rfl).trans (hR 10 (by kernel_rfl))
      have hbW := bthen (below_drew _) (grow_below hX)
      refine wp_enter (f := 14) (args := #[.slice b.A b.n b.c]) (by simp only [execOp, e35]; go_simp; simpa [Act.eval] using e35) ((is23_any b.A b.n b.c b.l W ((HB.out.below (HW.out.trans (hbW.mono HW.out.size))).row) HB.out.le HB.out.cap (by omega)).mono ?_)
      rintro e w' ⟨rfl, hb⟩
      exact ⟨_, rfl, hK _ _ rfl (below_grow hb _)⟩
    · intro a vs W hX hR he hf K hK
      have e34 : a.eval (.tmp 34) = .bool true := (he 9 34 (by kernel_rfl) rfl).trans (hR 9 (by kernel_rfl))
      refine Eq.mpr (if_pos (by exact (wanted_some rfl rfl e34).trans rfl)) ?_
      have e0 : a.eval (.tmp 0) = .slice b.A b.n b.c := hf 0 (by kernel_rfl)
      refine wp_value (v := .slice b.A b.n b.c) ?_ (hK _ _ rfl (grown_refl W _))
      simp only [execOp, e0]
      try go_simp
      try (first | rfl | omega | (simp only [IntKind.wrap_i64, IntKind.wrap_u8, IntKind.wrap_u64, IntKind.wrap_u16, IntKind.wrap_u32]; omega) | (rw [Int.tmod_eq_emod_of_nonneg (by omega)]) | (rw [Int.tmod_eq_emod_of_nonneg (by omega)]; omega))
    · intro a vs W hX hR he hf K hK
      have e34 : a.eval (.tmp 34) = .bool true := (he 9 34 (by kernel_rfl) rfl).trans (hR 9 (by kernel_rfl))
      refine Eq.mpr (if_pos (by exact (wanted_some rfl rfl e34).trans rfl)) ?_
      have e37 : a.eval (.tmp 37) = .slice b.A b.n b.c := (he 12 37 (by kernel_rfl) rfl).trans (hR 12 (by kernel_rfl))
      have hbW := bthen (below_drew _) (grow_below hX)
      exact wp_value (exec_str 22 9 5 _ rfl Tryd.underlying22 Tryd.underlying5 Tryd.underlying9 b.A b.n b.c b.l e37 (HB.out.below (HW.out.trans (hbW.mono HW.out.size)))) (hK _ _ rfl (grown_refl W _))
    · intro a vs W hX hR he hf K hK
      have e34 : a.eval (.tmp 34) = .bool true := (he 9 34 (by kernel_rfl) rfl).trans (hR 9 (by kernel_rfl))
      refine Eq.mpr (if_pos (by exact (wanted_some rfl rfl e34).trans rfl)) ?_
      have e38 : a.eval (.tmp 38) = str b.l := (he 13 38 (by kernel_rfl) rfl).trans (hR 13 (by kernel_rfl))
      have hbW := bthen (below_drew _) (grow_below hX)
      refine wp_enter (f := 15) (args := #[str b.l]) (by simp only [execOp, e38]; go_simp; simpa [Act.eval] using e38) ((ris4_any b.l W (by have := HB.out.len; omega)).mono ?_)
      rintro e w' ⟨rfl, hb⟩
      exact ⟨_, rfl, hK _ _ rfl (below_grow hb _)⟩
    · intro a vs W hX hR he hf K hK
      have e34 : a.eval (.tmp 34) = .bool true := (he 9 34 (by kernel_rfl) rfl).trans (hR 9 (by kernel_rfl))
      refine Eq.mpr (if_pos (by exact (wanted_some rfl rfl e34).trans rfl)) ?_
      have e36 : a.eval (.tmp 36) = .bool (isF4 b.l) := (he 11 36 (by kernel_rfl) rfl).trans (hR 11 (by kernel_rfl))
      have e39 : a.eval (.tmp 39) = .bool (isF4 b.l) := (he 14 39 (by kernel_rfl) rfl).trans (hR 14 (by kernel_rfl))
      refine wp_value (v := .bool true) ?_ (hK _ _ rfl (grown_refl W _))
      simp only [execOp, e36, e39]
      go_simp
      try simp
    · intro a vs W hX hR he hf K hK
      rw [if_pos (wanted_none rfl)]
      have e34 : a.eval (.tmp 34) = .bool true := (he 9 34 (by kernel_rfl) rfl).trans (hR 9 (by kernel_rfl))
      have e40 : a.eval (.tmp 40) = .bool true := (he 15 40 (by kernel_rfl) rfl).trans (hR 15 (by kernel_rfl))
      refine wp_value (v := .bool true) ?_ (hK _ _ rfl (grown_refl W _))
      simp only [execOp, e34, e40]
      try go_simp
      try (first | rfl | omega | (simp only [IntKind.wrap_i64, IntKind.wrap_u8, IntKind.wrap_u64, IntKind.wrap_u16, IntKind.wrap_u32]; omega) | (rw [Int.tmod_eq_emod_of_nonneg (by omega)]) | (rw [Int.tmod_eq_emod_of_nonneg (by omega)]; omega))
    · intro a vs W hX hR he hf K hK
      rw [if_pos (wanted_none rfl)]
      have e41 : a.eval (.tmp 41) = .bool true := (he 16 41 (by kernel_rfl) rfl).trans (hR 16 (by kernel_rfl))
      refine wp_value (v := .bool true) ?_ (hK _ _ rfl (grown_refl W _))
      simp only [execOp, e41]
      try go_simp
      try (first | rfl | omega | (simp only [IntKind.wrap_i64, IntKind.wrap_u8, IntKind.wrap_u64, IntKind.wrap_u16, IntKind.wrap_u32]; omega) | (rw [Int.tmod_eq_emod_of_nonneg (by omega)]) | (rw [Int.tmod_eq_emod_of_nonneg (by omega)]; omega))
    · intro vs w8 hX8 hR
      have q0 := hR 0 (by decide)
      have q1 := hR 1 (by decide)
      have q2 := hR 2 (by decide)
      have q3 := hR 3 (by decide)
      have q4 := hR 4 (by decide)
      have q5 := hR 5 (by decide)
      have q6 := hR 6 (by decide)
      have q7 := hR 7 (by decide)
      have q8 := hR 8 (by decide)
      have q9 := hR 9 (by decide)
      have q10 := hR 10 (by decide)
      have q11 := hR 11 (by decide)
      have q12 := hR 12 (by decide)
      have q13 := hR 13 (by decide)
      have q14 := hR 14 (by decide)
      have q15 := hR 15 (by decide)
      have q16 := hR 16 (by decide)
      have q17 := hR 17 (by decide)
      change vs 0 = .agg m5.cells.toArray at q0
      change vs 1 = .agg m5.m.cells.toArray at q1
      change vs 2 = .agg m7.cells.toArray at q2
      change vs 3 = .bool true at q3
      change vs 4 = .bool true at q4
      change vs 5 = .int .i64 q at q5
      change vs 6 = .int .i64 q at q6
      change vs 7 = .bool true at q7
      change vs 8 = .bool true at q8
      change vs 9 = .bool true at q9
      change vs 10 = .slice b.A b.n b.c at q10
      change vs 11 = .bool (isF4 b.l) at q11
      change vs 12 = .slice b.A b.n b.c at q12
      change vs 13 = str b.l at q13
      change vs 14 = .bool (isF4 b.l) at q14
      change vs 15 = .bool true at q15
      change vs 16 = .bool true at q16
      change vs 17 = .bool true at q17
      simp only [putAll, Act.put, List.setIfInBounds_toArray, List.set_cons_zero, List.set_cons_succ, q0, q1, q2, q3, q4, q5, q6, q7, q8, q9, q10, q11, q12, q13, q14, q15, q16, q17]
      clear q0 q1 q2 q3 q4 q5 q6 q7 q8 q9 q10 q11 q12 q13 q14 q15 q16 q17
      clear hR
      have hb8 := bthen (below_drew _) (grow_below hX8)
      have HW8 := Lib.hid (bthen HW.out hb8)
      clear hX8 hb8
      go_wp2_with fail
      go_ret
      exact ⟨rfl, HW8.out⟩
end Go.Proofs.YtckbleiikldloaaDoor

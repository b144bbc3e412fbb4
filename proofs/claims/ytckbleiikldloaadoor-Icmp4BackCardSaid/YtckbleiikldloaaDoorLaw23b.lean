/- The walk of Icmp4Back (layer 23). No condition but what the package's table holds. -/
import Derived.Test.YtckbleiikldloaaDoorLaw23a
import Derived.Test.YtckbleiikldloaaDoorG23
namespace Go.Proofs.YtckbleiikldloaaDoor
open Go.RowKit
set_option linter.unusedVariables false
set_option maxRecDepth 20000
set_option linter.unusedSimpArgs false

set_option maxRecDepth 100000 in
set_option maxHeartbeats 4000000 in
theorem walk_Icmp4Back (W : World) (hT : Typ23 W) (m : Mp) (hm : m.ok W) (s : List UInt8) (hs : s.length = 4) (d : List UInt8) (hd : d.length = 4) :
    Calls Tryd.prog 5 #[.agg m.cells.toArray, .agg (bv s).toArray, .agg (bv d).toArray] W fun e w' => e = .returned (.bool true) ∧ Below W.heap.size W w' := by
  have HT := Lib.hid hT
  have HM := Lib.hid hm
  have HS := Lib.hid hs
  have HD := Lib.hid hd
  have hpl : m.pn ≤ 9223372036854775807 := by have h1 := hm.ble; have h2 := hm.bcap; unfold maxLen at h2; omega
  have hnl : m.n ≤ 9223372036854775807 := by have h1 := hm.le; have h2 := hm.cap; unfold maxLen at h2; omega
  have hsl := hm.slen
  clear hT hs hd
  by_cases h1 : 400 < m.pn
  · have h1i : (400 : Int) < (m.pn : Int) := by omega
    go_enter Tryd.func5, Tryd.ntmps5
    go_upto_region 1 with (first
      | (refine wpList_box_blk (by rfl) 25 (.tmp 0) rfl m.cells rfl ?_; intro w1 hb1 hB1 hs1; clear hs1)
      | (refine wpList_box_blk (by rfl) 26 (.tmp 1) rfl (bv s) rfl ?_; intro w2 hb2 hB2 hs2; clear hs2)
      | (refine wpList_box_blk (by rfl) 26 (.tmp 2) rfl (bv d) rfl ?_; intro w3 hb3 hB3 hs3; clear hs3))
    obtain ⟨g0, hg0⟩ : ∃ g, W.heap.size = g := ⟨_, rfl⟩
    obtain ⟨g1, hg1⟩ : ∃ g, w1.heap.size = g := ⟨_, rfl⟩
    obtain ⟨g2, hg2⟩ : ∃ g, w2.heap.size = g := ⟨_, rfl⟩
    have hk1 := (hb1.on hB2).on hB3
    have hk2 := hb2.on hB3
    rw [hg0] at hk1
    rw [hg1] at hk2
    rw [hg2] at hb3
    try rw [hg2]
    try rw [hg0]
    try rw [hg1]
    have HK := Lib.hid hk1
    have HS2 := Lib.hid hk2
    have HD2 := Lib.hid hb3
    have HW := Lib.hid (bthen (bthen hB1 hB2) hB3)
    clear hb1 hB1 hb2 hB2 hb3 hB3 hk1 hk2 hg0 hg1 hg2
    go_wp2_with fail
    refine (awake23 w3 (HT.out.on HW.out)).mono ?_
    rintro e w4 ⟨rfl, hb⟩
    replace HW := Lib.hid (bthen HW.out hb)
    replace HK := Lib.hid (HK.out.on hb)
    replace HS2 := Lib.hid (HS2.out.on hb)
    replace HD2 := Lib.hid (HD2.out.on hb)
    have k2 : w4.cell? ⟨g0, 2, none⟩ = some (.slice m.P m.pn m.pc) := HK.out.cell 2
    have k3 : w4.cell? ⟨g0, 3, none⟩ = some (.slice m.A m.n m.c) := HK.out.cell 3
    clear hb
    go_wp2_with fail
    go_ret
    exact ⟨rfl, HW.out⟩
  · have h1i : ¬ (400 : Int) < (m.pn : Int) := by omega
    by_cases h2 : 40 < m.n
    · have h2i : (40 : Int) < (m.n : Int) := by omega
      go_enter Tryd.func5, Tryd.ntmps5
      go_upto_region 1 with (first
        | (refine wpList_box_blk (by rfl) 25 (.tmp 0) rfl m.cells rfl ?_; intro w1 hb1 hB1 hs1; clear hs1)
        | (refine wpList_box_blk (by rfl) 26 (.tmp 1) rfl (bv s) rfl ?_; intro w2 hb2 hB2 hs2; clear hs2)
        | (refine wpList_box_blk (by rfl) 26 (.tmp 2) rfl (bv d) rfl ?_; intro w3 hb3 hB3 hs3; clear hs3))
      obtain ⟨g0, hg0⟩ : ∃ g, W.heap.size = g := ⟨_, rfl⟩
      obtain ⟨g1, hg1⟩ : ∃ g, w1.heap.size = g := ⟨_, rfl⟩
      obtain ⟨g2, hg2⟩ : ∃ g, w2.heap.size = g := ⟨_, rfl⟩
      have hk1 := (hb1.on hB2).on hB3
      have hk2 := hb2.on hB3
      rw [hg0] at hk1
      rw [hg1] at hk2
      rw [hg2] at hb3
      try rw [hg2]
      try rw [hg0]
      try rw [hg1]
      have HK := Lib.hid hk1
      have HS2 := Lib.hid hk2
      have HD2 := Lib.hid hb3
      have HW := Lib.hid (bthen (bthen hB1 hB2) hB3)
      clear hb1 hB1 hb2 hB2 hb3 hB3 hk1 hk2 hg0 hg1 hg2
      go_wp2_with fail
      refine (awake23 w3 (HT.out.on HW.out)).mono ?_
      rintro e w4 ⟨rfl, hb⟩
      replace HW := Lib.hid (bthen HW.out hb)
      replace HK := Lib.hid (HK.out.on hb)
      replace HS2 := Lib.hid (HS2.out.on hb)
      replace HD2 := Lib.hid (HD2.out.on hb)
      have k2 : w4.cell? ⟨g0, 2, none⟩ = some (.slice m.P m.pn m.pc) := HK.out.cell 2
      have k3 : w4.cell? ⟨g0, 3, none⟩ = some (.slice m.A m.n m.c) := HK.out.cell 3
      clear hb
      go_wp2_with fail
      go_ret
      exact ⟨rfl, HW.out⟩
    · have h2i : ¬ (40 : Int) < (m.n : Int) := by omega
      by_cases he : (put23 m.m s d).2 = 0
      · obtain ⟨F, hF⟩ : ∃ F, (put23 m.m s d).1 = F := ⟨_, rfl⟩
        have HF := Lib.hid (show (put23 m.m s d) = (F, 0) by rw [← hF, ← he])
        have HGF := Lib.hid (show getF4 F = ((m.kind, m.mtu, begin23 m.beg (decide (0 < m.n)), m.st), 0) by rw [← hF]; exact getF4_back m.m s d HS.out HD.out he hsl HM.out.fit)
        have HIS := Lib.hid (show isF4 F = true by rw [← hF]; exact isF4_put m.m s d HS.out HD.out he)
        have hF1 : F.length ≤ 300 := by rw [← hF]; exact (put23_len m.m s d HS.out HD.out he).2
        clear hF he
        go_enter Tryd.func5, Tryd.ntmps5
        go_upto_region 1 with (first
          | (refine wpList_box_blk (by rfl) 25 (.tmp 0) rfl m.cells rfl ?_; intro w1 hb1 hB1 hs1; clear hs1)
          | (refine wpList_box_blk (by rfl) 26 (.tmp 1) rfl (bv s) rfl ?_; intro w2 hb2 hB2 hs2; clear hs2)
          | (refine wpList_box_blk (by rfl) 26 (.tmp 2) rfl (bv d) rfl ?_; intro w3 hb3 hB3 hs3; clear hs3))
        obtain ⟨g0, hg0⟩ : ∃ g, W.heap.size = g := ⟨_, rfl⟩
        obtain ⟨g1, hg1⟩ : ∃ g, w1.heap.size = g := ⟨_, rfl⟩
        obtain ⟨g2, hg2⟩ : ∃ g, w2.heap.size = g := ⟨_, rfl⟩
        have hk1 := (hb1.on hB2).on hB3
        have hk2 := hb2.on hB3
        rw [hg0] at hk1
        rw [hg1] at hk2
        rw [hg2] at hb3
        try rw [hg2]
        try rw [hg0]
        try rw [hg1]
        have HK := Lib.hid hk1
        have HS2 := Lib.hid hk2
        have HD2 := Lib.hid hb3
        have HW := Lib.hid (bthen (bthen hB1 hB2) hB3)
        clear hb1 hB1 hb2 hB2 hb3 hB3 hk1 hk2 hg0 hg1 hg2
        go_wp2_with fail
        refine (awake23 w3 (HT.out.on HW.out)).mono ?_
        rintro e w4 ⟨rfl, hb⟩
        replace HW := Lib.hid (bthen HW.out hb)
        replace HK := Lib.hid (HK.out.on hb)
        replace HS2 := Lib.hid (HS2.out.on hb)
        replace HD2 := Lib.hid (HD2.out.on hb)
        have k2 : w4.cell? ⟨g0, 2, none⟩ = some (.slice m.P m.pn m.pc) := HK.out.cell 2
        have k3 : w4.cell? ⟨g0, 3, none⟩ = some (.slice m.A m.n m.c) := HK.out.cell 3
        clear hb
        go_upto_region 6 with fail
        clear k2 k3
        have HW4 := Lib.hid HW.out
        go_wp2_with (first
          | (refine wpList_load_blk (by rfl) 25 _ rfl g0 rfl 25 _ _ HK.out Tryd.underlying25 rfl (sizeMp _) ?_)
          | (refine wpList_load_blk (by rfl) 26 _ rfl g1 rfl 26 _ _ HS2.out Tryd.underlying26 rfl (sizeA4 _ HS.out) ?_)
          | (refine wpList_load_blk (by rfl) 26 _ rfl g2 rfl 26 _ _ HD2.out Tryd.underlying26 rfl (sizeA4 _ HD.out) ?_))
        refine (put23p_any m w4 (HM.out.on HW.out) (HT.out.on HW.out) (by omega) s d HS.out HD.out).mono ?_
        rintro e w5 ⟨A5, n5, c5, rfl, ho5, hb5⟩
        rw [HF.out] at ho5 ⊢
        dsimp only at ho5 ⊢
        replace HW := Lib.hid (bthen HW.out hb5)
        replace HK := Lib.hid (HK.out.on hb5)
        replace HS2 := Lib.hid (HS2.out.on hb5)
        replace HD2 := Lib.hid (HD2.out.on hb5)
        have hn5 : F.length = n5 := by have := ho5.len; rw [bv_length] at this; omega
        have HO := Lib.hid ho5
        have HG4 := Lib.hid (show W.heap.size ≤ w4.heap.size from HW4.out.size)
        clear ho5 hb5
        clear hm
        go_wp2_with fail
        refine (get23_any A5 n5 c5 F w5 HO.out.row HO.out.le HO.out.cap (by omega) (HT.out.on HW.out)).mono ?_
        rintro e w6 ⟨m6, rfl, hok6, hgot6, hb⟩
        rw [HGF.out] at hgot6 ⊢
        dsimp only at hgot6 ⊢
        replace HW := Lib.hid (bthen HW.out hb)
        replace HK := Lib.hid (HK.out.on hb)
        replace HO := Lib.hid (HO.out.below hb)
        have H6 := Lib.hid hok6
        unfold Mp.got at hgot6
        simp only [Prod.mk.injEq] at hgot6
        have HE1 := Lib.hid (show m6.m.kind = m.kind from hgot6.1)
        have HE2 := Lib.hid (show m6.m.mtu = m.mtu from hgot6.2.1)
        have HE3 := Lib.hid (show m6.m.beg = begin23 m.beg (decide (0 < m.n)) from hgot6.2.2.1)
        have HE4 := Lib.hid (show m6.m.st = m.st from hgot6.2.2.2)
        have HN6 := Lib.hid (show m6.m.n ≤ 1000000 from by
          have h9 := hok6.slen
          rw [hgot6.2.2.2] at h9
          show m6.n ≤ _
          omega)
        clear hb hok6 hgot6
        go_upto_region 10 with (first
          | (refine wpList_alloc_blk (by rfl) 25 rfl Mp.zero.cells zeroMp ?_; intro w7 hb7 hB7 hs7)
          | (refine wpList_store_all (by rfl) 25 _ _ rfl w6.heap.size m6.cells rfl rfl 25 _ hb7 (sizeMp _) rfl (oneMp _) ?_; intro w8 hb8 hg8 hs8))
        obtain ⟨ga, hga⟩ : ∃ g, w6.heap.size = g := ⟨_, rfl⟩
        have hB8 : Below w6.heap.size w6 w8 := bgrown hB7 hg8 (by omega) (Nat.le_refl _)
        rw [hga] at hb8
        try rw [hga]
        replace HW := Lib.hid (bthen HW.out hB8)
        replace HK := Lib.hid (HK.out.on hB8)
        replace HO := Lib.hid (HO.out.below hB8)
        replace H6 := Lib.hid (H6.out.on hB8)
        have HA := Lib.hid hb8
        clear hb7 hB7 hs7 hb8 hg8 hs8 hB8 hga
        go_wp2_with (refine wpList_load_blk (by rfl) 25 _ rfl g0 rfl 25 _ _ HK.out Tryd.underlying25 rfl (sizeMp _) ?_)
        refine (plain23_any m w8 (HM.out.on HW.out)).mono ?_
        rintro e w9 ⟨rfl, hb⟩
        replace HW := Lib.hid (bthen HW.out hb)
        replace HO := Lib.hid (HO.out.below hb)
        replace H6 := Lib.hid (H6.out.on hb)
        replace HA := Lib.hid (HA.out.on hb)
        clear hb
        go_upto_region 11 with (first
          | (refine wpList_alloc_blk (by rfl) 34 rfl Mm.zero.cells zeroMm ?_; intro wa hba hBa hsa)
          | (refine wpList_store_all (by rfl) 34 _ _ rfl w9.heap.size m.m.cells rfl rfl 34 _ hba (sizeMm _) rfl (oneMm _) ?_; intro wb hbb hgb hsb))
        obtain ⟨gb, hgb'⟩ : ∃ g, w9.heap.size = g := ⟨_, rfl⟩
        have hBb : Below w9.heap.size w9 wb := bgrown hBa hgb (by omega) (Nat.le_refl _)
        have hgw : W.heap.size ≤ gb := by have := HW.out.size; omega
        rw [hgb'] at hbb
        try rw [hgb']
        have HBB := Lib.hid hBb
        have HGW := Lib.hid (show w9.heap.size ≤ gb by omega)
        have HB := Lib.hid hbb
        have l2 : wb.cell? ⟨gb, 2, none⟩ = some (str m.beg) := hbb.cell 2
        have l3 : wb.cell? ⟨gb, 3, none⟩ = some (.slice m.A m.n m.c) := hbb.cell 3
        have hdc : decide ((0 : Int) < (m.n : Int)) = decide (0 < m.n) := by
          by_cases h : 0 < m.n
          · rw [decide_eq_true h, decide_eq_true (by omega)]
          · rw [decide_eq_false h, decide_eq_false (by omega)]
        have HDC := Lib.hid hdc
        have HBL := Lib.hid (show m.beg.length ≤ 1099511627776 by have := HM.out.blen; omega)
        clear hba hBa hsa hbb hgb hsb hgb' hBb
        clear hdc
        go_wp2_with fail
        clear l2 l3
        refine (begin23_any m.beg (decide (0 < m.n)) HBL.out wb).mono ?_
        rintro e wc ⟨rfl, rfl⟩
        go_upto_region 12 with (refine wpList_store_st (by rfl) _ _ rfl gb 2 (begin23 m.beg (decide (0 < m.n))) rfl rfl 34 _ _ HB.out rfl ?_; intro wd hbd hgd hsd)
        have hBd : Below w9.heap.size w9 wd := bgrown HBB.out hgd HBB.out.size HGW.out
        have hbd' : Blk wd gb 34 (Mm.cells ⟨m.kind, m.mtu, begin23 m.beg (decide (0 < m.n)), m.A, m.n, m.c, m.st⟩) := hbd
        have hWd := bthen HW.out hBd
        have hod := HO.out.below hBd
        have hmd := H6.out.on hBd
        have HAd := HA.out.on hBd
        replace HW := Lib.hid hWd
        replace HO := Lib.hid hod
        replace H6 := Lib.hid hmd
        replace HA := Lib.hid HAd
        replace HB := Lib.hid hbd'
        have HWO := Lib.hid (fun (X : World) (h : Below W.heap.size W X) => show Mm.ok X ⟨m.kind, m.mtu, begin23 m.beg (decide (0 < m.n)), m.A, m.n, m.c, m.st⟩ from
          ⟨HM.out.kind, HM.out.mtu, by have := begin23_le m.beg (decide (0 < m.n)); dsimp only; omega, (HM.out.on h).row, HM.out.le, HM.out.cap, HM.out.fit⟩)
        clear hbd hgd hsd hBd HAd hmd hod hWd hbd'
        refine wp_region_rel (fun A B => A.grownBy B none) (fun A => grown_refl A _) (fun A B C h k => grown_trans h k) (relAt (List.cons (fun v _ => v = .int .i64 0) (List.cons (fun v _ => v = .bool true) (List.cons (fun v _ => v = .bool true) (List.cons (fun v _ => v = .agg m6.cells.toArray) (List.cons (fun v _ => v = .agg m6.m.cells.toArray) (List.cons (fun v _ => v = .agg (Mm.cells ⟨m.kind, m.mtu, begin23 m.beg (decide (0 < m.n)), m.A, m.n, m.c, m.st⟩).toArray) (List.cons (fun v _ => v = .bool true) (List.cons (fun v _ => v = .bool true) (List.cons (fun v _ => v = .bool true) (List.cons (fun v _ => v = .slice A5 n5 c5) (List.cons (fun v _ => v = .bool true) (List.cons (fun v _ => v = .bool true) (List.cons (fun v _ => v = .bool true) ([]))))))))))))))) (MonoL.at_ (.cons (mono_val _) (.cons (mono_val _) (.cons (mono_val _) (.cons (mono_val _) (.cons (mono_val _) (.cons (mono_val _) (.cons (mono_val _) (.cons (mono_val _) (.cons (mono_val _) (.cons (mono_val _) (.cons (mono_val _) (.cons (mono_val _) (.cons (mono_val _) .nil)))))))))))))) (by kernel_rfl) (by kernel_rfl) ⟨?_, ?_, ?_, ?_, ?_, ?_, ?_, ?_, ?_, ?_, ?_, ?_, ?_, trivial⟩ ?_
        · intro a vs W hX hR he hf K hK
          rw [if_pos (wanted_none rfl)]
          have e11 : a.eval (.tmp 11) = .int .i64 0 := hf 11 (by kernel_rfl)
          refine wp_value (v := .int .i64 0) ?_ (hK _ _ rfl (grown_refl W _))
          simp only [execOp, e11]
          try go_simp
          try (first | rfl | omega | (simp only [IntKind.wrap_i64, IntKind.wrap_u8, IntKind.wrap_u64, IntKind.wrap_u16, IntKind.wrap_u32]; omega) | (rw [Int.tmod_eq_emod_of_nonneg (by omega)]) | (rw [Int.tmod_eq_emod_of_nonneg (by omega)]; omega))
        · intro a vs W hX hR he hf K hK
          rw [if_pos (wanted_none rfl)]
          have e53 : a.eval (.tmp 53) = .int .i64 0 := (he 0 53 (by kernel_rfl) rfl).trans (hR 0 (by kernel_rfl))
          refine wp_value (v := .bool true) ?_ (hK _ _ rfl (grown_refl W _))
          simp only [execOp, e53]
          try go_simp
          try (first | rfl | omega | (simp only [IntKind.wrap_i64, IntKind.wrap_u8, IntKind.wrap_u64, IntKind.wrap_u16, IntKind.wrap_u32]; omega) | (rw [Int.tmod_eq_emod_of_nonneg (by omega)]) | (rw [Int.tmod_eq_emod_of_nonneg (by omega)]; omega))
        · intro a vs W hX hR he hf K hK
          rw [if_pos (wanted_none rfl)]
          have e54 : a.eval (.tmp 54) = .bool true := (he 1 54 (by kernel_rfl) rfl).trans (hR 1 (by kernel_rfl))
          refine wp_value (v := .bool true) ?_ (hK _ _ rfl (grown_refl W _))
          simp only [execOp, e54]
          try go_simp
          try (first | rfl | omega | (simp only [IntKind.wrap_i64, IntKind.wrap_u8, IntKind.wrap_u64, IntKind.wrap_u16, IntKind.wrap_u32]; omega) | (rw [Int.tmod_eq_emod_of_nonneg (by omega)]) | (rw [Int.tmod_eq_emod_of_nonneg (by omega)]; omega))
        · intro a vs W hX hR he hf K hK
          have e55 : a.eval (.tmp 55) = .bool true := (he 2 55 (by kernel_rfl) rfl).trans (hR 2 (by kernel_rfl))
          refine Eq.mpr (if_pos (by exact (wanted_some rfl rfl e55).trans rfl)) ?_
          have e10 : a.eval (.tmp 10) = .pointer (some ⟨ga, 0, none⟩) := hf 10 (by kernel_rfl)
          have hbW := bthen (below_drew _) (grow_below hX)
          exact wp_value (exec_load 25 _ rfl ga e10 25 m6.cells _ (HA.out.on hbW) Tryd.underlying25 rfl (sizeMp _)) (hK _ _ rfl (grown_refl W _))
        · intro a vs W hX hR he hf K hK
          have e55 : a.eval (.tmp 55) = .bool true := (he 2 55 (by kernel_rfl) rfl).trans (hR 2 (by kernel_rfl))
          refine Eq.mpr (if_pos (by exact (wanted_some rfl rfl e55).trans rfl)) ?_
          have e56 : a.eval (.tmp 56) = .agg m6.cells.toArray := (he 3 56 (by kernel_rfl) rfl).trans (hR 3 (by kernel_rfl))
          have hbW := bthen (below_drew _) (grow_below hX)
          refine wp_enter (f := 10) (args := #[.agg m6.cells.toArray]) (by simp only [execOp, e56]; go_simp; simpa [Act.eval] using e56) ((plain23_any m6 W (H6.out.on hbW)).mono ?_)
          rintro e w' ⟨rfl, hb⟩
          exact ⟨_, rfl, hK _ _ rfl (below_grow hb _)⟩
        · intro a vs W hX hR he hf K hK
          have e55 : a.eval (.tmp 55) = .bool true := (he 2 55 (by kernel_rfl) rfl).trans (hR 2 (by kernel_rfl))
          refine Eq.mpr (if_pos (by exact (wanted_some rfl rfl e55).trans rfl)) ?_
          have e12 : a.eval (.tmp 12) = .pointer (some ⟨gb, 0, none⟩) := hf 12 (by kernel_rfl)
          have hbW := bthen (below_drew _) (grow_below hX)
          exact wp_value (exec_load 34 _ rfl gb e12 34 (Mm.cells ⟨m.kind, m.mtu, begin23 m.beg (decide (0 < m.n)), m.A, m.n, m.c, m.st⟩) _ (HB.out.on hbW) Tryd.underlying34 rfl (sizeMm _)) (hK _ _ rfl (grown_refl W _))
        · intro a vs W hX hR he hf K hK
          have e55 : a.eval (.tmp 55) = .bool true := (he 2 55 (by kernel_rfl) rfl).trans (hR 2 (by kernel_rfl))
          refine Eq.mpr (if_pos (by exact (wanted_some rfl rfl e55).trans rfl)) ?_
          have e57 : a.eval (.tmp 57) = .agg m6.m.cells.toArray := (he 4 57 (by kernel_rfl) rfl).trans (hR 4 (by kernel_rfl))
          have e58 : a.eval (.tmp 58) = .agg (Mm.cells ⟨m.kind, m.mtu, begin23 m.beg (decide (0 < m.n)), m.A, m.n, m.c, m.st⟩).toArray := (he 5 58 (by kernel_rfl) rfl).trans (hR 5 (by kernel_rfl))
          have hbW := bthen (below_drew _) (grow_below hX)
          refine wp_enter (f := 13) (args := #[.agg m6.m.cells.toArray, .agg (Mm.cells ⟨m.kind, m.mtu, begin23 m.beg (decide (0 < m.n)), m.A, m.n, m.c, m.st⟩).toArray]) (by simp only [execOp, e57, e58]; go_simp; exact ⟨by simpa [Act.eval] using e57, by simpa [Act.eval] using e58⟩) ((same23_yes m6.m ⟨m.kind, m.mtu, begin23 m.beg (decide (0 < m.n)), m.A, m.n, m.c, m.st⟩ W (H6.out.on hbW).mm (HWO.out W (HW.out.trans (hbW.mono HW.out.size))) HE1.out HE2.out HE3.out HE4.out HN6.out).mono ?_)
          rintro e w' ⟨rfl, hb⟩
          exact ⟨_, rfl, hK _ _ rfl (below_grow hb _)⟩
        · intro a vs W hX hR he hf K hK
          rw [if_pos (wanted_none rfl)]
          have e55 : a.eval (.tmp 55) = .bool true := (he 2 55 (by kernel_rfl) rfl).trans (hR 2 (by kernel_rfl))
          have e59 : a.eval (.tmp 59) = .bool true := (he 6 59 (by kernel_rfl) rfl).trans (hR 6 (by kernel_rfl))
          refine wp_value (v := .bool true) ?_ (hK _ _ rfl (grown_refl W _))
          simp only [execOp, e55, e59]
          try go_simp
          try (first | rfl | omega | (simp only [IntKind.wrap_i64, IntKind.wrap_u8, IntKind.wrap_u64, IntKind.wrap_u16, IntKind.wrap_u32]; omega) | (rw [Int.tmod_eq_emod_of_nonneg (by omega)]) | (rw [Int.tmod_eq_emod_of_nonneg (by omega)]; omega))
        · intro a vs W hX hR he hf K hK
          rw [if_pos (wanted_none rfl)]
          have e60 : a.eval (.tmp 60) = .bool true := (he 7 60 (by kernel_rfl) rfl).trans (hR 7 (by kernel_rfl))
          refine wp_value (v := .bool true) ?_ (hK _ _ rfl (grown_refl W _))
          simp only [execOp, e60]
          try go_simp
          try (first | rfl | omega | (simp only [IntKind.wrap_i64, IntKind.wrap_u8, IntKind.wrap_u64, IntKind.wrap_u16, IntKind.wrap_u32]; omega) | (rw [Int.tmod_eq_emod_of_nonneg (by omega)]) | (rw [Int.tmod_eq_emod_of_nonneg (by omega)]; omega))
        · intro a vs W hX hR he hf K hK
          have e61 : a.eval (.tmp 61) = .bool true := (he 8 61 (by kernel_rfl) rfl).trans (hR 8 (by kernel_rfl))
          refine Eq.mpr (if_pos (by exact (wanted_some rfl rfl e61).trans rfl)) ?_
          have e8 : a.eval (.tmp 8) = .slice A5 n5 c5 := hf 8 (by kernel_rfl)
          refine wp_value (v := .slice A5 n5 c5) ?_ (hK _ _ rfl (grown_refl W _))
          simp only [execOp, e8]
          try go_simp
          try (first | rfl | omega | (simp only [IntKind.wrap_i64, IntKind.wrap_u8, IntKind.wrap_u64, IntKind.wrap_u16, IntKind.wrap_u32]; omega) | (rw [Int.tmod_eq_emod_of_nonneg (by omega)]) | (rw [Int.tmod_eq_emod_of_nonneg (by omega)]; omega))
        · intro a vs W hX hR he hf K hK
          have e61 : a.eval (.tmp 61) = .bool true := (he 8 61 (by kernel_rfl) rfl).trans (hR 8 (by kernel_rfl))
          refine Eq.mpr (if_pos (by exact (wanted_some rfl rfl e61).trans rfl)) ?_
          have e62 : a.eval (.tmp 62) = .slice A5 n5 c5 := (he 9 62 (by kernel_rfl) rfl).trans (hR 9 (by kernel_rfl))
          have hbW := bthen (below_drew _) (grow_below hX)
          refine wp_enter (f := 14) (args := #[.slice A5 n5 c5]) (by simp only [execOp, e62]; go_simp; simpa [Act.eval] using e62) ((is23_any A5 n5 c5 F W (HO.out.below hbW).row HO.out.le HO.out.cap (by omega)).mono ?_)
          rintro e w' ⟨rfl, hb⟩
          exact ⟨_, rfl, hK _ _ (congrArg (fun z => Value.bool z) HIS.out) (below_grow hb _)⟩
        · intro a vs W hX hR he hf K hK
          rw [if_pos (wanted_none rfl)]
          have e61 : a.eval (.tmp 61) = .bool true := (he 8 61 (by kernel_rfl) rfl).trans (hR 8 (by kernel_rfl))
          have e63 : a.eval (.tmp 63) = .bool true := (he 10 63 (by kernel_rfl) rfl).trans (hR 10 (by kernel_rfl))
          refine wp_value (v := .bool true) ?_ (hK _ _ rfl (grown_refl W _))
          simp only [execOp, e61, e63]
          try go_simp
          try (first | rfl | omega | (simp only [IntKind.wrap_i64, IntKind.wrap_u8, IntKind.wrap_u64, IntKind.wrap_u16, IntKind.wrap_u32]; omega) | (rw [Int.tmod_eq_emod_of_nonneg (by omega)]) | (rw [Int.tmod_eq_emod_of_nonneg (by omega)]; omega))
        · intro a vs W hX hR he hf K hK
          rw [if_pos (wanted_none rfl)]
          have e64 : a.eval (.tmp 64) = .bool true := (he 11 64 (by kernel_rfl) rfl).trans (hR 11 (by kernel_rfl))
          refine wp_value (v := .bool true) ?_ (hK _ _ rfl (grown_refl W _))
          simp only [execOp, e64]
          try go_simp
          try (first | rfl | omega | (simp only [IntKind.wrap_i64, IntKind.wrap_u8, IntKind.wrap_u64, IntKind.wrap_u16, IntKind.wrap_u32]; omega) | (rw [Int.tmod_eq_emod_of_nonneg (by omega)]) | (rw [Int.tmod_eq_emod_of_nonneg (by omega)]; omega))
        · intro vs we hXe hR
          have q0 := hR 0 (by decide)
          have q1 := hR 1 (by decide)
          have q2 := hR 2 (by decide)
          have q3 := hR 3 (by decide)
          have q4 := hR 4 (by decide)
          have q5 := hR 5 (by decide)
          have q6 := hR 6 (by decide)
          have q7 := hR 7 (by decide)
          have q8 := hR 8 (by decide)
          have q9 := hR 9 (by decide)
          have q10 := hR 10 (by decide)
          have q11 := hR 11 (by decide)
          have q12 := hR 12 (by decide)
          change vs 0 = .int .i64 0 at q0
          change vs 1 = .bool true at q1
          change vs 2 = .bool true at q2
          change vs 3 = .agg m6.cells.toArray at q3
          change vs 4 = .agg m6.m.cells.toArray at q4
          change vs 5 = .agg (Mm.cells ⟨m.kind, m.mtu, begin23 m.beg (decide (0 < m.n)), m.A, m.n, m.c, m.st⟩).toArray at q5
          change vs 6 = .bool true at q6
          change vs 7 = .bool true at q7
          change vs 8 = .bool true at q8
          change vs 9 = .slice A5 n5 c5 at q9
          change vs 10 = .bool true at q10
          change vs 11 = .bool true at q11
          change vs 12 = .bool true at q12
          simp only [putAll, Act.put, List.setIfInBounds_toArray, List.set_cons_zero, List.set_cons_succ, q0, q1, q2, q3, q4, q5, q6, q7, q8, q9, q10, q11, q12]
          clear q0 q1 q2 q3 q4 q5 q6 q7 q8 q9 q10 q11 q12
          clear hR
          have hbe := bthen (below_drew _) (grow_below hXe)
          have HWE := Lib.hid (bthen HW.out hbe)
          clear hXe hbe
          go_wp2_with fail
          go_ret
          exact ⟨rfl, HWE.out⟩
      · obtain ⟨q, hq⟩ : ∃ q, (put23 m.m s d).2 = q := ⟨_, rfl⟩
        obtain ⟨F, hF⟩ : ∃ F, (put23 m.m s d).1 = F := ⟨_, rfl⟩
        have HF := Lib.hid (show (put23 m.m s d) = (F, q) by rw [← hF, ← hq])
        have HNO := Lib.hid (show F = [] by rw [← hF]; exact put23_no m.m s d he)
        have hqb : (q != 0) = true := by rw [← hq]; simpa using he
        clear hF hq he hm
        go_enter Tryd.func5, Tryd.ntmps5
        go_upto_region 1 with (first
          | (refine wpList_box_blk (by rfl) 25 (.tmp 0) rfl m.cells rfl ?_; intro w1 hb1 hB1 hs1; clear hs1)
          | (refine wpList_box_blk (by rfl) 26 (.tmp 1) rfl (bv s) rfl ?_; intro w2 hb2 hB2 hs2; clear hs2)
          | (refine wpList_box_blk (by rfl) 26 (.tmp 2) rfl (bv d) rfl ?_; intro w3 hb3 hB3 hs3; clear hs3))
        obtain ⟨g0, hg0⟩ : ∃ g, W.heap.size = g := ⟨_, rfl⟩
        obtain ⟨g1, hg1⟩ : ∃ g, w1.heap.size = g := ⟨_, rfl⟩
        obtain ⟨g2, hg2⟩ : ∃ g, w2.heap.size = g := ⟨_, rfl⟩
        have hk1 := (hb1.on hB2).on hB3
        have hk2 := hb2.on hB3
        rw [hg0] at hk1
        rw [hg1] at hk2
        rw [hg2] at hb3
        try rw [hg2]
        try rw [hg0]
        try rw [hg1]
        have HK := Lib.hid hk1
        have HS2 := Lib.hid hk2
        have HD2 := Lib.hid hb3
        have HW := Lib.hid (bthen (bthen hB1 hB2) hB3)
        clear hb1 hB1 hb2 hB2 hb3 hB3 hk1 hk2 hg0 hg1 hg2
        go_wp2_with fail
        refine (awake23 w3 (HT.out.on HW.out)).mono ?_
        rintro e w4 ⟨rfl, hb⟩
        replace HW := Lib.hid (bthen HW.out hb)
        replace HK := Lib.hid (HK.out.on hb)
        replace HS2 := Lib.hid (HS2.out.on hb)
        replace HD2 := Lib.hid (HD2.out.on hb)
        have k2 : w4.cell? ⟨g0, 2, none⟩ = some (.slice m.P m.pn m.pc) := HK.out.cell 2
        have k3 : w4.cell? ⟨g0, 3, none⟩ = some (.slice m.A m.n m.c) := HK.out.cell 3
        clear hb
        go_upto_region 6 with fail
        clear k2 k3
        have HW4 := Lib.hid HW.out
        go_wp2_with (first
          | (refine wpList_load_blk (by rfl) 25 _ rfl g0 rfl 25 _ _ HK.out Tryd.underlying25 rfl (sizeMp _) ?_)
          | (refine wpList_load_blk (by rfl) 26 _ rfl g1 rfl 26 _ _ HS2.out Tryd.underlying26 rfl (sizeA4 _ HS.out) ?_)
          | (refine wpList_load_blk (by rfl) 26 _ rfl g2 rfl 26 _ _ HD2.out Tryd.underlying26 rfl (sizeA4 _ HD.out) ?_))
        refine (put23p_any m w4 (HM.out.on HW.out) (HT.out.on HW.out) (by omega) s d HS.out HD.out).mono ?_
        rintro e w5 ⟨A5, n5, c5, rfl, ho5, hb5⟩
        rw [HF.out] at ho5 ⊢
        dsimp only at ho5 ⊢
        replace HW := Lib.hid (bthen HW.out hb5)
        replace HK := Lib.hid (HK.out.on hb5)
        replace HS2 := Lib.hid (HS2.out.on hb5)
        replace HD2 := Lib.hid (HD2.out.on hb5)
        have hn5 : F.length = n5 := by have := ho5.len; rw [bv_length] at this; omega
        have HO := Lib.hid ho5
        have HG4 := Lib.hid (show W.heap.size ≤ w4.heap.size from HW4.out.size)
        clear ho5 hb5
        have h0 : n5 = 0 := by rw [← hn5, HNO.out]; rfl
        subst h0
        clear hn5
        go_wp2_with fail
        go_ret
        exact ⟨rfl, HW.out⟩
end Go.Proofs.YtckbleiikldloaaDoor

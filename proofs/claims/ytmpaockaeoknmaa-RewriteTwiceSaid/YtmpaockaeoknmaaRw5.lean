/- What rewrite.Lay and the reference's Lay compute. No condition but sizes. -/
import Derived.Test.YtmpaockaeoknmaaRw4
import Derived.Test.YtmpaockaeoknmaaHop2
import Derived.Test.YtmpaockaeoknmaaHop3
namespace Go.Proofs.Ytmpaockaeoknmaa
open Go.RowKit
set_option linter.unusedVariables false
set_option maxRecDepth 20000
set_option linter.unusedSimpArgs false
theorem sizeHp (m : Hp) : (Try.prog.info? 25).map (·.size) = some m.cells.length := by show _ = some 6; kernel_rfl
def layF (m : Hp) (tos t : Int) : List Ent × Int :=
  if m.chk ≠ 0 ∨ m.op ≠ 0 then ([], 54) else if t < 2 then ([], 56) else (freshL (tos / 32) (t - 1) m.l, 0)
theorem chk_small (m : Hp) (h : m.chk = 0) : m.ln ≤ 16 ∧ m.rn ≤ 16 := by
  unfold Hp.chk chkF at h
  split at h
  · simp at h
  · split at h
    · simp at h
    · omega

set_option maxHeartbeats 4000000 in
theorem lay_any (m : Hp) (tos t : Int) (w : World) (hm : m.ok w) (htos : 0 ≤ tos ∧ tos ≤ 255) (ht : 0 ≤ t ∧ t ≤ 255) :
    Calls Try.prog 13 #[.agg m.cells.toArray, .int .u8 tos, .int .u8 t] w fun e w' => ∃ A' c', e = .returned (.tuple #[.slice A' (layF m tos t).1.length c', .int .i64 (layF m tos t).2]) ∧ Own w' w.heap.size 46 4 A' (layF m tos t).1.length c' (evs (layF m tos t).1) ∧ Below w.heap.size w w' := by
  have HM := Lib.hid hm
  have CK := Lib.hid (fun W (h : m.ok W) => check_any m W h)
  obtain ⟨k, hk⟩ : ∃ k, m.chk = k := ⟨_, rfl⟩
  obtain ⟨o, ho⟩ : ∃ o, m.op = o := ⟨_, rfl⟩
  have HC := Lib.hid hk
  have HO := Lib.hid ho
  clear hm hk ho
  by_cases hk0 : k = 0
  · subst hk0
    have hsm := (chk_small m HC.out).1
    by_cases ho0 : o = 0
    · subst ho0
      by_cases ht2 : t < 2
      · have HV : Hid (layF m tos t = ([], 56)) := Lib.hid (by unfold layF; rw [HC.out, HO.out]; simp [ht2])
        go_enter Try.func13, Try.ntmps13
        go_upto_region 1 with (refine wpList_box_blk (by rfl) 25 _ rfl m.cells rfl ?_; intro w1 hbw1 hB1 hs1)
        go_wp2_with (refine wpList_load_blk (by rfl) 25 _ rfl w.heap.size rfl 25 _ _ hbw1 Try.underlying25 rfl (sizeHp m) ?_)
        refine (CK.out w1 ⟨HM.out.op, HM.out.port, HM.out.bk, (HM.out.lrow.below hB1).more hB1.size, HM.out.lle, HM.out.lcap, (HM.out.rrow.below hB1).more hB1.size, HM.out.rle, HM.out.rcap, HM.out.lwf, HM.out.rwf⟩).mono ?_
        rintro e w2 ⟨rfl, hb2⟩
        rw [HC.out]
        have HW := Lib.hid (bthen hB1 hb2)
        have HB := Lib.hid (hbw1.on hb2)
        clear hbw1 hB1 hs1 hb2
        have d0 : w2.cell? ⟨w.heap.size, 0, none⟩ = some (.int .i64 0) := (HB.out.cell 0).trans (by show some (Value.int .i64 m.op) = _; rw [HO.out])
        go_wp2_with fail
        refine (next_any t ht.1 ht.2 w2).mono ?_
        rintro e w3 ⟨rfl, rfl⟩
        rw [show decide (¬ t < 2) = false from decide_eq_false (by omega)]
        go_wp2_with fail
        go_ret2
        exact ⟨none, 0, by rw [HV.out]; rfl, by rw [HV.out]; exact Own.nil _ _ _ _ _, HW.out⟩
      · have hll : m.l.length = m.ln := by have := HM.out.lrow.1; rw [nv_length] at this; omega
        have hv : layF m tos t = (freshL (tos / 32) (t - 1) m.l, 0) := by unfold layF; rw [HC.out, HO.out]; simp [ht2]
        have HV := Lib.hid hv
        have hlen : (freshL (tos / 32) (t - 1) m.l).length = m.ln := by rw [freshL_length]; exact hll
        have HLEN := Lib.hid hlen
        have hnx : nextF t = t - 1 := by unfold nextF; rw [if_neg ht2]
        have HNX := Lib.hid hnx
        clear hv hlen hnx hll
        go_enter Try.func13, Try.ntmps13
        go_upto_region 1 with (refine wpList_box_blk (by rfl) 25 _ rfl m.cells rfl ?_; intro w1 hbw1 hB1 hs1)
        go_wp2_with (refine wpList_load_blk (by rfl) 25 _ rfl w.heap.size rfl 25 _ _ hbw1 Try.underlying25 rfl (sizeHp m) ?_)
        refine (CK.out w1 ⟨HM.out.op, HM.out.port, HM.out.bk, (HM.out.lrow.below hB1).more hB1.size, HM.out.lle, HM.out.lcap, (HM.out.rrow.below hB1).more hB1.size, HM.out.rle, HM.out.rcap, HM.out.lwf, HM.out.rwf⟩).mono ?_
        rintro e w2 ⟨rfl, hb2⟩
        rw [HC.out]
        have HW := Lib.hid (bthen hB1 hb2)
        have HB := Lib.hid (hbw1.on hb2)
        clear hbw1 hB1 hs1 hb2
        have d0 : w2.cell? ⟨w.heap.size, 0, none⟩ = some (.int .i64 0) := (HB.out.cell 0).trans (by show some (Value.int .i64 m.op) = _; rw [HO.out])
        go_wp2_with fail
        refine (next_any t ht.1 ht.2 w2).mono ?_
        rintro e w3 ⟨rfl, rfl⟩
        rw [HNX.out, show decide (¬ t < 2) = true from decide_eq_true (by omega)]
        clear d0
        go_wp2_with fail
        refine wp_region_rel (fun A B => A.grownBy B none) (fun A => grown_refl A _) (fun A B C h k => grown_trans h k) (relAt (List.cons (fun v _ => v = .pointer (some ⟨w.heap.size, 1, none⟩)) (List.cons (fun v _ => v = .slice m.lA m.ln m.lc) (List.cons (fun v _ => v = .int .u8 tos) (List.cons (fun v _ => v = .int .u8 (tos / 32)) (List.cons (fun v _ => v = .int .u8 (t - 1)) (List.cons (fun v W => ∃ A' c', v = .slice A' m.ln c' ∧ Own W w.heap.size 46 4 A' m.ln c' (evs (freshL (tos / 32) (t - 1) m.l))) (List.cons (fun v W => ∃ A' c', v = .slice A' m.ln c' ∧ Own W w.heap.size 46 4 A' m.ln c' (evs (freshL (tos / 32) (t - 1) m.l))) (List.cons (fun v _ => v = .int .i64 0) ([])))))))))) (MonoL.at_ (.cons (mono_val _) (.cons (mono_val _) (.cons (mono_val _) (.cons (mono_val _) (.cons (mono_val _) (.cons (fun _ _ _ ⟨A', c', hv, hr⟩ hg => ⟨A', c', hv, hr.below (grow_below hg)⟩) (.cons (fun _ _ _ ⟨A', c', hv, hr⟩ hg => ⟨A', c', hv, hr.below (grow_below hg)⟩) (.cons (mono_val _) .nil))))))))) (by kernel_rfl) (by kernel_rfl) ⟨?_, ?_, ?_, ?_, ?_, ?_, ?_, ?_, trivial⟩ ?_
        · intro a vs W hX hR he hf K hK
          rw [if_pos (wanted_none rfl)]
          have e3 : a.eval (.tmp 3) = .pointer (some ⟨w.heap.size, 0, none⟩) := hf 3 (by kernel_rfl)
          refine wp_value (v := .pointer (some ⟨w.heap.size, 1, none⟩)) ?_ (hK _ _ rfl (grown_refl W _))
          simp only [execOp, e3]
          try go_simp
          try (first | rfl | omega | (simp only [IntKind.wrap_i64, IntKind.wrap_u8, IntKind.wrap_u64, IntKind.wrap_u16, IntKind.wrap_u32]; omega) | (rw [Int.tmod_eq_emod_of_nonneg (by omega)]) | (rw [Int.tmod_eq_emod_of_nonneg (by omega)]; omega))
        · intro a vs W hX hR he hf K hK
          rw [if_pos (wanted_none rfl)]
          have e25 : a.eval (.tmp 25) = .pointer (some ⟨w.heap.size, 1, none⟩) := (he 0 25 (by kernel_rfl) rfl).trans (hR 0 (by kernel_rfl))
          have hbW := bthen (below_drew _) (grow_below hX)
          have hc : W.cell? ⟨w.heap.size, 1, none⟩ = some (.slice m.lA m.ln m.lc) := ((HB.out.on hbW).cell 1).trans (rfl : m.cells[1]? = some (.slice m.lA m.ln m.lc))
          refine wp_value (v := _) ?_ (hK _ _ rfl (grown_refl W _))
          simp only [execOp, e25]
          try go_simp
        · intro a vs W hX hR he hf K hK
          rw [if_pos (wanted_none rfl)]
          have e1 : a.eval (.tmp 1) = .int .u8 tos := hf 1 (by kernel_rfl)
          refine wp_value (v := .int .u8 tos) ?_ (hK _ _ rfl (grown_refl W _))
          simp only [execOp, e1]
          try go_simp
          try (first | rfl | omega | (simp only [IntKind.wrap_i64, IntKind.wrap_u8, IntKind.wrap_u64, IntKind.wrap_u16, IntKind.wrap_u32]; omega) | (rw [Int.tmod_eq_emod_of_nonneg (by omega)]) | (rw [Int.tmod_eq_emod_of_nonneg (by omega)]; omega))
        · intro a vs W hX hR he hf K hK
          rw [if_pos (wanted_none rfl)]
          have e27 : a.eval (.tmp 27) = .int .u8 tos := (he 2 27 (by kernel_rfl) rfl).trans (hR 2 (by kernel_rfl))
          refine wp_enter (f := 35) (args := #[.int .u8 tos]) (by simp only [execOp, e27]; go_simp; simpa [Act.eval] using e27) ((tof_any tos htos.1 htos.2 W).mono ?_)
          rintro x w' ⟨rfl, rfl⟩
          exact ⟨_, rfl, hK _ _ rfl (grown_refl _ _)⟩
        · intro a vs W hX hR he hf K hK
          rw [if_pos (wanted_none rfl)]
          have e8 : a.eval (.tmp 8) = .int .u8 (t - 1) := hf 8 (by kernel_rfl)
          refine wp_value (v := .int .u8 (t - 1)) ?_ (hK _ _ rfl (grown_refl W _))
          simp only [execOp, e8]
          try go_simp
          try (first | rfl | omega | (simp only [IntKind.wrap_i64, IntKind.wrap_u8, IntKind.wrap_u64, IntKind.wrap_u16, IntKind.wrap_u32]; omega) | (rw [Int.tmod_eq_emod_of_nonneg (by omega)]) | (rw [Int.tmod_eq_emod_of_nonneg (by omega)]; omega))
        · intro a vs W hX hR he hf K hK
          rw [if_pos (wanted_none rfl)]
          have e26 : a.eval (.tmp 26) = .slice m.lA m.ln m.lc := (he 1 26 (by kernel_rfl) rfl).trans (hR 1 (by kernel_rfl))
          have e28 : a.eval (.tmp 28) = .int .u8 (tos / 32) := (he 3 28 (by kernel_rfl) rfl).trans (hR 3 (by kernel_rfl))
          have e29 : a.eval (.tmp 29) = .int .u8 (t - 1) := (he 4 29 (by kernel_rfl) rfl).trans (hR 4 (by kernel_rfl))
          have hbW := bthen (below_drew _) (grow_below hX)
          refine wp_enter (f := 22) (args := #[.slice m.lA m.ln m.lc, .int .u8 (tos / 32), .int .u8 (t - 1)]) (by simp only [execOp, e26, e28, e29]; go_simp; exact ⟨by simpa [Act.eval] using e26, by simpa [Act.eval] using e28, by simpa [Act.eval] using e29⟩) ((fresh_any m.lA m.ln m.lc m.l (tos / 32) (t - 1) (by omega) (by omega) (by omega) W ((HM.out.lrow.below (bthen HW.out hbW)).more (bthen HW.out hbW).size)).mono ?_)
          rintro x w' ⟨A3, c3, rfl, hown, hb⟩
          exact ⟨_, rfl, hK _ _ ⟨A3, c3, rfl, hown.mono (bthen HW.out hbW).size⟩ (below_grow hb _)⟩
        · intro a vs W hX hR he hf K hK
          rw [if_pos (wanted_none rfl)]
          have e30 := he 5 30 (by kernel_rfl) rfl
          have p30 := hR 5 (by kernel_rfl)
          change (fun v W => ∃ A' c', v = .slice A' m.ln c' ∧ Own W w.heap.size 46 4 A' m.ln c' (evs (freshL (tos / 32) (t - 1) m.l))) (vs 5) W at p30
          refine wp_value (v := _) ?_ (hK _ _ p30 (grown_refl W _))
          simp only [execOp, e30]
          try go_simp
        · intro a vs W hX hR he hf K hK
          rw [if_pos (wanted_none rfl)]
          refine wp_value (v := .int .i64 0) ?_ (hK _ _ rfl (grown_refl W _))
          simp only [execOp]
          try go_simp
          try (first | rfl | omega | (simp only [IntKind.wrap_i64, IntKind.wrap_u8, IntKind.wrap_u64, IntKind.wrap_u16, IntKind.wrap_u32]; omega) | (rw [Int.tmod_eq_emod_of_nonneg (by omega)]) | (rw [Int.tmod_eq_emod_of_nonneg (by omega)]; omega))
        · intro vs w4 hX4 hR
          have q0 := hR 0 (by decide)
          have q1 := hR 1 (by decide)
          have q2 := hR 2 (by decide)
          have q3 := hR 3 (by decide)
          have q4 := hR 4 (by decide)
          have q5 := hR 5 (by decide)
          have q6 := hR 6 (by decide)
          have q7 := hR 7 (by decide)
          change vs 0 = .pointer (some ⟨w.heap.size, 1, none⟩) at q0
          change vs 1 = .slice m.lA m.ln m.lc at q1
          change vs 2 = .int .u8 tos at q2
          change vs 3 = .int .u8 (tos / 32) at q3
          change vs 4 = .int .u8 (t - 1) at q4
          change (fun v W => ∃ A' c', v = .slice A' m.ln c' ∧ Own W w.heap.size 46 4 A' m.ln c' (evs (freshL (tos / 32) (t - 1) m.l))) (vs 5) w4 at q5
          change (fun v W => ∃ A' c', v = .slice A' m.ln c' ∧ Own W w.heap.size 46 4 A' m.ln c' (evs (freshL (tos / 32) (t - 1) m.l))) (vs 6) w4 at q6
          change vs 7 = .int .i64 0 at q7
          simp only [putAll, Act.put, List.setIfInBounds_toArray, List.set_cons_zero, List.set_cons_succ, q0, q1, q2, q3, q4, q7]
          clear q0 q1 q2 q3 q4 q7
          clear hR
          obtain ⟨A3, c3, hv3, hown3⟩ := q6
          rw [hv3]
          go_wp2_with fail
          go_ret2
          exact ⟨A3, c3, by rw [HV.out]; simp only [HLEN.out]; rfl, by rw [HV.out]; simp only [HLEN.out]; exact hown3, bthen HW.out (bthen (below_drew _) (grow_below hX4))⟩
    · have ho0' : (o != 0) = true := by simpa [bne] using ho0
      have HV : Hid (layF m tos t = ([], 54)) := Lib.hid (by unfold layF; rw [HC.out, HO.out]; simp [ho0])
      go_enter Try.func13, Try.ntmps13
      go_upto_region 1 with (refine wpList_box_blk (by rfl) 25 _ rfl m.cells rfl ?_; intro w1 hbw1 hB1 hs1)
      go_wp2_with (refine wpList_load_blk (by rfl) 25 _ rfl w.heap.size rfl 25 _ _ hbw1 Try.underlying25 rfl (sizeHp m) ?_)
      refine (CK.out w1 ⟨HM.out.op, HM.out.port, HM.out.bk, (HM.out.lrow.below hB1).more hB1.size, HM.out.lle, HM.out.lcap, (HM.out.rrow.below hB1).more hB1.size, HM.out.rle, HM.out.rcap, HM.out.lwf, HM.out.rwf⟩).mono ?_
      rintro e w2 ⟨rfl, hb2⟩
      rw [HC.out]
      have HW := Lib.hid (bthen hB1 hb2)
      have HB := Lib.hid (hbw1.on hb2)
      clear hbw1 hB1 hs1 hb2
      have d0 : w2.cell? ⟨w.heap.size, 0, none⟩ = some (.int .i64 o) := (HB.out.cell 0).trans (by show some (Value.int .i64 m.op) = _; rw [HO.out])
      go_wp2_with fail
      go_ret2
      exact ⟨none, 0, by rw [HV.out]; rfl, by rw [HV.out]; exact Own.nil _ _ _ _ _, HW.out⟩
  · have hk0' : (k != 0) = true := by simpa [bne] using hk0
    have HV : Hid (layF m tos t = ([], 54)) := Lib.hid (by unfold layF; rw [HC.out, HO.out]; simp [hk0])
    go_enter Try.func13, Try.ntmps13
    go_upto_region 1 with (refine wpList_box_blk (by rfl) 25 _ rfl m.cells rfl ?_; intro w1 hbw1 hB1 hs1)
    go_wp2_with (refine wpList_load_blk (by rfl) 25 _ rfl w.heap.size rfl 25 _ _ hbw1 Try.underlying25 rfl (sizeHp m) ?_)
    refine (CK.out w1 ⟨HM.out.op, HM.out.port, HM.out.bk, (HM.out.lrow.below hB1).more hB1.size, HM.out.lle, HM.out.lcap, (HM.out.rrow.below hB1).more hB1.size, HM.out.rle, HM.out.rcap, HM.out.lwf, HM.out.rwf⟩).mono ?_
    rintro e w2 ⟨rfl, hb2⟩
    rw [HC.out]
    have HW := Lib.hid (bthen hB1 hb2)
    have HB := Lib.hid (hbw1.on hb2)
    clear hbw1 hB1 hs1 hb2
    have d0 : w2.cell? ⟨w.heap.size, 0, none⟩ = some (.int .i64 o) := (HB.out.cell 0).trans (by show some (Value.int .i64 m.op) = _; rw [HO.out])
    go_wp2_with fail
    go_ret2
    exact ⟨none, 0, by rw [HV.out]; rfl, by rw [HV.out]; exact Own.nil _ _ _ _ _, HW.out⟩

set_option maxHeartbeats 4000000 in
theorem rlay_any (m : Hp) (tos t : Int) (w : World) (hm : m.ok w) (htos : 0 ≤ tos ∧ tos ≤ 255) (ht : 0 ≤ t ∧ t ≤ 255) :
    Calls Try.prog 14 #[.agg m.cells.toArray, .int .u8 tos, .int .u8 t] w fun e w' => ∃ A' c', e = .returned (.tuple #[.slice A' (layF m tos t).1.length c', .int .i64 (layF m tos t).2]) ∧ Own w' w.heap.size 46 4 A' (layF m tos t).1.length c' (evs (layF m tos t).1) ∧ Below w.heap.size w w' := by
  have HM := Lib.hid hm
  have CK := Lib.hid (fun W (h : m.ok W) => rcheck_any m W h)
  obtain ⟨k, hk⟩ : ∃ k, m.chk = k := ⟨_, rfl⟩
  obtain ⟨o, ho⟩ : ∃ o, m.op = o := ⟨_, rfl⟩
  have HC := Lib.hid hk
  have HO := Lib.hid ho
  clear hm hk ho
  by_cases hk0 : k = 0
  · subst hk0
    have hsm := (chk_small m HC.out).1
    by_cases ho0 : o = 0
    · subst ho0
      by_cases ht2 : t < 2
      · have HV : Hid (layF m tos t = ([], 56)) := Lib.hid (by unfold layF; rw [HC.out, HO.out]; simp [ht2])
        go_enter Try.func14, Try.ntmps14
        go_upto_region 1 with (refine wpList_box_blk (by rfl) 25 _ rfl m.cells rfl ?_; intro w1 hbw1 hB1 hs1)
        go_wp2_with (refine wpList_load_blk (by rfl) 25 _ rfl w.heap.size rfl 25 _ _ hbw1 Try.underlying25 rfl (sizeHp m) ?_)
        refine (CK.out w1 ⟨HM.out.op, HM.out.port, HM.out.bk, (HM.out.lrow.below hB1).more hB1.size, HM.out.lle, HM.out.lcap, (HM.out.rrow.below hB1).more hB1.size, HM.out.rle, HM.out.rcap, HM.out.lwf, HM.out.rwf⟩).mono ?_
        rintro e w2 ⟨rfl, hb2⟩
        rw [HC.out]
        have HW := Lib.hid (bthen hB1 hb2)
        have HB := Lib.hid (hbw1.on hb2)
        clear hbw1 hB1 hs1 hb2
        have d0 : w2.cell? ⟨w.heap.size, 0, none⟩ = some (.int .i64 0) := (HB.out.cell 0).trans (by show some (Value.int .i64 m.op) = _; rw [HO.out])
        go_wp2_with fail
        refine (rnext_any t ht.1 ht.2 w2).mono ?_
        rintro e w3 ⟨rfl, rfl⟩
        rw [show decide (¬ t < 2) = false from decide_eq_false (by omega)]
        go_wp2_with fail
        go_ret2
        exact ⟨none, 0, by rw [HV.out]; rfl, by rw [HV.out]; exact Own.nil _ _ _ _ _, HW.out⟩
      · have hll : m.l.length = m.ln := by have := HM.out.lrow.1; rw [nv_length] at this; omega
        have hv : layF m tos t = (freshL (tos / 32) (t - 1) m.l, 0) := by unfold layF; rw [HC.out, HO.out]; simp [ht2]
        have HV := Lib.hid hv
        have hlen : (freshL (tos / 32) (t - 1) m.l).length = m.ln := by rw [freshL_length]; exact hll
        have HLEN := Lib.hid hlen
        have hnx : nextF t = t - 1 := by unfold nextF; rw [if_neg ht2]
        have HNX := Lib.hid hnx
        clear hv hlen hnx hll
        go_enter Try.func14, Try.ntmps14
        go_upto_region 1 with (refine wpList_box_blk (by rfl) 25 _ rfl m.cells rfl ?_; intro w1 hbw1 hB1 hs1)
        go_wp2_with (refine wpList_load_blk (by rfl) 25 _ rfl w.heap.size rfl 25 _ _ hbw1 Try.underlying25 rfl (sizeHp m) ?_)
        refine (CK.out w1 ⟨HM.out.op, HM.out.port, HM.out.bk, (HM.out.lrow.below hB1).more hB1.size, HM.out.lle, HM.out.lcap, (HM.out.rrow.below hB1).more hB1.size, HM.out.rle, HM.out.rcap, HM.out.lwf, HM.out.rwf⟩).mono ?_
        rintro e w2 ⟨rfl, hb2⟩
        rw [HC.out]
        have HW := Lib.hid (bthen hB1 hb2)
        have HB := Lib.hid (hbw1.on hb2)
        clear hbw1 hB1 hs1 hb2
        have d0 : w2.cell? ⟨w.heap.size, 0, none⟩ = some (.int .i64 0) := (HB.out.cell 0).trans (by show some (Value.int .i64 m.op) = _; rw [HO.out])
        go_wp2_with fail
        refine (rnext_any t ht.1 ht.2 w2).mono ?_
        rintro e w3 ⟨rfl, rfl⟩
        rw [HNX.out, show decide (¬ t < 2) = true from decide_eq_true (by omega)]
        clear d0
        go_wp2_with fail
        refine wp_region_rel (fun A B => A.grownBy B none) (fun A => grown_refl A _) (fun A B C h k => grown_trans h k) (relAt (List.cons (fun v _ => v = .pointer (some ⟨w.heap.size, 1, none⟩)) (List.cons (fun v _ => v = .slice m.lA m.ln m.lc) (List.cons (fun v _ => v = .int .u8 tos) (List.cons (fun v _ => v = .int .u8 (tos / 32)) (List.cons (fun v _ => v = .int .u8 (t - 1)) (List.cons (fun v W => ∃ A' c', v = .slice A' m.ln c' ∧ Own W w.heap.size 46 4 A' m.ln c' (evs (freshL (tos / 32) (t - 1) m.l))) (List.cons (fun v W => ∃ A' c', v = .slice A' m.ln c' ∧ Own W w.heap.size 46 4 A' m.ln c' (evs (freshL (tos / 32) (t - 1) m.l))) (List.cons (fun v _ => v = .int .i64 0) ([])))))))))) (MonoL.at_ (.cons (mono_val _) (.cons (mono_val _) (.cons (mono_val _) (.cons (mono_val _) (.cons (mono_val _) (.cons (fun _ _ _ ⟨A', c', hv, hr⟩ hg => ⟨A', c', hv, hr.below (grow_below hg)⟩) (.cons (fun _ _ _ ⟨A', c', hv, hr⟩ hg => ⟨A', c', hv, hr.below (grow_below hg)⟩) (.cons (mono_val _) .nil))))))))) (by kernel_rfl) (by kernel_rfl) ⟨?_, ?_, ?_, ?_, ?_, ?_, ?_, ?_, trivial⟩ ?_
        · intro a vs W hX hR he hf K hK
          rw [if_pos (wanted_none rfl)]
          have e3 : a.eval (.tmp 3) = .pointer (some ⟨w.heap.size, 0, none⟩) := hf 3 (by kernel_rfl)
          refine wp_value (v := .pointer (some ⟨w.heap.size, 1, none⟩)) ?_ (hK _ _ rfl (grown_refl W _))
          simp only [execOp, e3]
          try go_simp
          try (first | rfl | omega | (simp only [IntKind.wrap_i64, IntKind.wrap_u8, IntKind.wrap_u64, IntKind.wrap_u16, IntKind.wrap_u32]; omega) | (rw [Int.tmod_eq_emod_of_nonneg (by omega)]) | (rw [Int.tmod_eq_emod_of_nonneg (by omega)]; omega))
        · intro a vs W hX hR he hf K hK
          rw [if_pos (wanted_none rfl)]
          have e25 : a.eval (.tmp 25) = .pointer (some ⟨w.heap.size, 1, none⟩) := (he 0 25 (by kernel_rfl) rfl).trans (hR 0 (by kernel_rfl))
          have hbW := bthen (below_drew _) (grow_below hX)
          have hc : W.cell? ⟨w.heap.size, 1, none⟩ = some (.slice m.lA m.ln m.lc) := ((HB.out.on hbW).cell 1).trans (rfl : m.cells[1]? = some (.slice m.lA m.ln m.lc))
          refine wp_value (v := _) ?_ (hK _ _ rfl (grown_refl W _))
          simp only [execOp, e25]
          try go_simp
        · intro a vs W hX hR he hf K hK
          rw [if_pos (wanted_none rfl)]
          have e1 : a.eval (.tmp 1) = .int .u8 tos := hf 1 (by kernel_rfl)
          refine wp_value (v := .int .u8 tos) ?_ (hK _ _ rfl (grown_refl W _))
          simp only [execOp, e1]
          try go_simp
          try (first | rfl | omega | (simp only [IntKind.wrap_i64, IntKind.wrap_u8, IntKind.wrap_u64, IntKind.wrap_u16, IntKind.wrap_u32]; omega) | (rw [Int.tmod_eq_emod_of_nonneg (by omega)]) | (rw [Int.tmod_eq_emod_of_nonneg (by omega)]; omega))
        · intro a vs W hX hR he hf K hK
          rw [if_pos (wanted_none rfl)]
          have e27 : a.eval (.tmp 27) = .int .u8 tos := (he 2 27 (by kernel_rfl) rfl).trans (hR 2 (by kernel_rfl))
          refine wp_enter (f := 36) (args := #[.int .u8 tos]) (by simp only [execOp, e27]; go_simp; simpa [Act.eval] using e27) ((rtof_any tos htos.1 htos.2 W).mono ?_)
          rintro x w' ⟨rfl, rfl⟩
          exact ⟨_, rfl, hK _ _ rfl (grown_refl _ _)⟩
        · intro a vs W hX hR he hf K hK
          rw [if_pos (wanted_none rfl)]
          have e8 : a.eval (.tmp 8) = .int .u8 (t - 1) := hf 8 (by kernel_rfl)
          refine wp_value (v := .int .u8 (t - 1)) ?_ (hK _ _ rfl (grown_refl W _))
          simp only [execOp, e8]
          try go_simp
          try (first | rfl | omega | (simp only [IntKind.wrap_i64, IntKind.wrap_u8, IntKind.wrap_u64, IntKind.wrap_u16, IntKind.wrap_u32]; omega) | (rw [Int.tmod_eq_emod_of_nonneg (by omega)]) | (rw [Int.tmod_eq_emod_of_nonneg (by omega)]; omega))
        · intro a vs W hX hR he hf K hK
          rw [if_pos (wanted_none rfl)]
          have e26 : a.eval (.tmp 26) = .slice m.lA m.ln m.lc := (he 1 26 (by kernel_rfl) rfl).trans (hR 1 (by kernel_rfl))
          have e28 : a.eval (.tmp 28) = .int .u8 (tos / 32) := (he 3 28 (by kernel_rfl) rfl).trans (hR 3 (by kernel_rfl))
          have e29 : a.eval (.tmp 29) = .int .u8 (t - 1) := (he 4 29 (by kernel_rfl) rfl).trans (hR 4 (by kernel_rfl))
          have hbW := bthen (below_drew _) (grow_below hX)
          refine wp_enter (f := 29) (args := #[.slice m.lA m.ln m.lc, .int .u8 (tos / 32), .int .u8 (t - 1)]) (by simp only [execOp, e26, e28, e29]; go_simp; exact ⟨by simpa [Act.eval] using e26, by simpa [Act.eval] using e28, by simpa [Act.eval] using e29⟩) ((rfresh_any m.lA m.ln m.lc m.l (tos / 32) (t - 1) (by omega) (by omega) (by omega) W ((HM.out.lrow.below (bthen HW.out hbW)).more (bthen HW.out hbW).size)).mono ?_)
          rintro x w' ⟨A3, c3, rfl, hown, hb⟩
          exact ⟨_, rfl, hK _ _ ⟨A3, c3, rfl, hown.mono (bthen HW.out hbW).size⟩ (below_grow hb _)⟩
        · intro a vs W hX hR he hf K hK
          rw [if_pos (wanted_none rfl)]
          have e30 := he 5 30 (by kernel_rfl) rfl
          have p30 := hR 5 (by kernel_rfl)
          change (fun v W => ∃ A' c', v = .slice A' m.ln c' ∧ Own W w.heap.size 46 4 A' m.ln c' (evs (freshL (tos / 32) (t - 1) m.l))) (vs 5) W at p30
          refine wp_value (v := _) ?_ (hK _ _ p30 (grown_refl W _))
          simp only [execOp, e30]
          try go_simp
        · intro a vs W hX hR he hf K hK
          rw [if_pos (wanted_none rfl)]
          refine wp_value (v := .int .i64 0) ?_ (hK _ _ rfl (grown_refl W _))
          simp only [execOp]
          try go_simp
          try (first | rfl | omega | (simp only [IntKind.wrap_i64, IntKind.wrap_u8, IntKind.wrap_u64, IntKind.wrap_u16, IntKind.wrap_u32]; omega) | (rw [Int.tmod_eq_emod_of_nonneg (by omega)]) | (rw [Int.tmod_eq_emod_of_nonneg (by omega)]; omega))
        · intro vs w4 hX4 hR
          have q0 := hR 0 (by decide)
          have q1 := hR 1 (by decide)
          have q2 := hR 2 (by decide)
          have q3 := hR 3 (by decide)
          have q4 := hR 4 (by decide)
          have q5 := hR 5 (by decide)
          have q6 := hR 6 (by decide)
          have q7 := hR 7 (by decide)
          change vs 0 = .pointer (some ⟨w.heap.size, 1, none⟩) at q0
          change vs 1 = .slice m.lA m.ln m.lc at q1
          change vs 2 = .int .u8 tos at q2
          change vs 3 = .int .u8 (tos / 32) at q3
          change vs 4 = .int .u8 (t - 1) at q4
          change (fun v W => ∃ A' c', v = .slice A' m.ln c' ∧ Own W w.heap.size 46 4 A' m.ln c' (evs (freshL (tos / 32) (t - 1) m.l))) (vs 5) w4 at q5
          change (fun v W => ∃ A' c', v = .slice A' m.ln c' ∧ Own W w.heap.size 46 4 A' m.ln c' (evs (freshL (tos / 32) (t - 1) m.l))) (vs 6) w4 at q6
          change vs 7 = .int .i64 0 at q7
          simp only [putAll, Act.put, List.setIfInBounds_toArray, List.set_cons_zero, List.set_cons_succ, q0, q1, q2, q3, q4, q7]
          clear q0 q1 q2 q3 q4 q7
          clear hR
          obtain ⟨A3, c3, hv3, hown3⟩ := q6
          rw [hv3]
          go_wp2_with fail
          go_ret2
          exact ⟨A3, c3, by rw [HV.out]; simp only [HLEN.out]; rfl, by rw [HV.out]; simp only [HLEN.out]; exact hown3, bthen HW.out (bthen (below_drew _) (grow_below hX4))⟩
    · have ho0' : (o != 0) = true := by simpa [bne] using ho0
      have HV : Hid (layF m tos t = ([], 54)) := Lib.hid (by unfold layF; rw [HC.out, HO.out]; simp [ho0])
      go_enter Try.func14, Try.ntmps14
      go_upto_region 1 with (refine wpList_box_blk (by rfl) 25 _ rfl m.cells rfl ?_; intro w1 hbw1 hB1 hs1)
      go_wp2_with (refine wpList_load_blk (by rfl) 25 _ rfl w.heap.size rfl 25 _ _ hbw1 Try.underlying25 rfl (sizeHp m) ?_)
      refine (CK.out w1 ⟨HM.out.op, HM.out.port, HM.out.bk, (HM.out.lrow.below hB1).more hB1.size, HM.out.lle, HM.out.lcap, (HM.out.rrow.below hB1).more hB1.size, HM.out.rle, HM.out.rcap, HM.out.lwf, HM.out.rwf⟩).mono ?_
      rintro e w2 ⟨rfl, hb2⟩
      rw [HC.out]
      have HW := Lib.hid (bthen hB1 hb2)
      have HB := Lib.hid (hbw1.on hb2)
      clear hbw1 hB1 hs1 hb2
      have d0 : w2.cell? ⟨w.heap.size, 0, none⟩ = some (.int .i64 o) := (HB.out.cell 0).trans (by show some (Value.int .i64 m.op) = _; rw [HO.out])
      go_wp2_with fail
      go_ret2
      exact ⟨none, 0, by rw [HV.out]; rfl, by rw [HV.out]; exact Own.nil _ _ _ _ _, HW.out⟩
  · have hk0' : (k != 0) = true := by simpa [bne] using hk0
    have HV : Hid (layF m tos t = ([], 54)) := Lib.hid (by unfold layF; rw [HC.out, HO.out]; simp [hk0])
    go_enter Try.func14, Try.ntmps14
    go_upto_region 1 with (refine wpList_box_blk (by rfl) 25 _ rfl m.cells rfl ?_; intro w1 hbw1 hB1 hs1)
    go_wp2_with (refine wpList_load_blk (by rfl) 25 _ rfl w.heap.size rfl 25 _ _ hbw1 Try.underlying25 rfl (sizeHp m) ?_)
    refine (CK.out w1 ⟨HM.out.op, HM.out.port, HM.out.bk, (HM.out.lrow.below hB1).more hB1.size, HM.out.lle, HM.out.lcap, (HM.out.rrow.below hB1).more hB1.size, HM.out.rle, HM.out.rcap, HM.out.lwf, HM.out.rwf⟩).mono ?_
    rintro e w2 ⟨rfl, hb2⟩
    rw [HC.out]
    have HW := Lib.hid (bthen hB1 hb2)
    have HB := Lib.hid (hbw1.on hb2)
    clear hbw1 hB1 hs1 hb2
    have d0 : w2.cell? ⟨w.heap.size, 0, none⟩ = some (.int .i64 o) := (HB.out.cell 0).trans (by show some (Value.int .i64 m.op) = _; rw [HO.out])
    go_wp2_with fail
    go_ret2
    exact ⟨none, 0, by rw [HV.out]; rfl, by rw [HV.out]; exact Own.nil _ _ _ _ _, HW.out⟩
end Go.Proofs.Ytmpaockaeoknmaa

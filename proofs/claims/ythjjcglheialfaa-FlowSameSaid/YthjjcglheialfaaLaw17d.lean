/- The walk of layer 17 (flow): Same. No condition but those of the rows. -/
import Derived.Test.YthjjcglheialfaaLaw17
import Derived.Test.YthjjcglheialfaaBod17
import Derived.Test.YthjjcglheialfaaIp6d
namespace Go.Proofs.Ythjjcglheialfaa
open Go.RowKit
set_option linter.unusedVariables false
set_option maxRecDepth 20000
set_option linter.unusedSimpArgs false

set_option maxHeartbeats 4000000 in
theorem walk_FlowSame (w : World) (h : H4) (hf : h.fit) (g : H6) (gf : g.fit) (x : Bod) (hx : x.ok w) : Calls Try.prog 5 #[.agg h.cells.toArray, .agg g.cells.toArray, .agg x.cells.toArray] w fun e w' => e = .returned (.bool true) ∧ Below w.heap.size w w' := by
  have hla := hx.a.len
  have hlb := hx.b.len
  have hlp := hx.p
  have htt := hx.ttl
  have hcc := hx.cls
  have HF := Lib.hid hf
  have GF := Lib.hid gf
  have HP := Lib.hid hx.p
  by_cases ho : h.opt.length ≤ 100
  · have ho' : ¬ (100 : Int) < (h.opt.length : Int) := by omega
    by_cases ha : x.a.n ≤ 500
    · have ha' : ¬ (500 : Int) < (x.a.n : Int) := by omega
      by_cases hb : x.b.n ≤ 500
      · have hb' : ¬ (500 : Int) < (x.b.n : Int) := by omega
        have hnf := h.next_fit hf x.ttl x.cls htt hcc
        have gnf := g.next_fit gf x.ttl x.cls htt hcc
        have r1 := fun W => rput4_any h hf (x.p ++ x.a.l) W (by rw [List.length_append]; omega)
        have r2 := fun W => rput6_any g gf (x.p ++ x.a.l) W (by rw [List.length_append]; omega)
        have r3 := fun W => rput4_any (h.next x.ttl x.cls) hnf (x.p ++ x.b.l) W (by rw [List.length_append]; omega)
        have r4 := fun W => rput6_any (g.next' x.ttl x.cls) gnf (x.p ++ x.b.l) W (by rw [List.length_append]; omega)
        have l1 := of_pkt4 h hf x.p x.a.l hlp
        have l2 := of_pkt6 g gf x.p x.a.l hlp
        have l3 := of_pkt4 _ hnf x.p x.b.l hlp
        have l4 := of_pkt6 _ gnf x.p x.b.l hlp
        rw [keyH4_next] at l3
        rw [keyH6_next] at l4
        have kf := keyH4_fit h hf x.p
        have mf := keyH6_fit g gf x.p
        have ks := keyH4_six h x.p
        have ms := keyH6_six g x.p
        generalize keyH4 h x.p = K0 at l1 l3 kf ks
        generalize keyH6 g x.p = M0 at l2 l4 mf ms
        cases hp1 : put4 h (x.p ++ x.a.l) with
        | mk P1 e1 =>
        cases hp2 : put6 g (x.p ++ x.a.l) with
        | mk P2 e2 =>
        cases hp3 : put4 (h.next x.ttl x.cls) (x.p ++ x.b.l) with
        | mk P3 e3 =>
        cases hp4 : put6 (g.next' x.ttl x.cls) (x.p ++ x.b.l) with
        | mk P4 e4 =>
        simp only [hp1, hp2, hp3, hp4] at r1 r2 r3 r4 l1 l2 l3 l4
        have R1 := Lib.hid r1
        have R2 := Lib.hid r2
        have R3 := Lib.hid r3
        have R4 := Lib.hid r4
        have L1 := Lib.hid l1
        have L2 := Lib.hid l2
        have L3 := Lib.hid l3
        have L4 := Lib.hid l4
        have HNF := Lib.hid hnf
        have GNF := Lib.hid gnf
        have KF := Lib.hid kf
        have MF := Lib.hid mf
        have KS := Lib.hid ks
        have MS := Lib.hid ms
        have HA := Lib.hid hx.a
        have HBB := Lib.hid hx.b
        clear r1 r2 r3 r4 l1 l2 l3 l4 hnf gnf kf mf ks ms hf gf hp1 hp2 hp3 hp4 hx hlp
        go_enter Try.func5, Try.ntmps5
        go_wp2_with (first
          | (refine wpList_box_blk rfl 46 _ rfl h.cells rfl ?_; intro w1 hk1 hB1 hs1)
          | (refine wpList_box_blk rfl 48 _ rfl g.cells rfl ?_; intro w2 hk2 hB2 hs2)
          | (refine wpList_box_blk rfl 50 _ rfl x.cells rfl ?_; intro w3 hk3 hB3 hs3))
        have hB12 := bthen (bthen hB1 hB2) hB3
        replace hk1 := (hk1.on hB2).on hB3
        rw [hs1] at hk2
        replace hk2 := hk2.on hB3
        rw [hs2, hs1] at hk3
        refine (awake_any w3).mono ?_
        rintro e w4 ⟨rfl, hb⟩
        have HW := Lib.hid (bthen hB12 hb)
        have HB := Lib.hid (hk1.on hb)
        have HG := Lib.hid (hk2.on hb)
        have HX := Lib.hid (hk3.on hb)
        clear hk1 hk2 hk3 hB1 hB2 hB3 hs1 hs2 hs3 hB12 hb
        have ck := HB.out.cell 16
        rw [h.get_opt HF.out.ok] at ck
        have cka := (HX.out.cell 4).trans (x.get HP.out 0)
        have ckb := (HX.out.cell 5).trans (x.get HP.out 1)
        change w4.cell? _ = some (.slice x.a.A x.a.n x.a.c) at cka
        change w4.cell? _ = some (.slice x.b.A x.b.n x.b.c) at ckb
        go_wp2_with fail
        clear ck cka ckb
        refine wp_region_rel (fun A B => A.grownBy B none) (fun A => grown_refl A _) (fun A B C h k => grown_trans h k) (relAt (List.cons (fun v _ => v = .agg h.cells.toArray) (List.cons (fun v _ => v = .pointer (some ⟨w.heap.size + 1 + 1, 0, none⟩)) (List.cons (fun v _ => v = .slice (some ⟨w.heap.size + 1 + 1, 0, none⟩) 4 4) (List.cons (fun v _ => v = str x.p) (List.cons (fun v _ => v = .pointer (some ⟨w.heap.size + 1 + 1, 4, none⟩)) (List.cons (fun v _ => v = .slice x.a.A x.a.n x.a.c) (List.cons (fun v _ => v = str x.a.l) (List.cons (fun v _ => v = str (x.p ++ x.a.l)) (List.cons (fun v _ => v = .tuple #[str P1, .int .i64 e1]) (List.cons (fun v _ => v = .tuple #[str P1, .int .i64 e1]) (List.cons (fun v _ => v = str P1) (List.cons (fun v _ => v = .int .i64 e1) (List.cons (fun v _ => v = str P1) (List.cons (fun v _ => v = .int .i64 e1) ([])))))))))))))))) (MonoL.at_ (.cons (mono_val _) (.cons (mono_val _) (.cons (mono_val _) (.cons (mono_val _) (.cons (mono_val _) (.cons (mono_val _) (.cons (mono_val _) (.cons (mono_val _) (.cons (mono_val _) (.cons (mono_val _) (.cons (mono_val _) (.cons (mono_val _) (.cons (mono_val _) (.cons (mono_val _) .nil))))))))))))))) (by kernel_rfl) (by kernel_rfl) ⟨?_, ?_, ?_, ?_, ?_, ?_, ?_, ?_, ?_, ?_, ?_, ?_, ?_, ?_, trivial⟩ ?_
        · intro a vs W hX hR he hf K hK
          rw [if_pos (wanted_none rfl)]
          have e3 : a.eval (.tmp 3) = .pointer (some ⟨w.heap.size, 0, none⟩) := hf 3 (by kernel_rfl)
          have hbW := bthen (below_drew _) (grow_below hX)
          exact wp_value (exec_load 46 _ rfl (w.heap.size) e3 46 h.cells _ (HB.out.on hbW) Try.underlying46 rfl (size4 _ HF.out.ok)) (hK _ _ rfl (grown_refl W _))
        · intro a vs W hX hR he hf K hK
          rw [if_pos (wanted_none rfl)]
          have e5 : a.eval (.tmp 5) = .pointer (some ⟨w.heap.size + 1 + 1, 0, none⟩) := hf 5 (by kernel_rfl)
          refine wp_value (v := .pointer (some ⟨w.heap.size + 1 + 1, 0, none⟩)) ?_ (hK _ _ rfl (grown_refl W _))
          simp only [execOp, e5]
          try go_simp
          try (first | rfl | omega | (simp only [IntKind.wrap_i64, IntKind.wrap_u8, IntKind.wrap_u64, IntKind.wrap_u16, IntKind.wrap_u32]; omega) | (rw [Int.tmod_eq_emod_of_nonneg (by omega)]) | (rw [Int.tmod_eq_emod_of_nonneg (by omega)]; omega))
        · intro a vs W hX hR he hf K hK
          rw [if_pos (wanted_none rfl)]
          have e45 : a.eval (.tmp 45) = .pointer (some ⟨w.heap.size + 1 + 1, 0, none⟩) := (he 1 45 (by kernel_rfl) rfl).trans (hR 1 (by kernel_rfl))
          have f45 := e45
          simp only [Act.eval, Array.getD_eq_getD_getElem?] at f45
          refine wp_value (v := _) ?_ (hK _ _ rfl (grown_refl W _))
          simp only [execOp, e45]
          go_simp
        · intro a vs W hX hR he hf K hK
          rw [if_pos (wanted_none rfl)]
          have e46 : a.eval (.tmp 46) = .slice (some ⟨w.heap.size + 1 + 1, 0, none⟩) 4 4 := (he 2 46 (by kernel_rfl) rfl).trans (hR 2 (by kernel_rfl))
          have hbW := bthen (below_drew _) (grow_below hX)
          have hrow := (HX.out.on hbW).row 1 0 4 (by rw [x.cells_length HP.out]; omega)
          rw [show 4 * 1 = 4 from rfl, List.drop_zero, x.take HP.out] at hrow
          exact wp_value (exec_str 22 9 5 _ rfl Try.underlying22 Try.underlying5 Try.underlying9 _ 4 4 x.p e46 ⟨hrow, Nat.le_refl _, by simp [maxLen]⟩) (hK _ _ rfl (grown_refl W _))
        · intro a vs W hX hR he hf K hK
          rw [if_pos (wanted_none rfl)]
          have e5 : a.eval (.tmp 5) = .pointer (some ⟨w.heap.size + 1 + 1, 0, none⟩) := hf 5 (by kernel_rfl)
          refine wp_value (v := .pointer (some ⟨w.heap.size + 1 + 1, 4, none⟩)) ?_ (hK _ _ rfl (grown_refl W _))
          simp only [execOp, e5]
          try go_simp
          try (first | rfl | omega | (simp only [IntKind.wrap_i64, IntKind.wrap_u8, IntKind.wrap_u64, IntKind.wrap_u16, IntKind.wrap_u32]; omega) | (rw [Int.tmod_eq_emod_of_nonneg (by omega)]) | (rw [Int.tmod_eq_emod_of_nonneg (by omega)]; omega))
        · intro a vs W hX hR he hf K hK
          rw [if_pos (wanted_none rfl)]
          have e48 : a.eval (.tmp 48) = .pointer (some ⟨w.heap.size + 1 + 1, 4, none⟩) := (he 4 48 (by kernel_rfl) rfl).trans (hR 4 (by kernel_rfl))
          have hbW := bthen (below_drew _) (grow_below hX)
          have hc : W.cell? ⟨w.heap.size + 1 + 1, 4, none⟩ = some (.slice x.a.A x.a.n x.a.c) := ((HX.out.on hbW).cell 4).trans (x.get HP.out 0)
          refine wp_value (v := _) ?_ (hK _ _ rfl (grown_refl W _))
          simp only [execOp, e48]
          try go_simp
        · intro a vs W hX hR he hf K hK
          rw [if_pos (wanted_none rfl)]
          have e49 : a.eval (.tmp 49) = .slice x.a.A x.a.n x.a.c := (he 5 49 (by kernel_rfl) rfl).trans (hR 5 (by kernel_rfl))
          have hbW := bthen (below_drew _) (grow_below hX)
          exact wp_value (exec_str 22 9 5 _ rfl Try.underlying22 Try.underlying5 Try.underlying9 x.a.A x.a.n x.a.c x.a.l e49 (HA.out.below (bthen HW.out hbW))) (hK _ _ rfl (grown_refl W _))
        · intro a vs W hX hR he hf K hK
          rw [if_pos (wanted_none rfl)]
          have e47 : a.eval (.tmp 47) = str x.p := (he 3 47 (by kernel_rfl) rfl).trans (hR 3 (by kernel_rfl))
          have e50 : a.eval (.tmp 50) = str x.a.l := (he 6 50 (by kernel_rfl) rfl).trans (hR 6 (by kernel_rfl))
          refine wp_value (v := _) ?_ (hK _ _ rfl (grown_refl W _))
          simp only [execOp, e47, e50]
          go_simp
          simp [ba_append]
          try (have h8 : x.p.length = 4 := HP.out; omega)
        · intro a vs W hX hR he hf K hK
          rw [if_pos (wanted_none rfl)]
          have e44 : a.eval (.tmp 44) = .agg h.cells.toArray := (he 0 44 (by kernel_rfl) rfl).trans (hR 0 (by kernel_rfl))
          have e51 : a.eval (.tmp 51) = str (x.p ++ x.a.l) := (he 7 51 (by kernel_rfl) rfl).trans (hR 7 (by kernel_rfl))
          refine wp_enter (f := 17) (args := #[.agg h.cells.toArray, str (x.p ++ x.a.l)]) (by simp only [execOp, e44, e51]; go_simp; exact ⟨by simpa [Act.eval] using e44, by simpa [Act.eval] using e51⟩) ((R1.out W).mono ?_)
          rintro e w' ⟨rfl, hb⟩
          exact ⟨_, rfl, hK _ _ rfl (below_grow hb _)⟩
        · intro a vs W hX hR he hf K hK
          rw [if_pos (wanted_none rfl)]
          have e52 : a.eval (.tmp 52) = .tuple #[str P1, .int .i64 e1] := (he 8 52 (by kernel_rfl) rfl).trans (hR 8 (by kernel_rfl))
          refine wp_value (v := .tuple #[str P1, .int .i64 e1]) ?_ (hK _ _ rfl (grown_refl W _))
          simp only [execOp, e52]
          try go_simp
          try (first | rfl | omega | (simp only [IntKind.wrap_i64, IntKind.wrap_u8, IntKind.wrap_u64, IntKind.wrap_u16, IntKind.wrap_u32]; omega) | (rw [Int.tmod_eq_emod_of_nonneg (by omega)]) | (rw [Int.tmod_eq_emod_of_nonneg (by omega)]; omega))
        · intro a vs W hX hR he hf K hK
          rw [if_pos (wanted_none rfl)]
          have e43 : a.eval (.tmp 43) = .tuple #[str P1, .int .i64 e1] := (he 9 43 (by kernel_rfl) rfl).trans (hR 9 (by kernel_rfl))
          refine wp_value (v := str P1) ?_ (hK _ _ rfl (grown_refl W _))
          simp only [execOp, e43]
          try go_simp
          try (first | rfl | omega | (simp only [IntKind.wrap_i64, IntKind.wrap_u8, IntKind.wrap_u64, IntKind.wrap_u16, IntKind.wrap_u32]; omega) | (rw [Int.tmod_eq_emod_of_nonneg (by omega)]) | (rw [Int.tmod_eq_emod_of_nonneg (by omega)]; omega))
        · intro a vs W hX hR he hf K hK
          rw [if_pos (wanted_none rfl)]
          have e43 : a.eval (.tmp 43) = .tuple #[str P1, .int .i64 e1] := (he 9 43 (by kernel_rfl) rfl).trans (hR 9 (by kernel_rfl))
          refine wp_value (v := .int .i64 e1) ?_ (hK _ _ rfl (grown_refl W _))
          simp only [execOp, e43]
          try go_simp
          try (first | rfl | omega | (simp only [IntKind.wrap_i64, IntKind.wrap_u8, IntKind.wrap_u64, IntKind.wrap_u16, IntKind.wrap_u32]; omega) | (rw [Int.tmod_eq_emod_of_nonneg (by omega)]) | (rw [Int.tmod_eq_emod_of_nonneg (by omega)]; omega))
        · intro a vs W hX hR he hf K hK
          rw [if_pos (wanted_none rfl)]
          have e53 : a.eval (.tmp 53) = str P1 := (he 10 53 (by kernel_rfl) rfl).trans (hR 10 (by kernel_rfl))
          refine wp_value (v := str P1) ?_ (hK _ _ rfl (grown_refl W _))
          simp only [execOp, e53]
          try go_simp
          try (first | rfl | omega | (simp only [IntKind.wrap_i64, IntKind.wrap_u8, IntKind.wrap_u64, IntKind.wrap_u16, IntKind.wrap_u32]; omega) | (rw [Int.tmod_eq_emod_of_nonneg (by omega)]) | (rw [Int.tmod_eq_emod_of_nonneg (by omega)]; omega))
        · intro a vs W hX hR he hf K hK
          rw [if_pos (wanted_none rfl)]
          have e54 : a.eval (.tmp 54) = .int .i64 e1 := (he 11 54 (by kernel_rfl) rfl).trans (hR 11 (by kernel_rfl))
          refine wp_value (v := .int .i64 e1) ?_ (hK _ _ rfl (grown_refl W _))
          simp only [execOp, e54]
          try go_simp
          try (first | rfl | omega | (simp only [IntKind.wrap_i64, IntKind.wrap_u8, IntKind.wrap_u64, IntKind.wrap_u16, IntKind.wrap_u32]; omega) | (rw [Int.tmod_eq_emod_of_nonneg (by omega)]) | (rw [Int.tmod_eq_emod_of_nonneg (by omega)]; omega))
        · intro vs w6 hX6 hR
          have q0 := hR 0 (by decide)
          have q1 := hR 1 (by decide)
          have q2 := hR 2 (by decide)
          have q3 := hR 3 (by decide)
          have q4 := hR 4 (by decide)
          have q5 := hR 5 (by decide)
          have q6 := hR 6 (by decide)
          have q7 := hR 7 (by decide)
          have q8 := hR 8 (by decide)
          have q9 := hR 9 (by decide)
          have q10 := hR 10 (by decide)
          have q11 := hR 11 (by decide)
          have q12 := hR 12 (by decide)
          have q13 := hR 13 (by decide)
          change vs 0 = .agg h.cells.toArray at q0
          change vs 1 = .pointer (some ⟨w.heap.size + 1 + 1, 0, none⟩) at q1
          change vs 2 = .slice (some ⟨w.heap.size + 1 + 1, 0, none⟩) 4 4 at q2
          change vs 3 = str x.p at q3
          change vs 4 = .pointer (some ⟨w.heap.size + 1 + 1, 4, none⟩) at q4
          change vs 5 = .slice x.a.A x.a.n x.a.c at q5
          change vs 6 = str x.a.l at q6
          change vs 7 = str (x.p ++ x.a.l) at q7
          change vs 8 = .tuple #[str P1, .int .i64 e1] at q8
          change vs 9 = .tuple #[str P1, .int .i64 e1] at q9
          change vs 10 = str P1 at q10
          change vs 11 = .int .i64 e1 at q11
          change vs 12 = str P1 at q12
          change vs 13 = .int .i64 e1 at q13
          simp only [putAll, Act.put, List.setIfInBounds_toArray, List.set_cons_zero, List.set_cons_succ, q0, q1, q2, q3, q4, q5, q6, q7, q8, q9, q10, q11, q12, q13]
          clear q0 q1 q2 q3 q4 q5 q6 q7 q8 q9 q10 q11 q12 q13
          clear hR
          have hb := bthen (below_drew w4) (grow_below hX6)
          clear hX6
          replace HW := Lib.hid (bthen HW.out hb)
          replace HB := Lib.hid (HB.out.on hb)
          replace HG := Lib.hid (HG.out.on hb)
          replace HX := Lib.hid (HX.out.on hb)
          clear hb
          go_wp2_with fail
          refine wp_region_rel (fun A B => A.grownBy B none) (fun A => grown_refl A _) (fun A B C h k => grown_trans h k) (relAt (List.cons (fun v _ => v = .agg g.cells.toArray) (List.cons (fun v _ => v = .pointer (some ⟨w.heap.size + 1 + 1, 0, none⟩)) (List.cons (fun v _ => v = .slice (some ⟨w.heap.size + 1 + 1, 0, none⟩) 4 4) (List.cons (fun v _ => v = str x.p) (List.cons (fun v _ => v = .pointer (some ⟨w.heap.size + 1 + 1, 4, none⟩)) (List.cons (fun v _ => v = .slice x.a.A x.a.n x.a.c) (List.cons (fun v _ => v = str x.a.l) (List.cons (fun v _ => v = str (x.p ++ x.a.l)) (List.cons (fun v _ => v = .tuple #[str P2, .int .i64 e2]) (List.cons (fun v _ => v = .tuple #[str P2, .int .i64 e2]) (List.cons (fun v _ => v = str P2) (List.cons (fun v _ => v = .int .i64 e2) (List.cons (fun v _ => v = str P2) (List.cons (fun v _ => v = .int .i64 e2) ([])))))))))))))))) (MonoL.at_ (.cons (mono_val _) (.cons (mono_val _) (.cons (mono_val _) (.cons (mono_val _) (.cons (mono_val _) (.cons (mono_val _) (.cons (mono_val _) (.cons (mono_val _) (.cons (mono_val _) (.cons (mono_val _) (.cons (mono_val _) (.cons (mono_val _) (.cons (mono_val _) (.cons (mono_val _) .nil))))))))))))))) (by kernel_rfl) (by kernel_rfl) ⟨?_, ?_, ?_, ?_, ?_, ?_, ?_, ?_, ?_, ?_, ?_, ?_, ?_, ?_, trivial⟩ ?_
          · intro a vs W hX hR he hf K hK
            rw [if_pos (wanted_none rfl)]
            have e4 : a.eval (.tmp 4) = .pointer (some ⟨w.heap.size + 1, 0, none⟩) := hf 4 (by kernel_rfl)
            have hbW := bthen (below_drew _) (grow_below hX)
            exact wp_value (exec_load 48 _ rfl (w.heap.size + 1) e4 48 g.cells _ (HG.out.on hbW) Try.underlying48 rfl (size6 _ GF.out.ok)) (hK _ _ rfl (grown_refl W _))
          · intro a vs W hX hR he hf K hK
            rw [if_pos (wanted_none rfl)]
            have e5 : a.eval (.tmp 5) = .pointer (some ⟨w.heap.size + 1 + 1, 0, none⟩) := hf 5 (by kernel_rfl)
            refine wp_value (v := .pointer (some ⟨w.heap.size + 1 + 1, 0, none⟩)) ?_ (hK _ _ rfl (grown_refl W _))
            simp only [execOp, e5]
            try go_simp
            try (first | rfl | omega | (simp only [IntKind.wrap_i64, IntKind.wrap_u8, IntKind.wrap_u64, IntKind.wrap_u16, IntKind.wrap_u32]; omega) | (rw [Int.tmod_eq_emod_of_nonneg (by omega)]) | (rw [Int.tmod_eq_emod_of_nonneg (by omega)]; omega))
          · intro a vs W hX hR he hf K hK
            rw [if_pos (wanted_none rfl)]
            have e57 : a.eval (.tmp 57) = .pointer (some ⟨w.heap.size + 1 + 1, 0, none⟩) := (he 1 57 (by kernel_rfl) rfl).trans (hR 1 (by kernel_rfl))
            have f57 := e57
            simp only [Act.eval, Array.getD_eq_getD_getElem?] at f57
            refine wp_value (v := _) ?_ (hK _ _ rfl (grown_refl W _))
            simp only [execOp, e57]
            go_simp
          · intro a vs W hX hR he hf K hK
            rw [if_pos (wanted_none rfl)]
            have e58 : a.eval (.tmp 58) = .slice (some ⟨w.heap.size + 1 + 1, 0, none⟩) 4 4 := (he 2 58 (by kernel_rfl) rfl).trans (hR 2 (by kernel_rfl))
            have hbW := bthen (below_drew _) (grow_below hX)
            have hrow := (HX.out.on hbW).row 1 0 4 (by rw [x.cells_length HP.out]; omega)
            rw [show 4 * 1 = 4 from rfl, List.drop_zero, x.take HP.out] at hrow
            exact wp_value (exec_str 22 9 5 _ rfl Try.underlying22 Try.underlying5 Try.underlying9 _ 4 4 x.p e58 ⟨hrow, Nat.le_refl _, by simp [maxLen]⟩) (hK _ _ rfl (grown_refl W _))
          · intro a vs W hX hR he hf K hK
            rw [if_pos (wanted_none rfl)]
            have e5 : a.eval (.tmp 5) = .pointer (some ⟨w.heap.size + 1 + 1, 0, none⟩) := hf 5 (by kernel_rfl)
            refine wp_value (v := .pointer (some ⟨w.heap.size + 1 + 1, 4, none⟩)) ?_ (hK _ _ rfl (grown_refl W _))
            simp only [execOp, e5]
            try go_simp
            try (first | rfl | omega | (simp only [IntKind.wrap_i64, IntKind.wrap_u8, IntKind.wrap_u64, IntKind.wrap_u16, IntKind.wrap_u32]; omega) | (rw [Int.tmod_eq_emod_of_nonneg (by omega)]) | (rw [Int.tmod_eq_emod_of_nonneg (by omega)]; omega))
          · intro a vs W hX hR he hf K hK
            rw [if_pos (wanted_none rfl)]
            have e60 : a.eval (.tmp 60) = .pointer (some ⟨w.heap.size + 1 + 1, 4, none⟩) := (he 4 60 (by kernel_rfl) rfl).trans (hR 4 (by kernel_rfl))
            have hbW := bthen (below_drew _) (grow_below hX)
            have hc : W.cell? ⟨w.heap.size + 1 + 1, 4, none⟩ = some (.slice x.a.A x.a.n x.a.c) := ((HX.out.on hbW).cell 4).trans (x.get HP.out 0)
            refine wp_value (v := _) ?_ (hK _ _ rfl (grown_refl W _))
            simp only [execOp, e60]
            try go_simp
          · intro a vs W hX hR he hf K hK
            rw [if_pos (wanted_none rfl)]
            have e61 : a.eval (.tmp 61) = .slice x.a.A x.a.n x.a.c := (he 5 61 (by kernel_rfl) rfl).trans (hR 5 (by kernel_rfl))
            have hbW := bthen (below_drew _) (grow_below hX)
            exact wp_value (exec_str 22 9 5 _ rfl Try.underlying22 Try.underlying5 Try.underlying9 x.a.A x.a.n x.a.c x.a.l e61 (HA.out.below (bthen HW.out hbW))) (hK _ _ rfl (grown_refl W _))
          · intro a vs W hX hR he hf K hK
            rw [if_pos (wanted_none rfl)]
            have e59 : a.eval (.tmp 59) = str x.p := (he 3 59 (by kernel_rfl) rfl).trans (hR 3 (by kernel_rfl))
            have e62 : a.eval (.tmp 62) = str x.a.l := (he 6 62 (by kernel_rfl) rfl).trans (hR 6 (by kernel_rfl))
            refine wp_value (v := _) ?_ (hK _ _ rfl (grown_refl W _))
            simp only [execOp, e59, e62]
            go_simp
            simp [ba_append]
            try (have h8 : x.p.length = 4 := HP.out; omega)
          · intro a vs W hX hR he hf K hK
            rw [if_pos (wanted_none rfl)]
            have e56 : a.eval (.tmp 56) = .agg g.cells.toArray := (he 0 56 (by kernel_rfl) rfl).trans (hR 0 (by kernel_rfl))
            have e63 : a.eval (.tmp 63) = str (x.p ++ x.a.l) := (he 7 63 (by kernel_rfl) rfl).trans (hR 7 (by kernel_rfl))
            refine wp_enter (f := 18) (args := #[.agg g.cells.toArray, str (x.p ++ x.a.l)]) (by simp only [execOp, e56, e63]; go_simp; exact ⟨by simpa [Act.eval] using e56, by simpa [Act.eval] using e63⟩) ((R2.out W).mono ?_)
            rintro e w' ⟨rfl, hb⟩
            exact ⟨_, rfl, hK _ _ rfl (below_grow hb _)⟩
          · intro a vs W hX hR he hf K hK
            rw [if_pos (wanted_none rfl)]
            have e64 : a.eval (.tmp 64) = .tuple #[str P2, .int .i64 e2] := (he 8 64 (by kernel_rfl) rfl).trans (hR 8 (by kernel_rfl))
            refine wp_value (v := .tuple #[str P2, .int .i64 e2]) ?_ (hK _ _ rfl (grown_refl W _))
            simp only [execOp, e64]
            try go_simp
            try (first | rfl | omega | (simp only [IntKind.wrap_i64, IntKind.wrap_u8, IntKind.wrap_u64, IntKind.wrap_u16, IntKind.wrap_u32]; omega) | (rw [Int.tmod_eq_emod_of_nonneg (by omega)]) | (rw [Int.tmod_eq_emod_of_nonneg (by omega)]; omega))
          · intro a vs W hX hR he hf K hK
            rw [if_pos (wanted_none rfl)]
            have e55 : a.eval (.tmp 55) = .tuple #[str P2, .int .i64 e2] := (he 9 55 (by kernel_rfl) rfl).trans (hR 9 (by kernel_rfl))
            refine wp_value (v := str P2) ?_ (hK _ _ rfl (grown_refl W _))
            simp only [execOp, e55]
            try go_simp
            try (first | rfl | omega | (simp only [IntKind.wrap_i64, IntKind.wrap_u8, IntKind.wrap_u64, IntKind.wrap_u16, IntKind.wrap_u32]; omega) | (rw [Int.tmod_eq_emod_of_nonneg (by omega)]) | (rw [Int.tmod_eq_emod_of_nonneg (by omega)]; omega))
          · intro a vs W hX hR he hf K hK
            rw [if_pos (wanted_none rfl)]
            have e55 : a.eval (.tmp 55) = .tuple #[str P2, .int .i64 e2] := (he 9 55 (by kernel_rfl) rfl).trans (hR 9 (by kernel_rfl))
            refine wp_value (v := .int .i64 e2) ?_ (hK _ _ rfl (grown_refl W _))
            simp only [execOp, e55]
            try go_simp
            try (first | rfl | omega | (simp only [IntKind.wrap_i64, IntKind.wrap_u8, IntKind.wrap_u64, IntKind.wrap_u16, IntKind.wrap_u32]; omega) | (rw [Int.tmod_eq_emod_of_nonneg (by omega)]) | (rw [Int.tmod_eq_emod_of_nonneg (by omega)]; omega))
          · intro a vs W hX hR he hf K hK
            rw [if_pos (wanted_none rfl)]
            have e65 : a.eval (.tmp 65) = str P2 := (he 10 65 (by kernel_rfl) rfl).trans (hR 10 (by kernel_rfl))
            refine wp_value (v := str P2) ?_ (hK _ _ rfl (grown_refl W _))
            simp only [execOp, e65]
            try go_simp
            try (first | rfl | omega | (simp only [IntKind.wrap_i64, IntKind.wrap_u8, IntKind.wrap_u64, IntKind.wrap_u16, IntKind.wrap_u32]; omega) | (rw [Int.tmod_eq_emod_of_nonneg (by omega)]) | (rw [Int.tmod_eq_emod_of_nonneg (by omega)]; omega))
          · intro a vs W hX hR he hf K hK
            rw [if_pos (wanted_none rfl)]
            have e66 : a.eval (.tmp 66) = .int .i64 e2 := (he 11 66 (by kernel_rfl) rfl).trans (hR 11 (by kernel_rfl))
            refine wp_value (v := .int .i64 e2) ?_ (hK _ _ rfl (grown_refl W _))
            simp only [execOp, e66]
            try go_simp
            try (first | rfl | omega | (simp only [IntKind.wrap_i64, IntKind.wrap_u8, IntKind.wrap_u64, IntKind.wrap_u16, IntKind.wrap_u32]; omega) | (rw [Int.tmod_eq_emod_of_nonneg (by omega)]) | (rw [Int.tmod_eq_emod_of_nonneg (by omega)]; omega))
          · intro vs w8 hX8 hR
            have q0 := hR 0 (by decide)
            have q1 := hR 1 (by decide)
            have q2 := hR 2 (by decide)
            have q3 := hR 3 (by decide)
            have q4 := hR 4 (by decide)
            have q5 := hR 5 (by decide)
            have q6 := hR 6 (by decide)
            have q7 := hR 7 (by decide)
            have q8 := hR 8 (by decide)
            have q9 := hR 9 (by decide)
            have q10 := hR 10 (by decide)
            have q11 := hR 11 (by decide)
            have q12 := hR 12 (by decide)
            have q13 := hR 13 (by decide)
            change vs 0 = .agg g.cells.toArray at q0
            change vs 1 = .pointer (some ⟨w.heap.size + 1 + 1, 0, none⟩) at q1
            change vs 2 = .slice (some ⟨w.heap.size + 1 + 1, 0, none⟩) 4 4 at q2
            change vs 3 = str x.p at q3
            change vs 4 = .pointer (some ⟨w.heap.size + 1 + 1, 4, none⟩) at q4
            change vs 5 = .slice x.a.A x.a.n x.a.c at q5
            change vs 6 = str x.a.l at q6
            change vs 7 = str (x.p ++ x.a.l) at q7
            change vs 8 = .tuple #[str P2, .int .i64 e2] at q8
            change vs 9 = .tuple #[str P2, .int .i64 e2] at q9
            change vs 10 = str P2 at q10
            change vs 11 = .int .i64 e2 at q11
            change vs 12 = str P2 at q12
            change vs 13 = .int .i64 e2 at q13
            simp only [putAll, Act.put, List.setIfInBounds_toArray, List.set_cons_zero, List.set_cons_succ, q0, q1, q2, q3, q4, q5, q6, q7, q8, q9, q10, q11, q12, q13]
            clear q0 q1 q2 q3 q4 q5 q6 q7 q8 q9 q10 q11 q12 q13
            clear hR
            have hb := bthen (below_drew w6) (grow_below hX8)
            clear hX8
            replace HW := Lib.hid (bthen HW.out hb)
            replace HB := Lib.hid (HB.out.on hb)
            replace HG := Lib.hid (HG.out.on hb)
            replace HX := Lib.hid (HX.out.on hb)
            clear hb
            have d6 := (HX.out.cell 6).trans (x.get HP.out 2)
            have d7 := (HX.out.cell 7).trans (x.get HP.out 3)
            change w8.cell? _ = some (.int .u8 x.ttl) at d6
            change w8.cell? _ = some (.int .u8 x.cls) at d7
            have k6 : w8.cell? ⟨w.heap.size, 6, none⟩ = some (.int .u8 h.ttl) := HB.out.cell 6
            have k0 : w8.cell? ⟨w.heap.size, 0, none⟩ = some (.int .u8 h.tos) := HB.out.cell 0
            have k2 : w8.cell? ⟨w.heap.size, 2, none⟩ = some (.int .u16 h.id) := HB.out.cell 2
            have m4 : w8.cell? ⟨w.heap.size + 1, 4, none⟩ = some (.int .u8 g.ttl) := HG.out.cell 4
            have m0 : w8.cell? ⟨w.heap.size + 1, 0, none⟩ = some (.int .u8 g.cls) := HG.out.cell 0
            have z6 := HB.out.frozen 6
            have z0 := HB.out.frozen 0
            have z2 := HB.out.frozen 2
            have y4 := HG.out.frozen 4
            have y0 := HG.out.frozen 0
            go_wp2_with fail
            obtain ⟨w9, hw9⟩ : ∃ z, z = (((((w8.setCell ⟨w.heap.size, 6, none⟩ (.int .u8 x.ttl)).setCell ⟨w.heap.size, 0, none⟩ (.int .u8 x.cls)).setCell ⟨w.heap.size, 2, none⟩ (.int .u16 (IntKind.u16.wrap (h.id + 1)))).setCell ⟨w.heap.size + 1, 4, none⟩ (.int .u8 x.ttl)).setCell ⟨w.heap.size + 1, 0, none⟩ (.int .u8 x.cls)) := ⟨_, rfl⟩
            rw [← hw9]
            have hb9 : Blk w9 w.heap.size 46 (h.next x.ttl x.cls).cells := by
              rw [hw9, ← next4_cells, IntKind.wrap_u16]
              exact (((((HB.out.set 6 _).set 0 _).set 2 _).far (p := ⟨w.heap.size + 1, 4, none⟩) (by simp) _).far (p := ⟨w.heap.size + 1, 0, none⟩) (by simp) _)
            have hg9 : Blk w9 (w.heap.size + 1) 48 (g.next' x.ttl x.cls).cells := by
              rw [hw9, ← next6_cells]
              exact (((((HG.out.far (p := ⟨w.heap.size, 6, none⟩) (by simp) _).far (p := ⟨w.heap.size, 0, none⟩) (by simp) _).far (p := ⟨w.heap.size, 2, none⟩) (by simp) _).set 4 _).set 0 _)
            have hx9 : Blk w9 (w.heap.size + 1 + 1) 50 x.cells := by
              rw [hw9]
              exact (((((HX.out.far (p := ⟨w.heap.size, 6, none⟩) (by simp <;> omega) _).far (p := ⟨w.heap.size, 0, none⟩) (by simp <;> omega) _).far (p := ⟨w.heap.size, 2, none⟩) (by simp <;> omega) _).far (p := ⟨w.heap.size + 1, 4, none⟩) (by simp <;> omega) _).far (p := ⟨w.heap.size + 1, 0, none⟩) (by simp <;> omega) _)
            have hW9 : Below w.heap.size w w9 := by
              rw [hw9]
              exact (((((HW.out.setCell (p := ⟨w.heap.size, 6, none⟩) (by simp) _).setCell (p := ⟨w.heap.size, 0, none⟩) (by simp) _).setCell (p := ⟨w.heap.size, 2, none⟩) (by simp) _).setCell (p := ⟨w.heap.size + 1, 4, none⟩) (by simp) _).setCell (p := ⟨w.heap.size + 1, 0, none⟩) (by simp) _)
            replace HB := Lib.hid hb9
            replace HG := Lib.hid hg9
            replace HX := Lib.hid hx9
            replace HW := Lib.hid hW9
            clear hb9 hg9 hx9 hW9 hw9 d6 d7 k6 k0 k2 m4 m0 z6 z0 z2 y4 y0
            refine wp_region_rel (fun A B => A.grownBy B none) (fun A => grown_refl A _) (fun A B C h k => grown_trans h k) (relAt (List.cons (fun v _ => v = .agg (h.next x.ttl x.cls).cells.toArray) (List.cons (fun v _ => v = .pointer (some ⟨w.heap.size + 1 + 1, 0, none⟩)) (List.cons (fun v _ => v = .slice (some ⟨w.heap.size + 1 + 1, 0, none⟩) 4 4) (List.cons (fun v _ => v = str x.p) (List.cons (fun v _ => v = .pointer (some ⟨w.heap.size + 1 + 1, 5, none⟩)) (List.cons (fun v _ => v = .slice x.b.A x.b.n x.b.c) (List.cons (fun v _ => v = str x.b.l) (List.cons (fun v _ => v = str (x.p ++ x.b.l)) (List.cons (fun v _ => v = .tuple #[str P3, .int .i64 e3]) (List.cons (fun v _ => v = .tuple #[str P3, .int .i64 e3]) (List.cons (fun v _ => v = str P3) (List.cons (fun v _ => v = .int .i64 e3) (List.cons (fun v _ => v = str P3) (List.cons (fun v _ => v = .int .i64 e3) ([])))))))))))))))) (MonoL.at_ (.cons (mono_val _) (.cons (mono_val _) (.cons (mono_val _) (.cons (mono_val _) (.cons (mono_val _) (.cons (mono_val _) (.cons (mono_val _) (.cons (mono_val _) (.cons (mono_val _) (.cons (mono_val _) (.cons (mono_val _) (.cons (mono_val _) (.cons (mono_val _) (.cons (mono_val _) .nil))))))))))))))) (by kernel_rfl) (by kernel_rfl) ⟨?_, ?_, ?_, ?_, ?_, ?_, ?_, ?_, ?_, ?_, ?_, ?_, ?_, ?_, trivial⟩ ?_
            · intro a vs W hX hR he hf K hK
              rw [if_pos (wanted_none rfl)]
              have e3 : a.eval (.tmp 3) = .pointer (some ⟨w.heap.size, 0, none⟩) := hf 3 (by kernel_rfl)
              have hbW := bthen (below_drew _) (grow_below hX)
              exact wp_value (exec_load 46 _ rfl (w.heap.size) e3 46 (h.next x.ttl x.cls).cells _ (HB.out.on hbW) Try.underlying46 rfl (size4 _ HNF.out.ok)) (hK _ _ rfl (grown_refl W _))
            · intro a vs W hX hR he hf K hK
              rw [if_pos (wanted_none rfl)]
              have e5 : a.eval (.tmp 5) = .pointer (some ⟨w.heap.size + 1 + 1, 0, none⟩) := hf 5 (by kernel_rfl)
              refine wp_value (v := .pointer (some ⟨w.heap.size + 1 + 1, 0, none⟩)) ?_ (hK _ _ rfl (grown_refl W _))
              simp only [execOp, e5]
              try go_simp
              try (first | rfl | omega | (simp only [IntKind.wrap_i64, IntKind.wrap_u8, IntKind.wrap_u64, IntKind.wrap_u16, IntKind.wrap_u32]; omega) | (rw [Int.tmod_eq_emod_of_nonneg (by omega)]) | (rw [Int.tmod_eq_emod_of_nonneg (by omega)]; omega))
            · intro a vs W hX hR he hf K hK
              rw [if_pos (wanted_none rfl)]
              have e85 : a.eval (.tmp 85) = .pointer (some ⟨w.heap.size + 1 + 1, 0, none⟩) := (he 1 85 (by kernel_rfl) rfl).trans (hR 1 (by kernel_rfl))
              have f85 := e85
              simp only [Act.eval, Array.getD_eq_getD_getElem?] at f85
              refine wp_value (v := _) ?_ (hK _ _ rfl (grown_refl W _))
              simp only [execOp, e85]
              go_simp
            · intro a vs W hX hR he hf K hK
              rw [if_pos (wanted_none rfl)]
              have e86 : a.eval (.tmp 86) = .slice (some ⟨w.heap.size + 1 + 1, 0, none⟩) 4 4 := (he 2 86 (by kernel_rfl) rfl).trans (hR 2 (by kernel_rfl))
              have hbW := bthen (below_drew _) (grow_below hX)
              have hrow := (HX.out.on hbW).row 1 0 4 (by rw [x.cells_length HP.out]; omega)
              rw [show 4 * 1 = 4 from rfl, List.drop_zero, x.take HP.out] at hrow
              exact wp_value (exec_str 22 9 5 _ rfl Try.underlying22 Try.underlying5 Try.underlying9 _ 4 4 x.p e86 ⟨hrow, Nat.le_refl _, by simp [maxLen]⟩) (hK _ _ rfl (grown_refl W _))
            · intro a vs W hX hR he hf K hK
              rw [if_pos (wanted_none rfl)]
              have e5 : a.eval (.tmp 5) = .pointer (some ⟨w.heap.size + 1 + 1, 0, none⟩) := hf 5 (by kernel_rfl)
              refine wp_value (v := .pointer (some ⟨w.heap.size + 1 + 1, 5, none⟩)) ?_ (hK _ _ rfl (grown_refl W _))
              simp only [execOp, e5]
              try go_simp
              try (first | rfl | omega | (simp only [IntKind.wrap_i64, IntKind.wrap_u8, IntKind.wrap_u64, IntKind.wrap_u16, IntKind.wrap_u32]; omega) | (rw [Int.tmod_eq_emod_of_nonneg (by omega)]) | (rw [Int.tmod_eq_emod_of_nonneg (by omega)]; omega))
            · intro a vs W hX hR he hf K hK
              rw [if_pos (wanted_none rfl)]
              have e88 : a.eval (.tmp 88) = .pointer (some ⟨w.heap.size + 1 + 1, 5, none⟩) := (he 4 88 (by kernel_rfl) rfl).trans (hR 4 (by kernel_rfl))
              have hbW := bthen (below_drew _) (grow_below hX)
              have hc : W.cell? ⟨w.heap.size + 1 + 1, 5, none⟩ = some (.slice x.b.A x.b.n x.b.c) := ((HX.out.on hbW).cell 5).trans (x.get HP.out 1)
              refine wp_value (v := _) ?_ (hK _ _ rfl (grown_refl W _))
              simp only [execOp, e88]
              try go_simp
            · intro a vs W hX hR he hf K hK
              rw [if_pos (wanted_none rfl)]
              have e89 : a.eval (.tmp 89) = .slice x.b.A x.b.n x.b.c := (he 5 89 (by kernel_rfl) rfl).trans (hR 5 (by kernel_rfl))
              have hbW := bthen (below_drew _) (grow_below hX)
              exact wp_value (exec_str 22 9 5 _ rfl Try.underlying22 Try.underlying5 Try.underlying9 x.b.A x.b.n x.b.c x.b.l e89 (HBB.out.below (bthen HW.out hbW))) (hK _ _ rfl (grown_refl W _))
            · intro a vs W hX hR he hf K hK
              rw [if_pos (wanted_none rfl)]
              have e87 : a.eval (.tmp 87) = str x.p := (he 3 87 (by kernel_rfl) rfl).trans (hR 3 (by kernel_rfl))
              have e90 : a.eval (.tmp 90) = str x.b.l := (he 6 90 (by kernel_rfl) rfl).trans (hR 6 (by kernel_rfl))
              refine wp_value (v := _) ?_ (hK _ _ rfl (grown_refl W _))
              simp only [execOp, e87, e90]
              go_simp
              simp [ba_append]
              try (have h8 : x.p.length = 4 := HP.out; omega)
            · intro a vs W hX hR he hf K hK
              rw [if_pos (wanted_none rfl)]
              have e84 : a.eval (.tmp 84) = .agg (h.next x.ttl x.cls).cells.toArray := (he 0 84 (by kernel_rfl) rfl).trans (hR 0 (by kernel_rfl))
              have e91 : a.eval (.tmp 91) = str (x.p ++ x.b.l) := (he 7 91 (by kernel_rfl) rfl).trans (hR 7 (by kernel_rfl))
              refine wp_enter (f := 17) (args := #[.agg (h.next x.ttl x.cls).cells.toArray, str (x.p ++ x.b.l)]) (by simp only [execOp, e84, e91]; go_simp; exact ⟨by simpa [Act.eval] using e84, by simpa [Act.eval] using e91⟩) ((R3.out W).mono ?_)
              rintro e w' ⟨rfl, hb⟩
              exact ⟨_, rfl, hK _ _ rfl (below_grow hb _)⟩
            · intro a vs W hX hR he hf K hK
              rw [if_pos (wanted_none rfl)]
              have e92 : a.eval (.tmp 92) = .tuple #[str P3, .int .i64 e3] := (he 8 92 (by kernel_rfl) rfl).trans (hR 8 (by kernel_rfl))
              refine wp_value (v := .tuple #[str P3, .int .i64 e3]) ?_ (hK _ _ rfl (grown_refl W _))
              simp only [execOp, e92]
              try go_simp
              try (first | rfl | omega | (simp only [IntKind.wrap_i64, IntKind.wrap_u8, IntKind.wrap_u64, IntKind.wrap_u16, IntKind.wrap_u32]; omega) | (rw [Int.tmod_eq_emod_of_nonneg (by omega)]) | (rw [Int.tmod_eq_emod_of_nonneg (by omega)]; omega))
            · intro a vs W hX hR he hf K hK
              rw [if_pos (wanted_none rfl)]
              have e83 : a.eval (.tmp 83) = .tuple #[str P3, .int .i64 e3] := (he 9 83 (by kernel_rfl) rfl).trans (hR 9 (by kernel_rfl))
              refine wp_value (v := str P3) ?_ (hK _ _ rfl (grown_refl W _))
              simp only [execOp, e83]
              try go_simp
              try (first | rfl | omega | (simp only [IntKind.wrap_i64, IntKind.wrap_u8, IntKind.wrap_u64, IntKind.wrap_u16, IntKind.wrap_u32]; omega) | (rw [Int.tmod_eq_emod_of_nonneg (by omega)]) | (rw [Int.tmod_eq_emod_of_nonneg (by omega)]; omega))
            · intro a vs W hX hR he hf K hK
              rw [if_pos (wanted_none rfl)]
              have e83 : a.eval (.tmp 83) = .tuple #[str P3, .int .i64 e3] := (he 9 83 (by kernel_rfl) rfl).trans (hR 9 (by kernel_rfl))
              refine wp_value (v := .int .i64 e3) ?_ (hK _ _ rfl (grown_refl W _))
              simp only [execOp, e83]
              try go_simp
              try (first | rfl | omega | (simp only [IntKind.wrap_i64, IntKind.wrap_u8, IntKind.wrap_u64, IntKind.wrap_u16, IntKind.wrap_u32]; omega) | (rw [Int.tmod_eq_emod_of_nonneg (by omega)]) | (rw [Int.tmod_eq_emod_of_nonneg (by omega)]; omega))
            · intro a vs W hX hR he hf K hK
              rw [if_pos (wanted_none rfl)]
              have e93 : a.eval (.tmp 93) = str P3 := (he 10 93 (by kernel_rfl) rfl).trans (hR 10 (by kernel_rfl))
              refine wp_value (v := str P3) ?_ (hK _ _ rfl (grown_refl W _))
              simp only [execOp, e93]
              try go_simp
              try (first | rfl | omega | (simp only [IntKind.wrap_i64, IntKind.wrap_u8, IntKind.wrap_u64, IntKind.wrap_u16, IntKind.wrap_u32]; omega) | (rw [Int.tmod_eq_emod_of_nonneg (by omega)]) | (rw [Int.tmod_eq_emod_of_nonneg (by omega)]; omega))
            · intro a vs W hX hR he hf K hK
              rw [if_pos (wanted_none rfl)]
              have e94 : a.eval (.tmp 94) = .int .i64 e3 := (he 11 94 (by kernel_rfl) rfl).trans (hR 11 (by kernel_rfl))
              refine wp_value (v := .int .i64 e3) ?_ (hK _ _ rfl (grown_refl W _))
              simp only [execOp, e94]
              try go_simp
              try (first | rfl | omega | (simp only [IntKind.wrap_i64, IntKind.wrap_u8, IntKind.wrap_u64, IntKind.wrap_u16, IntKind.wrap_u32]; omega) | (rw [Int.tmod_eq_emod_of_nonneg (by omega)]) | (rw [Int.tmod_eq_emod_of_nonneg (by omega)]; omega))
            · intro vs w10 hX10 hR
              have q0 := hR 0 (by decide)
              have q1 := hR 1 (by decide)
              have q2 := hR 2 (by decide)
              have q3 := hR 3 (by decide)
              have q4 := hR 4 (by decide)
              have q5 := hR 5 (by decide)
              have q6 := hR 6 (by decide)
              have q7 := hR 7 (by decide)
              have q8 := hR 8 (by decide)
              have q9 := hR 9 (by decide)
              have q10 := hR 10 (by decide)
              have q11 := hR 11 (by decide)
              have q12 := hR 12 (by decide)
              have q13 := hR 13 (by decide)
              change vs 0 = .agg (h.next x.ttl x.cls).cells.toArray at q0
              change vs 1 = .pointer (some ⟨w.heap.size + 1 + 1, 0, none⟩) at q1
              change vs 2 = .slice (some ⟨w.heap.size + 1 + 1, 0, none⟩) 4 4 at q2
              change vs 3 = str x.p at q3
              change vs 4 = .pointer (some ⟨w.heap.size + 1 + 1, 5, none⟩) at q4
              change vs 5 = .slice x.b.A x.b.n x.b.c at q5
              change vs 6 = str x.b.l at q6
              change vs 7 = str (x.p ++ x.b.l) at q7
              change vs 8 = .tuple #[str P3, .int .i64 e3] at q8
              change vs 9 = .tuple #[str P3, .int .i64 e3] at q9
              change vs 10 = str P3 at q10
              change vs 11 = .int .i64 e3 at q11
              change vs 12 = str P3 at q12
              change vs 13 = .int .i64 e3 at q13
              simp only [putAll, Act.put, List.setIfInBounds_toArray, List.set_cons_zero, List.set_cons_succ, q0, q1, q2, q3, q4, q5, q6, q7, q8, q9, q10, q11, q12, q13]
              clear q0 q1 q2 q3 q4 q5 q6 q7 q8 q9 q10 q11 q12 q13
              clear hR
              have hb := bthen (below_drew w9) (grow_below hX10)
              clear hX10
              replace HW := Lib.hid (bthen HW.out hb)
              replace HB := Lib.hid (HB.out.on hb)
              replace HG := Lib.hid (HG.out.on hb)
              replace HX := Lib.hid (HX.out.on hb)
              clear hb
              go_wp2_with fail
              refine wp_region_rel (fun A B => A.grownBy B none) (fun A => grown_refl A _) (fun A B C h k => grown_trans h k) (relAt (List.cons (fun v _ => v = .agg (g.next' x.ttl x.cls).cells.toArray) (List.cons (fun v _ => v = .pointer (some ⟨w.heap.size + 1 + 1, 0, none⟩)) (List.cons (fun v _ => v = .slice (some ⟨w.heap.size + 1 + 1, 0, none⟩) 4 4) (List.cons (fun v _ => v = str x.p) (List.cons (fun v _ => v = .pointer (some ⟨w.heap.size + 1 + 1, 5, none⟩)) (List.cons (fun v _ => v = .slice x.b.A x.b.n x.b.c) (List.cons (fun v _ => v = str x.b.l) (List.cons (fun v _ => v = str (x.p ++ x.b.l)) (List.cons (fun v _ => v = .tuple #[str P4, .int .i64 e4]) (List.cons (fun v _ => v = .tuple #[str P4, .int .i64 e4]) (List.cons (fun v _ => v = str P4) (List.cons (fun v _ => v = .int .i64 e4) (List.cons (fun v _ => v = str P4) (List.cons (fun v _ => v = .int .i64 e4) ([])))))))))))))))) (MonoL.at_ (.cons (mono_val _) (.cons (mono_val _) (.cons (mono_val _) (.cons (mono_val _) (.cons (mono_val _) (.cons (mono_val _) (.cons (mono_val _) (.cons (mono_val _) (.cons (mono_val _) (.cons (mono_val _) (.cons (mono_val _) (.cons (mono_val _) (.cons (mono_val _) (.cons (mono_val _) .nil))))))))))))))) (by kernel_rfl) (by kernel_rfl) ⟨?_, ?_, ?_, ?_, ?_, ?_, ?_, ?_, ?_, ?_, ?_, ?_, ?_, ?_, trivial⟩ ?_
              · intro a vs W hX hR he hf K hK
                rw [if_pos (wanted_none rfl)]
                have e4 : a.eval (.tmp 4) = .pointer (some ⟨w.heap.size + 1, 0, none⟩) := hf 4 (by kernel_rfl)
                have hbW := bthen (below_drew _) (grow_below hX)
                exact wp_value (exec_load 48 _ rfl (w.heap.size + 1) e4 48 (g.next' x.ttl x.cls).cells _ (HG.out.on hbW) Try.underlying48 rfl (size6 _ GNF.out.ok)) (hK _ _ rfl (grown_refl W _))
              · intro a vs W hX hR he hf K hK
                rw [if_pos (wanted_none rfl)]
                have e5 : a.eval (.tmp 5) = .pointer (some ⟨w.heap.size + 1 + 1, 0, none⟩) := hf 5 (by kernel_rfl)
                refine wp_value (v := .pointer (some ⟨w.heap.size + 1 + 1, 0, none⟩)) ?_ (hK _ _ rfl (grown_refl W _))
                simp only [execOp, e5]
                try go_simp
                try (first | rfl | omega | (simp only [IntKind.wrap_i64, IntKind.wrap_u8, IntKind.wrap_u64, IntKind.wrap_u16, IntKind.wrap_u32]; omega) | (rw [Int.tmod_eq_emod_of_nonneg (by omega)]) | (rw [Int.tmod_eq_emod_of_nonneg (by omega)]; omega))
              · intro a vs W hX hR he hf K hK
                rw [if_pos (wanted_none rfl)]
                have e97 : a.eval (.tmp 97) = .pointer (some ⟨w.heap.size + 1 + 1, 0, none⟩) := (he 1 97 (by kernel_rfl) rfl).trans (hR 1 (by kernel_rfl))
                have f97 := e97
                simp only [Act.eval, Array.getD_eq_getD_getElem?] at f97
                refine wp_value (v := _) ?_ (hK _ _ rfl (grown_refl W _))
                simp only [execOp, e97]
                go_simp
              · intro a vs W hX hR he hf K hK
                rw [if_pos (wanted_none rfl)]
                have e98 : a.eval (.tmp 98) = .slice (some ⟨w.heap.size + 1 + 1, 0, none⟩) 4 4 := (he 2 98 (by kernel_rfl) rfl).trans (hR 2 (by kernel_rfl))
                have hbW := bthen (below_drew _) (grow_below hX)
                have hrow := (HX.out.on hbW).row 1 0 4 (by rw [x.cells_length HP.out]; omega)
                rw [show 4 * 1 = 4 from rfl, List.drop_zero, x.take HP.out] at hrow
                exact wp_value (exec_str 22 9 5 _ rfl Try.underlying22 Try.underlying5 Try.underlying9 _ 4 4 x.p e98 ⟨hrow, Nat.le_refl _, by simp [maxLen]⟩) (hK _ _ rfl (grown_refl W _))
              · intro a vs W hX hR he hf K hK
                rw [if_pos (wanted_none rfl)]
                have e5 : a.eval (.tmp 5) = .pointer (some ⟨w.heap.size + 1 + 1, 0, none⟩) := hf 5 (by kernel_rfl)
                refine wp_value (v := .pointer (some ⟨w.heap.size + 1 + 1, 5, none⟩)) ?_ (hK _ _ rfl (grown_refl W _))
                simp only [execOp, e5]
                try go_simp
                try (first | rfl | omega | (simp only [IntKind.wrap_i64, IntKind.wrap_u8, IntKind.wrap_u64, IntKind.wrap_u16, IntKind.wrap_u32]; omega) | (rw [Int.tmod_eq_emod_of_nonneg (by omega)]) | (rw [Int.tmod_eq_emod_of_nonneg (by omega)]; omega))
              · intro a vs W hX hR he hf K hK
                rw [if_pos (wanted_none rfl)]
                have e100 : a.eval (.tmp 100) = .pointer (some ⟨w.heap.size + 1 + 1, 5, none⟩) := (he 4 100 (by kernel_rfl) rfl).trans (hR 4 (by kernel_rfl))
                have hbW := bthen (below_drew _) (grow_below hX)
                have hc : W.cell? ⟨w.heap.size + 1 + 1, 5, none⟩ = some (.slice x.b.A x.b.n x.b.c) := ((HX.out.on hbW).cell 5).trans (x.get HP.out 1)
                refine wp_value (v := _) ?_ (hK _ _ rfl (grown_refl W _))
                simp only [execOp, e100]
                try go_simp
              · intro a vs W hX hR he hf K hK
                rw [if_pos (wanted_none rfl)]
                have e101 : a.eval (.tmp 101) = .slice x.b.A x.b.n x.b.c := (he 5 101 (by kernel_rfl) rfl).trans (hR 5 (by kernel_rfl))
                have hbW := bthen (below_drew _) (grow_below hX)
                exact wp_value (exec_str 22 9 5 _ rfl Try.underlying22 Try.underlying5 Try.underlying9 x.b.A x.b.n x.b.c x.b.l e101 (HBB.out.below (bthen HW.out hbW))) (hK _ _ rfl (grown_refl W _))
              · intro a vs W hX hR he hf K hK
                rw [if_pos (wanted_none rfl)]
                have e99 : a.eval (.tmp 99) = str x.p := (he 3 99 (by kernel_rfl) rfl).trans (hR 3 (by kernel_rfl))
                have e102 : a.eval (.tmp 102) = str x.b.l := (he 6 102 (by kernel_rfl) rfl).trans (hR 6 (by kernel_rfl))
                refine wp_value (v := _) ?_ (hK _ _ rfl (grown_refl W _))
                simp only [execOp, e99, e102]
                go_simp
                simp [ba_append]
                try (have h8 : x.p.length = 4 := HP.out; omega)
              · intro a vs W hX hR he hf K hK
                rw [if_pos (wanted_none rfl)]
                have e96 : a.eval (.tmp 96) = .agg (g.next' x.ttl x.cls).cells.toArray := (he 0 96 (by kernel_rfl) rfl).trans (hR 0 (by kernel_rfl))
                have e103 : a.eval (.tmp 103) = str (x.p ++ x.b.l) := (he 7 103 (by kernel_rfl) rfl).trans (hR 7 (by kernel_rfl))
                refine wp_enter (f := 18) (args := #[.agg (g.next' x.ttl x.cls).cells.toArray, str (x.p ++ x.b.l)]) (by simp only [execOp, e96, e103]; go_simp; exact ⟨by simpa [Act.eval] using e96, by simpa [Act.eval] using e103⟩) ((R4.out W).mono ?_)
                rintro e w' ⟨rfl, hb⟩
                exact ⟨_, rfl, hK _ _ rfl (below_grow hb _)⟩
              · intro a vs W hX hR he hf K hK
                rw [if_pos (wanted_none rfl)]
                have e104 : a.eval (.tmp 104) = .tuple #[str P4, .int .i64 e4] := (he 8 104 (by kernel_rfl) rfl).trans (hR 8 (by kernel_rfl))
                refine wp_value (v := .tuple #[str P4, .int .i64 e4]) ?_ (hK _ _ rfl (grown_refl W _))
                simp only [execOp, e104]
                try go_simp
                try (first | rfl | omega | (simp only [IntKind.wrap_i64, IntKind.wrap_u8, IntKind.wrap_u64, IntKind.wrap_u16, IntKind.wrap_u32]; omega) | (rw [Int.tmod_eq_emod_of_nonneg (by omega)]) | (rw [Int.tmod_eq_emod_of_nonneg (by omega)]; omega))
              · intro a vs W hX hR he hf K hK
                rw [if_pos (wanted_none rfl)]
                have e95 : a.eval (.tmp 95) = .tuple #[str P4, .int .i64 e4] := (he 9 95 (by kernel_rfl) rfl).trans (hR 9 (by kernel_rfl))
                refine wp_value (v := str P4) ?_ (hK _ _ rfl (grown_refl W _))
                simp only [execOp, e95]
                try go_simp
                try (first | rfl | omega | (simp only [IntKind.wrap_i64, IntKind.wrap_u8, IntKind.wrap_u64, IntKind.wrap_u16, IntKind.wrap_u32]; omega) | (rw [Int.tmod_eq_emod_of_nonneg (by omega)]) | (rw [Int.tmod_eq_emod_of_nonneg (by omega)]; omega))
              · intro a vs W hX hR he hf K hK
                rw [if_pos (wanted_none rfl)]
                have e95 : a.eval (.tmp 95) = .tuple #[str P4, .int .i64 e4] := (he 9 95 (by kernel_rfl) rfl).trans (hR 9 (by kernel_rfl))
                refine wp_value (v := .int .i64 e4) ?_ (hK _ _ rfl (grown_refl W _))
                simp only [execOp, e95]
                try go_simp
                try (first | rfl | omega | (simp only [IntKind.wrap_i64, IntKind.wrap_u8, IntKind.wrap_u64, IntKind.wrap_u16, IntKind.wrap_u32]; omega) | (rw [Int.tmod_eq_emod_of_nonneg (by omega)]) | (rw [Int.tmod_eq_emod_of_nonneg (by omega)]; omega))
              · intro a vs W hX hR he hf K hK
                rw [if_pos (wanted_none rfl)]
                have e105 : a.eval (.tmp 105) = str P4 := (he 10 105 (by kernel_rfl) rfl).trans (hR 10 (by kernel_rfl))
                refine wp_value (v := str P4) ?_ (hK _ _ rfl (grown_refl W _))
                simp only [execOp, e105]
                try go_simp
                try (first | rfl | omega | (simp only [IntKind.wrap_i64, IntKind.wrap_u8, IntKind.wrap_u64, IntKind.wrap_u16, IntKind.wrap_u32]; omega) | (rw [Int.tmod_eq_emod_of_nonneg (by omega)]) | (rw [Int.tmod_eq_emod_of_nonneg (by omega)]; omega))
              · intro a vs W hX hR he hf K hK
                rw [if_pos (wanted_none rfl)]
                have e106 : a.eval (.tmp 106) = .int .i64 e4 := (he 11 106 (by kernel_rfl) rfl).trans (hR 11 (by kernel_rfl))
                refine wp_value (v := .int .i64 e4) ?_ (hK _ _ rfl (grown_refl W _))
                simp only [execOp, e106]
                try go_simp
                try (first | rfl | omega | (simp only [IntKind.wrap_i64, IntKind.wrap_u8, IntKind.wrap_u64, IntKind.wrap_u16, IntKind.wrap_u32]; omega) | (rw [Int.tmod_eq_emod_of_nonneg (by omega)]) | (rw [Int.tmod_eq_emod_of_nonneg (by omega)]; omega))
              · intro vs w11 hX11 hR
                have q0 := hR 0 (by decide)
                have q1 := hR 1 (by decide)
                have q2 := hR 2 (by decide)
                have q3 := hR 3 (by decide)
                have q4 := hR 4 (by decide)
                have q5 := hR 5 (by decide)
                have q6 := hR 6 (by decide)
                have q7 := hR 7 (by decide)
                have q8 := hR 8 (by decide)
                have q9 := hR 9 (by decide)
                have q10 := hR 10 (by decide)
                have q11 := hR 11 (by decide)
                have q12 := hR 12 (by decide)
                have q13 := hR 13 (by decide)
                change vs 0 = .agg (g.next' x.ttl x.cls).cells.toArray at q0
                change vs 1 = .pointer (some ⟨w.heap.size + 1 + 1, 0, none⟩) at q1
                change vs 2 = .slice (some ⟨w.heap.size + 1 + 1, 0, none⟩) 4 4 at q2
                change vs 3 = str x.p at q3
                change vs 4 = .pointer (some ⟨w.heap.size + 1 + 1, 5, none⟩) at q4
                change vs 5 = .slice x.b.A x.b.n x.b.c at q5
                change vs 6 = str x.b.l at q6
                change vs 7 = str (x.p ++ x.b.l) at q7
                change vs 8 = .tuple #[str P4, .int .i64 e4] at q8
                change vs 9 = .tuple #[str P4, .int .i64 e4] at q9
                change vs 10 = str P4 at q10
                change vs 11 = .int .i64 e4 at q11
                change vs 12 = str P4 at q12
                change vs 13 = .int .i64 e4 at q13
                simp only [putAll, Act.put, List.setIfInBounds_toArray, List.set_cons_zero, List.set_cons_succ, q0, q1, q2, q3, q4, q5, q6, q7, q8, q9, q10, q11, q12, q13]
                clear q0 q1 q2 q3 q4 q5 q6 q7 q8 q9 q10 q11 q12 q13
                clear hR
                have hb := bthen (below_drew w10) (grow_below hX11)
                clear hX11
                replace HW := Lib.hid (bthen HW.out hb)
                replace HB := Lib.hid (HB.out.on hb)
                replace HG := Lib.hid (HG.out.on hb)
                replace HX := Lib.hid (HX.out.on hb)
                clear hb
                clear HB HG HX
                rcases (show (e1 ≠ 0) ∨ (e1 = 0 ∧ e2 ≠ 0) ∨ (e1 = 0 ∧ e2 = 0 ∧ e3 ≠ 0) ∨ (e1 = 0 ∧ e2 = 0 ∧ e3 = 0 ∧ e4 ≠ 0) ∨ (e1 = 0 ∧ e2 = 0 ∧ e3 = 0 ∧ e4 = 0) by omega) with z1 | ⟨z1, z2⟩ | ⟨z1, z2, z3⟩ | ⟨z1, z2, z3, z4⟩ | ⟨z1, z2, z3, z4⟩
                · have z1' : (e1 != 0) = true := by simpa [bne] using z1
                  go_wp2_with fail
                  go_ret
                  exact ⟨rfl, HW.out⟩
                · have z2' : (e2 != 0) = true := by simpa [bne] using z2
                  go_wp2_with fail
                  go_ret
                  exact ⟨rfl, HW.out⟩
                · have z3' : (e3 != 0) = true := by simpa [bne] using z3
                  go_wp2_with fail
                  go_ret
                  exact ⟨rfl, HW.out⟩
                · have z4' : (e4 != 0) = true := by simpa [bne] using z4
                  go_wp2_with fail
                  go_ret
                  exact ⟨rfl, HW.out⟩
                · replace L1 := Lib.hid (L1.out z1)
                  replace L2 := Lib.hid (L2.out z2)
                  replace L3 := Lib.hid (L3.out z3)
                  replace L4 := Lib.hid (L4.out z4)
                  go_wp2_with (refine wpList_toBytes (by rfl) _ 9 22 5 rfl Try.underlying22 Try.underlying5 Try.underlying9 P1 rfl ?_ (by have := L1.out.2; simp only [maxLen]; omega); intro A1 c1 w12 hr hb2 hc hm)
                  replace HW := Lib.hid (bthen HW.out hb2)
                  clear hb2
                  refine (of17_any A1 P1.length c1 P1 w12 hr hc hm (by have := L1.out.2; omega)).mono ?_
                  rintro e w13 ⟨rfl, hb⟩
                  rw [L1.out.1]
                  replace HW := Lib.hid (bthen HW.out hb)
                  clear hb hr hc hm
                  obtain ⟨g1, hg1⟩ : ∃ z, z = w13.heap.size := ⟨_, rfl⟩
                  go_wp2_with (first
                    | (refine wpList_alloc_blk rfl 26 rfl Ky.zero.cells zeroK ?_; intro w14 hbw14 hBw14 hsw14)
                    | (refine wpList_store_all rfl 26 _ _ rfl w13.heap.size K0.cells rfl rfl 26 _ hbw14 (sizeK _ KF.out.ok) (Ky.cells_same _ _ KF.out.ok Ky.zero_ok) (Ky.one _) ?_; intro w15 hbw15 hgw15 hsw15; have hBw15 : Below w13.heap.size w13 w15 := bgrown hBw14 hgw15 (by omega) (by omega)); replace HW := Lib.hid (bthen HW.out hBw15); have HK1 := Lib.hid hbw15
                    | (refine wpList_toBytes (by rfl) _ 9 22 5 rfl Try.underlying22 Try.underlying5 Try.underlying9 P3 rfl ?_ (by have := L3.out.2; simp only [maxLen]; omega); intro A2 c2 w16 hr hb2 hc hm))
                  clear hbw14 hBw14 hsw14 hbw15 hgw15 hsw15 hBw15
                  rw [← hg1] at HK1 ⊢
                  clear hg1
                  replace HW := Lib.hid (bthen HW.out hb2)
                  replace HK1 := Lib.hid (HK1.out.on hb2)
                  clear hb2
                  refine (of17_any A2 P3.length c2 P3 w16 hr hc hm (by have := L3.out.2; omega)).mono ?_
                  rintro e w17 ⟨rfl, hb⟩
                  rw [L3.out.1]
                  replace HW := Lib.hid (bthen HW.out hb)
                  replace HK1 := Lib.hid (HK1.out.on hb)
                  clear hb hr hc hm
                  obtain ⟨g2, hg2⟩ : ∃ z, z = w17.heap.size := ⟨_, rfl⟩
                  go_wp2_with (first
                    | (refine wpList_alloc_blk rfl 26 rfl Ky.zero.cells zeroK ?_; intro w18 hbw18 hBw18 hsw18)
                    | (refine wpList_store_all rfl 26 _ _ rfl w17.heap.size K0.cells rfl rfl 26 _ hbw18 (sizeK _ KF.out.ok) (Ky.cells_same _ _ KF.out.ok Ky.zero_ok) (Ky.one _) ?_; intro w19 hbw19 hgw19 hsw19; have hBw19 : Below w17.heap.size w17 w19 := bgrown hBw18 hgw19 (by omega) (by omega)); replace HW := Lib.hid (bthen HW.out hBw19); replace HK1 := Lib.hid (HK1.out.on hBw19); have HK2 := Lib.hid hbw19
                    | (refine wpList_toBytes (by rfl) _ 9 22 5 rfl Try.underlying22 Try.underlying5 Try.underlying9 P2 rfl ?_ (by have := L2.out.2; simp only [maxLen]; omega); intro A3 c3 w20 hr hb2 hc hm))
                  clear hbw18 hBw18 hsw18 hbw19 hgw19 hsw19 hBw19
                  rw [← hg2] at HK2 ⊢
                  clear hg2
                  replace HW := Lib.hid (bthen HW.out hb2)
                  replace HK1 := Lib.hid (HK1.out.on hb2)
                  replace HK2 := Lib.hid (HK2.out.on hb2)
                  clear hb2
                  refine (of17_any A3 P2.length c3 P2 w20 hr hc hm (by have := L2.out.2; omega)).mono ?_
                  rintro e w21 ⟨rfl, hb⟩
                  rw [L2.out.1]
                  replace HW := Lib.hid (bthen HW.out hb)
                  replace HK1 := Lib.hid (HK1.out.on hb)
                  replace HK2 := Lib.hid (HK2.out.on hb)
                  clear hb hr hc hm
                  obtain ⟨g3, hg3⟩ : ∃ z, z = w21.heap.size := ⟨_, rfl⟩
                  go_wp2_with (first
                    | (refine wpList_alloc_blk rfl 26 rfl Ky.zero.cells zeroK ?_; intro w22 hbw22 hBw22 hsw22)
                    | (refine wpList_store_all rfl 26 _ _ rfl w21.heap.size M0.cells rfl rfl 26 _ hbw22 (sizeK _ MF.out.ok) (Ky.cells_same _ _ MF.out.ok Ky.zero_ok) (Ky.one _) ?_; intro w23 hbw23 hgw23 hsw23; have hBw23 : Below w21.heap.size w21 w23 := bgrown hBw22 hgw23 (by omega) (by omega)); replace HW := Lib.hid (bthen HW.out hBw23); replace HK1 := Lib.hid (HK1.out.on hBw23); replace HK2 := Lib.hid (HK2.out.on hBw23); have HK3 := Lib.hid hbw23
                    | (refine wpList_toBytes (by rfl) _ 9 22 5 rfl Try.underlying22 Try.underlying5 Try.underlying9 P4 rfl ?_ (by have := L4.out.2; simp only [maxLen]; omega); intro A4 c4 w24 hr hb2 hc hm))
                  clear hbw22 hBw22 hsw22 hbw23 hgw23 hsw23 hBw23
                  rw [← hg3] at HK3 ⊢
                  clear hg3
                  replace HW := Lib.hid (bthen HW.out hb2)
                  replace HK1 := Lib.hid (HK1.out.on hb2)
                  replace HK2 := Lib.hid (HK2.out.on hb2)
                  replace HK3 := Lib.hid (HK3.out.on hb2)
                  clear hb2
                  refine (of17_any A4 P4.length c4 P4 w24 hr hc hm (by have := L4.out.2; omega)).mono ?_
                  rintro e w25 ⟨rfl, hb⟩
                  rw [L4.out.1]
                  replace HW := Lib.hid (bthen HW.out hb)
                  replace HK1 := Lib.hid (HK1.out.on hb)
                  replace HK2 := Lib.hid (HK2.out.on hb)
                  replace HK3 := Lib.hid (HK3.out.on hb)
                  clear hb hr hc hm
                  obtain ⟨g4, hg4⟩ : ∃ z, z = w25.heap.size := ⟨_, rfl⟩
                  go_wp2_with (first
                    | (refine wpList_alloc_blk rfl 26 rfl Ky.zero.cells zeroK ?_; intro w26 hbw26 hBw26 hsw26)
                    | (refine wpList_store_all rfl 26 _ _ rfl w25.heap.size M0.cells rfl rfl 26 _ hbw26 (sizeK _ MF.out.ok) (Ky.cells_same _ _ MF.out.ok Ky.zero_ok) (Ky.one _) ?_; intro w27 hbw27 hgw27 hsw27; have hBw27 : Below w25.heap.size w25 w27 := bgrown hBw26 hgw27 (by omega) (by omega)); replace HW := Lib.hid (bthen HW.out hBw27); replace HK1 := Lib.hid (HK1.out.on hBw27); replace HK2 := Lib.hid (HK2.out.on hBw27); replace HK3 := Lib.hid (HK3.out.on hBw27); have HK4 := Lib.hid hbw27)
                  clear hbw26 hBw26 hsw26 hbw27 hgw27 hsw27 hBw27
                  rw [← hg4] at HK4 ⊢
                  clear hg4
                  refine wp_region_rel (fun A B => A.grownBy B none) (fun A => grown_refl A _) (fun A B C h k => grown_trans h k) (relAt (List.cons (fun v _ => v = .bool true) (List.cons (fun v _ => v = .bool true) (List.cons (fun v _ => v = .bool true) (List.cons (fun v _ => v = .bool true) (List.cons (fun v _ => v = .bool true) (List.cons (fun v _ => v = .bool true) (List.cons (fun v _ => v = .bool true) (List.cons (fun v _ => v = .bool true) (List.cons (fun v _ => v = .bool true) (List.cons (fun v _ => v = .bool true) (List.cons (fun v _ => v = .bool true) (List.cons (fun v _ => v = .agg K0.cells.toArray) (List.cons (fun v _ => v = .agg K0.cells.toArray) (List.cons (fun v _ => v = .bool true) (List.cons (fun v _ => v = .bool true) (List.cons (fun v _ => v = .bool true) (List.cons (fun v _ => v = .agg M0.cells.toArray) (List.cons (fun v _ => v = .agg M0.cells.toArray) (List.cons (fun v _ => v = .bool true) (List.cons (fun v _ => v = .bool true) (List.cons (fun v _ => v = .bool true) (List.cons (fun v _ => v = .agg K0.cells.toArray) (List.cons (fun v _ => v = .int .u32 (hashF K0 [] : Nat)) (List.cons (fun v _ => v = .agg K0.cells.toArray) (List.cons (fun v _ => v = .int .u32 (hashF K0 [] : Nat)) (List.cons (fun v _ => v = .bool true) (List.cons (fun v _ => v = .bool true) (List.cons (fun v _ => v = .bool true) (List.cons (fun v _ => v = .pointer (some ⟨g1, 0, none⟩)) (List.cons (fun v _ => v = .bool false) (List.cons (fun v _ => v = .pointer (some ⟨g3, 0, none⟩)) (List.cons (fun v _ => v = .bool true) (List.cons (fun v _ => v = .bool true) (List.cons (fun v _ => v = .bool true) (List.cons (fun v _ => v = .bool true) ([]))))))))))))))))))))))))))))))))))))) (MonoL.at_ (.cons (mono_val _) (.cons (mono_val _) (.cons (mono_val _) (.cons (mono_val _) (.cons (mono_val _) (.cons (mono_val _) (.cons (mono_val _) (.cons (mono_val _) (.cons (mono_val _) (.cons (mono_val _) (.cons (mono_val _) (.cons (mono_val _) (.cons (mono_val _) (.cons (mono_val _) (.cons (mono_val _) (.cons (mono_val _) (.cons (mono_val _) (.cons (mono_val _) (.cons (mono_val _) (.cons (mono_val _) (.cons (mono_val _) (.cons (mono_val _) (.cons (mono_val _) (.cons (mono_val _) (.cons (mono_val _) (.cons (mono_val _) (.cons (mono_val _) (.cons (mono_val _) (.cons (mono_val _) (.cons (mono_val _) (.cons (mono_val _) (.cons (mono_val _) (.cons (mono_val _) (.cons (mono_val _) (.cons (mono_val _) .nil)))))))))))))))))))))))))))))))))))) (by kernel_rfl) (by kernel_rfl) ⟨?_, ?_, ?_, ?_, ?_, ?_, ?_, ?_, ?_, ?_, ?_, ?_, ?_, ?_, ?_, ?_, ?_, ?_, ?_, ?_, ?_, ?_, ?_, ?_, ?_, ?_, ?_, ?_, ?_, ?_, ?_, ?_, ?_, ?_, ?_, trivial⟩ ?_
                  · intro a vs W hX hR he hf K hK
                    rw [if_pos (wanted_none rfl)]
                    have e17 : a.eval (.tmp 17) = .bool true := hf 17 (by kernel_rfl)
                    refine wp_value (v := .bool true) ?_ (hK _ _ rfl (grown_refl W _))
                    simp only [execOp, e17]
                    try go_simp
                    try (first | rfl | omega | (simp only [IntKind.wrap_i64, IntKind.wrap_u8, IntKind.wrap_u64, IntKind.wrap_u16, IntKind.wrap_u32]; omega) | (rw [Int.tmod_eq_emod_of_nonneg (by omega)]) | (rw [Int.tmod_eq_emod_of_nonneg (by omega)]; omega))
                  · intro a vs W hX hR he hf K hK
                    rw [if_pos (wanted_none rfl)]
                    have e145 : a.eval (.tmp 145) = .bool true := (he 0 145 (by kernel_rfl) rfl).trans (hR 0 (by kernel_rfl))
                    refine wp_value (v := .bool true) ?_ (hK _ _ rfl (grown_refl W _))
                    simp only [execOp, e145]
                    try go_simp
                    try (first | rfl | omega | (simp only [IntKind.wrap_i64, IntKind.wrap_u8, IntKind.wrap_u64, IntKind.wrap_u16, IntKind.wrap_u32]; omega) | (rw [Int.tmod_eq_emod_of_nonneg (by omega)]) | (rw [Int.tmod_eq_emod_of_nonneg (by omega)]; omega))
                  · intro a vs W hX hR he hf K hK
                    have e146 : a.eval (.tmp 146) = .bool true := (he 1 146 (by kernel_rfl) rfl).trans (hR 1 (by kernel_rfl))
                    refine Eq.mpr (if_pos (by exact (wanted_some rfl rfl e146).trans rfl)) ?_
                    have e19 : a.eval (.tmp 19) = .bool true := hf 19 (by kernel_rfl)
                    refine wp_value (v := .bool true) ?_ (hK _ _ rfl (grown_refl W _))
                    simp only [execOp, e19]
                    try go_simp
                    try (first | rfl | omega | (simp only [IntKind.wrap_i64, IntKind.wrap_u8, IntKind.wrap_u64, IntKind.wrap_u16, IntKind.wrap_u32]; omega) | (rw [Int.tmod_eq_emod_of_nonneg (by omega)]) | (rw [Int.tmod_eq_emod_of_nonneg (by omega)]; omega))
                  · intro a vs W hX hR he hf K hK
                    rw [if_pos (wanted_none rfl)]
                    have e146 : a.eval (.tmp 146) = .bool true := (he 1 146 (by kernel_rfl) rfl).trans (hR 1 (by kernel_rfl))
                    have e147 : a.eval (.tmp 147) = .bool true := (he 2 147 (by kernel_rfl) rfl).trans (hR 2 (by kernel_rfl))
                    refine wp_value (v := .bool true) ?_ (hK _ _ rfl (grown_refl W _))
                    simp only [execOp, e146, e147]
                    try go_simp
                    try (first | rfl | omega | (simp only [IntKind.wrap_i64, IntKind.wrap_u8, IntKind.wrap_u64, IntKind.wrap_u16, IntKind.wrap_u32]; omega) | (rw [Int.tmod_eq_emod_of_nonneg (by omega)]) | (rw [Int.tmod_eq_emod_of_nonneg (by omega)]; omega))
                  · intro a vs W hX hR he hf K hK
                    rw [if_pos (wanted_none rfl)]
                    have e148 : a.eval (.tmp 148) = .bool true := (he 3 148 (by kernel_rfl) rfl).trans (hR 3 (by kernel_rfl))
                    refine wp_value (v := .bool true) ?_ (hK _ _ rfl (grown_refl W _))
                    simp only [execOp, e148]
                    try go_simp
                    try (first | rfl | omega | (simp only [IntKind.wrap_i64, IntKind.wrap_u8, IntKind.wrap_u64, IntKind.wrap_u16, IntKind.wrap_u32]; omega) | (rw [Int.tmod_eq_emod_of_nonneg (by omega)]) | (rw [Int.tmod_eq_emod_of_nonneg (by omega)]; omega))
                  · intro a vs W hX hR he hf K hK
                    have e149 : a.eval (.tmp 149) = .bool true := (he 4 149 (by kernel_rfl) rfl).trans (hR 4 (by kernel_rfl))
                    refine Eq.mpr (if_pos (by exact (wanted_some rfl rfl e149).trans rfl)) ?_
                    have e21 : a.eval (.tmp 21) = .bool true := hf 21 (by kernel_rfl)
                    refine wp_value (v := .bool true) ?_ (hK _ _ rfl (grown_refl W _))
                    simp only [execOp, e21]
                    try go_simp
                    try (first | rfl | omega | (simp only [IntKind.wrap_i64, IntKind.wrap_u8, IntKind.wrap_u64, IntKind.wrap_u16, IntKind.wrap_u32]; omega) | (rw [Int.tmod_eq_emod_of_nonneg (by omega)]) | (rw [Int.tmod_eq_emod_of_nonneg (by omega)]; omega))
                  · intro a vs W hX hR he hf K hK
                    rw [if_pos (wanted_none rfl)]
                    have e149 : a.eval (.tmp 149) = .bool true := (he 4 149 (by kernel_rfl) rfl).trans (hR 4 (by kernel_rfl))
                    have e150 : a.eval (.tmp 150) = .bool true := (he 5 150 (by kernel_rfl) rfl).trans (hR 5 (by kernel_rfl))
                    refine wp_value (v := .bool true) ?_ (hK _ _ rfl (grown_refl W _))
                    simp only [execOp, e149, e150]
                    try go_simp
                    try (first | rfl | omega | (simp only [IntKind.wrap_i64, IntKind.wrap_u8, IntKind.wrap_u64, IntKind.wrap_u16, IntKind.wrap_u32]; omega) | (rw [Int.tmod_eq_emod_of_nonneg (by omega)]) | (rw [Int.tmod_eq_emod_of_nonneg (by omega)]; omega))
                  · intro a vs W hX hR he hf K hK
                    rw [if_pos (wanted_none rfl)]
                    have e151 : a.eval (.tmp 151) = .bool true := (he 6 151 (by kernel_rfl) rfl).trans (hR 6 (by kernel_rfl))
                    refine wp_value (v := .bool true) ?_ (hK _ _ rfl (grown_refl W _))
                    simp only [execOp, e151]
                    try go_simp
                    try (first | rfl | omega | (simp only [IntKind.wrap_i64, IntKind.wrap_u8, IntKind.wrap_u64, IntKind.wrap_u16, IntKind.wrap_u32]; omega) | (rw [Int.tmod_eq_emod_of_nonneg (by omega)]) | (rw [Int.tmod_eq_emod_of_nonneg (by omega)]; omega))
                  · intro a vs W hX hR he hf K hK
                    have e152 : a.eval (.tmp 152) = .bool true := (he 7 152 (by kernel_rfl) rfl).trans (hR 7 (by kernel_rfl))
                    refine Eq.mpr (if_pos (by exact (wanted_some rfl rfl e152).trans rfl)) ?_
                    have e23 : a.eval (.tmp 23) = .bool true := hf 23 (by kernel_rfl)
                    refine wp_value (v := .bool true) ?_ (hK _ _ rfl (grown_refl W _))
                    simp only [execOp, e23]
                    try go_simp
                    try (first | rfl | omega | (simp only [IntKind.wrap_i64, IntKind.wrap_u8, IntKind.wrap_u64, IntKind.wrap_u16, IntKind.wrap_u32]; omega) | (rw [Int.tmod_eq_emod_of_nonneg (by omega)]) | (rw [Int.tmod_eq_emod_of_nonneg (by omega)]; omega))
                  · intro a vs W hX hR he hf K hK
                    rw [if_pos (wanted_none rfl)]
                    have e152 : a.eval (.tmp 152) = .bool true := (he 7 152 (by kernel_rfl) rfl).trans (hR 7 (by kernel_rfl))
                    have e153 : a.eval (.tmp 153) = .bool true := (he 8 153 (by kernel_rfl) rfl).trans (hR 8 (by kernel_rfl))
                    refine wp_value (v := .bool true) ?_ (hK _ _ rfl (grown_refl W _))
                    simp only [execOp, e152, e153]
                    try go_simp
                    try (first | rfl | omega | (simp only [IntKind.wrap_i64, IntKind.wrap_u8, IntKind.wrap_u64, IntKind.wrap_u16, IntKind.wrap_u32]; omega) | (rw [Int.tmod_eq_emod_of_nonneg (by omega)]) | (rw [Int.tmod_eq_emod_of_nonneg (by omega)]; omega))
                  · intro a vs W hX hR he hf K hK
                    rw [if_pos (wanted_none rfl)]
                    have e154 : a.eval (.tmp 154) = .bool true := (he 9 154 (by kernel_rfl) rfl).trans (hR 9 (by kernel_rfl))
                    refine wp_value (v := .bool true) ?_ (hK _ _ rfl (grown_refl W _))
                    simp only [execOp, e154]
                    try go_simp
                    try (first | rfl | omega | (simp only [IntKind.wrap_i64, IntKind.wrap_u8, IntKind.wrap_u64, IntKind.wrap_u16, IntKind.wrap_u32]; omega) | (rw [Int.tmod_eq_emod_of_nonneg (by omega)]) | (rw [Int.tmod_eq_emod_of_nonneg (by omega)]; omega))
                  · intro a vs W hX hR he hf K hK
                    have e155 : a.eval (.tmp 155) = .bool true := (he 10 155 (by kernel_rfl) rfl).trans (hR 10 (by kernel_rfl))
                    refine Eq.mpr (if_pos (by exact (wanted_some rfl rfl e155).trans rfl)) ?_
                    have e16 : a.eval (.tmp 16) = .pointer (some ⟨g1, 0, none⟩) := hf 16 (by kernel_rfl)
                    have hbW := bthen (below_drew _) (grow_below hX)
                    exact wp_value (exec_load 26 _ rfl g1 e16 26 K0.cells _ (HK1.out.on hbW) Try.underlying26 rfl (sizeK _ KF.out.ok)) (hK _ _ rfl (grown_refl W _))
                  · intro a vs W hX hR he hf K hK
                    have e155 : a.eval (.tmp 155) = .bool true := (he 10 155 (by kernel_rfl) rfl).trans (hR 10 (by kernel_rfl))
                    refine Eq.mpr (if_pos (by exact (wanted_some rfl rfl e155).trans rfl)) ?_
                    have e18 : a.eval (.tmp 18) = .pointer (some ⟨g2, 0, none⟩) := hf 18 (by kernel_rfl)
                    have hbW := bthen (below_drew _) (grow_below hX)
                    exact wp_value (exec_load 26 _ rfl g2 e18 26 K0.cells _ (HK2.out.on hbW) Try.underlying26 rfl (sizeK _ KF.out.ok)) (hK _ _ rfl (grown_refl W _))
                  · intro a vs W hX hR he hf K hK
                    have e155 : a.eval (.tmp 155) = .bool true := (he 10 155 (by kernel_rfl) rfl).trans (hR 10 (by kernel_rfl))
                    refine Eq.mpr (if_pos (by exact (wanted_some rfl rfl e155).trans rfl)) ?_
                    have e156 : a.eval (.tmp 156) = .agg K0.cells.toArray := (he 11 156 (by kernel_rfl) rfl).trans (hR 11 (by kernel_rfl))
                    have e157 : a.eval (.tmp 157) = .agg K0.cells.toArray := (he 12 157 (by kernel_rfl) rfl).trans (hR 12 (by kernel_rfl))
                    exact wp_value (exec_eqK _ _ _ rfl K0 KF.out.ok e156 e157) (hK _ _ rfl (grown_refl W _))
                  · intro a vs W hX hR he hf K hK
                    rw [if_pos (wanted_none rfl)]
                    have e155 : a.eval (.tmp 155) = .bool true := (he 10 155 (by kernel_rfl) rfl).trans (hR 10 (by kernel_rfl))
                    have e158 : a.eval (.tmp 158) = .bool true := (he 13 158 (by kernel_rfl) rfl).trans (hR 13 (by kernel_rfl))
                    refine wp_value (v := .bool true) ?_ (hK _ _ rfl (grown_refl W _))
                    simp only [execOp, e155, e158]
                    try go_simp
                    try (first | rfl | omega | (simp only [IntKind.wrap_i64, IntKind.wrap_u8, IntKind.wrap_u64, IntKind.wrap_u16, IntKind.wrap_u32]; omega) | (rw [Int.tmod_eq_emod_of_nonneg (by omega)]) | (rw [Int.tmod_eq_emod_of_nonneg (by omega)]; omega))
                  · intro a vs W hX hR he hf K hK
                    rw [if_pos (wanted_none rfl)]
                    have e159 : a.eval (.tmp 159) = .bool true := (he 14 159 (by kernel_rfl) rfl).trans (hR 14 (by kernel_rfl))
                    refine wp_value (v := .bool true) ?_ (hK _ _ rfl (grown_refl W _))
                    simp only [execOp, e159]
                    try go_simp
                    try (first | rfl | omega | (simp only [IntKind.wrap_i64, IntKind.wrap_u8, IntKind.wrap_u64, IntKind.wrap_u16, IntKind.wrap_u32]; omega) | (rw [Int.tmod_eq_emod_of_nonneg (by omega)]) | (rw [Int.tmod_eq_emod_of_nonneg (by omega)]; omega))
                  · intro a vs W hX hR he hf K hK
                    have e160 : a.eval (.tmp 160) = .bool true := (he 15 160 (by kernel_rfl) rfl).trans (hR 15 (by kernel_rfl))
                    refine Eq.mpr (if_pos (by exact (wanted_some rfl rfl e160).trans rfl)) ?_
                    have e20 : a.eval (.tmp 20) = .pointer (some ⟨g3, 0, none⟩) := hf 20 (by kernel_rfl)
                    have hbW := bthen (below_drew _) (grow_below hX)
                    exact wp_value (exec_load 26 _ rfl g3 e20 26 M0.cells _ (HK3.out.on hbW) Try.underlying26 rfl (sizeK _ MF.out.ok)) (hK _ _ rfl (grown_refl W _))
                  · intro a vs W hX hR he hf K hK
                    have e160 : a.eval (.tmp 160) = .bool true := (he 15 160 (by kernel_rfl) rfl).trans (hR 15 (by kernel_rfl))
                    refine Eq.mpr (if_pos (by exact (wanted_some rfl rfl e160).trans rfl)) ?_
                    have e22 : a.eval (.tmp 22) = .pointer (some ⟨g4, 0, none⟩) := hf 22 (by kernel_rfl)
                    have hbW := bthen (below_drew _) (grow_below hX)
                    exact wp_value (exec_load 26 _ rfl g4 e22 26 M0.cells _ (HK4.out.on hbW) Try.underlying26 rfl (sizeK _ MF.out.ok)) (hK _ _ rfl (grown_refl W _))
                  · intro a vs W hX hR he hf K hK
                    have e160 : a.eval (.tmp 160) = .bool true := (he 15 160 (by kernel_rfl) rfl).trans (hR 15 (by kernel_rfl))
                    refine Eq.mpr (if_pos (by exact (wanted_some rfl rfl e160).trans rfl)) ?_
                    have e161 : a.eval (.tmp 161) = .agg M0.cells.toArray := (he 16 161 (by kernel_rfl) rfl).trans (hR 16 (by kernel_rfl))
                    have e162 : a.eval (.tmp 162) = .agg M0.cells.toArray := (he 17 162 (by kernel_rfl) rfl).trans (hR 17 (by kernel_rfl))
                    exact wp_value (exec_eqK _ _ _ rfl M0 MF.out.ok e161 e162) (hK _ _ rfl (grown_refl W _))
                  · intro a vs W hX hR he hf K hK
                    rw [if_pos (wanted_none rfl)]
                    have e160 : a.eval (.tmp 160) = .bool true := (he 15 160 (by kernel_rfl) rfl).trans (hR 15 (by kernel_rfl))
                    have e163 : a.eval (.tmp 163) = .bool true := (he 18 163 (by kernel_rfl) rfl).trans (hR 18 (by kernel_rfl))
                    refine wp_value (v := .bool true) ?_ (hK _ _ rfl (grown_refl W _))
                    simp only [execOp, e160, e163]
                    try go_simp
                    try (first | rfl | omega | (simp only [IntKind.wrap_i64, IntKind.wrap_u8, IntKind.wrap_u64, IntKind.wrap_u16, IntKind.wrap_u32]; omega) | (rw [Int.tmod_eq_emod_of_nonneg (by omega)]) | (rw [Int.tmod_eq_emod_of_nonneg (by omega)]; omega))
                  · intro a vs W hX hR he hf K hK
                    rw [if_pos (wanted_none rfl)]
                    have e164 : a.eval (.tmp 164) = .bool true := (he 19 164 (by kernel_rfl) rfl).trans (hR 19 (by kernel_rfl))
                    refine wp_value (v := .bool true) ?_ (hK _ _ rfl (grown_refl W _))
                    simp only [execOp, e164]
                    try go_simp
                    try (first | rfl | omega | (simp only [IntKind.wrap_i64, IntKind.wrap_u8, IntKind.wrap_u64, IntKind.wrap_u16, IntKind.wrap_u32]; omega) | (rw [Int.tmod_eq_emod_of_nonneg (by omega)]) | (rw [Int.tmod_eq_emod_of_nonneg (by omega)]; omega))
                  · intro a vs W hX hR he hf K hK
                    have e165 : a.eval (.tmp 165) = .bool true := (he 20 165 (by kernel_rfl) rfl).trans (hR 20 (by kernel_rfl))
                    refine Eq.mpr (if_pos (by exact (wanted_some rfl rfl e165).trans rfl)) ?_
                    have e16 : a.eval (.tmp 16) = .pointer (some ⟨g1, 0, none⟩) := hf 16 (by kernel_rfl)
                    have hbW := bthen (below_drew _) (grow_below hX)
                    exact wp_value (exec_load 26 _ rfl g1 e16 26 K0.cells _ (HK1.out.on hbW) Try.underlying26 rfl (sizeK _ KF.out.ok)) (hK _ _ rfl (grown_refl W _))
                  · intro a vs W hX hR he hf K hK
                    have e165 : a.eval (.tmp 165) = .bool true := (he 20 165 (by kernel_rfl) rfl).trans (hR 20 (by kernel_rfl))
                    refine Eq.mpr (if_pos (by exact (wanted_some rfl rfl e165).trans rfl)) ?_
                    have e166 : a.eval (.tmp 166) = .agg K0.cells.toArray := (he 21 166 (by kernel_rfl) rfl).trans (hR 21 (by kernel_rfl))
                    refine wp_enter (f := 15) (args := #[.agg K0.cells.toArray, .slice none 0 0]) (by simp only [execOp, e166]; go_simp; simpa [Act.eval] using e166) ((hash_any K0 KF.out none 0 0 [] W (Row.nil _ _ _ _) (by simp) (by omega)).mono ?_)
                    rintro e w' ⟨rfl, hb⟩
                    exact ⟨_, rfl, hK _ _ rfl (below_grow hb _)⟩
                  · intro a vs W hX hR he hf K hK
                    have e165 : a.eval (.tmp 165) = .bool true := (he 20 165 (by kernel_rfl) rfl).trans (hR 20 (by kernel_rfl))
                    refine Eq.mpr (if_pos (by exact (wanted_some rfl rfl e165).trans rfl)) ?_
                    have e18 : a.eval (.tmp 18) = .pointer (some ⟨g2, 0, none⟩) := hf 18 (by kernel_rfl)
                    have hbW := bthen (below_drew _) (grow_below hX)
                    exact wp_value (exec_load 26 _ rfl g2 e18 26 K0.cells _ (HK2.out.on hbW) Try.underlying26 rfl (sizeK _ KF.out.ok)) (hK _ _ rfl (grown_refl W _))
                  · intro a vs W hX hR he hf K hK
                    have e165 : a.eval (.tmp 165) = .bool true := (he 20 165 (by kernel_rfl) rfl).trans (hR 20 (by kernel_rfl))
                    refine Eq.mpr (if_pos (by exact (wanted_some rfl rfl e165).trans rfl)) ?_
                    have e168 : a.eval (.tmp 168) = .agg K0.cells.toArray := (he 23 168 (by kernel_rfl) rfl).trans (hR 23 (by kernel_rfl))
                    refine wp_enter (f := 15) (args := #[.agg K0.cells.toArray, .slice none 0 0]) (by simp only [execOp, e168]; go_simp; simpa [Act.eval] using e168) ((hash_any K0 KF.out none 0 0 [] W (Row.nil _ _ _ _) (by simp) (by omega)).mono ?_)
                    rintro e w' ⟨rfl, hb⟩
                    exact ⟨_, rfl, hK _ _ rfl (below_grow hb _)⟩
                  · intro a vs W hX hR he hf K hK
                    have e165 : a.eval (.tmp 165) = .bool true := (he 20 165 (by kernel_rfl) rfl).trans (hR 20 (by kernel_rfl))
                    refine Eq.mpr (if_pos (by exact (wanted_some rfl rfl e165).trans rfl)) ?_
                    have e167 : a.eval (.tmp 167) = .int .u32 (hashF K0 [] : Nat) := (he 22 167 (by kernel_rfl) rfl).trans (hR 22 (by kernel_rfl))
                    have e169 : a.eval (.tmp 169) = .int .u32 (hashF K0 [] : Nat) := (he 24 169 (by kernel_rfl) rfl).trans (hR 24 (by kernel_rfl))
                    refine wp_value (v := .bool true) ?_ (hK _ _ rfl (grown_refl W _))
                    simp only [execOp, e167, e169]
                    try go_simp
                    try (first | rfl | omega | (simp only [IntKind.wrap_i64, IntKind.wrap_u8, IntKind.wrap_u64, IntKind.wrap_u16, IntKind.wrap_u32]; omega) | (rw [Int.tmod_eq_emod_of_nonneg (by omega)]) | (rw [Int.tmod_eq_emod_of_nonneg (by omega)]; omega))
                  · intro a vs W hX hR he hf K hK
                    rw [if_pos (wanted_none rfl)]
                    have e165 : a.eval (.tmp 165) = .bool true := (he 20 165 (by kernel_rfl) rfl).trans (hR 20 (by kernel_rfl))
                    have e170 : a.eval (.tmp 170) = .bool true := (he 25 170 (by kernel_rfl) rfl).trans (hR 25 (by kernel_rfl))
                    refine wp_value (v := .bool true) ?_ (hK _ _ rfl (grown_refl W _))
                    simp only [execOp, e165, e170]
                    try go_simp
                    try (first | rfl | omega | (simp only [IntKind.wrap_i64, IntKind.wrap_u8, IntKind.wrap_u64, IntKind.wrap_u16, IntKind.wrap_u32]; omega) | (rw [Int.tmod_eq_emod_of_nonneg (by omega)]) | (rw [Int.tmod_eq_emod_of_nonneg (by omega)]; omega))
                  · intro a vs W hX hR he hf K hK
                    rw [if_pos (wanted_none rfl)]
                    have e171 : a.eval (.tmp 171) = .bool true := (he 26 171 (by kernel_rfl) rfl).trans (hR 26 (by kernel_rfl))
                    refine wp_value (v := .bool true) ?_ (hK _ _ rfl (grown_refl W _))
                    simp only [execOp, e171]
                    try go_simp
                    try (first | rfl | omega | (simp only [IntKind.wrap_i64, IntKind.wrap_u8, IntKind.wrap_u64, IntKind.wrap_u16, IntKind.wrap_u32]; omega) | (rw [Int.tmod_eq_emod_of_nonneg (by omega)]) | (rw [Int.tmod_eq_emod_of_nonneg (by omega)]; omega))
                  · intro a vs W hX hR he hf K hK
                    have e172 : a.eval (.tmp 172) = .bool true := (he 27 172 (by kernel_rfl) rfl).trans (hR 27 (by kernel_rfl))
                    refine Eq.mpr (if_pos (by exact (wanted_some rfl rfl e172).trans rfl)) ?_
                    have e16 : a.eval (.tmp 16) = .pointer (some ⟨g1, 0, none⟩) := hf 16 (by kernel_rfl)
                    refine wp_value (v := .pointer (some ⟨g1, 0, none⟩)) ?_ (hK _ _ rfl (grown_refl W _))
                    simp only [execOp, e16]
                    try go_simp
                    try (first | rfl | omega | (simp only [IntKind.wrap_i64, IntKind.wrap_u8, IntKind.wrap_u64, IntKind.wrap_u16, IntKind.wrap_u32]; omega) | (rw [Int.tmod_eq_emod_of_nonneg (by omega)]) | (rw [Int.tmod_eq_emod_of_nonneg (by omega)]; omega))
                  · intro a vs W hX hR he hf K hK
                    have e172 : a.eval (.tmp 172) = .bool true := (he 27 172 (by kernel_rfl) rfl).trans (hR 27 (by kernel_rfl))
                    refine Eq.mpr (if_pos (by exact (wanted_some rfl rfl e172).trans rfl)) ?_
                    have e173 : a.eval (.tmp 173) = .pointer (some ⟨g1, 0, none⟩) := (he 28 173 (by kernel_rfl) rfl).trans (hR 28 (by kernel_rfl))
                    have hbW := bthen (below_drew _) (grow_below hX)
                    have hc : W.cell? ⟨g1, 0, none⟩ = some (.bool false) := ((HK1.out.on hbW).cell 0).trans (show K0.cells[0]? = some (.bool false) by show some (Value.bool K0.six) = _; rw [KS.out])
                    refine wp_value (v := _) ?_ (hK _ _ rfl (grown_refl W _))
                    simp only [execOp, e173]
                    try go_simp
                  · intro a vs W hX hR he hf K hK
                    have e172 : a.eval (.tmp 172) = .bool true := (he 27 172 (by kernel_rfl) rfl).trans (hR 27 (by kernel_rfl))
                    refine Eq.mpr (if_pos (by exact (wanted_some rfl rfl e172).trans rfl)) ?_
                    have e20 : a.eval (.tmp 20) = .pointer (some ⟨g3, 0, none⟩) := hf 20 (by kernel_rfl)
                    refine wp_value (v := .pointer (some ⟨g3, 0, none⟩)) ?_ (hK _ _ rfl (grown_refl W _))
                    simp only [execOp, e20]
                    try go_simp
                    try (first | rfl | omega | (simp only [IntKind.wrap_i64, IntKind.wrap_u8, IntKind.wrap_u64, IntKind.wrap_u16, IntKind.wrap_u32]; omega) | (rw [Int.tmod_eq_emod_of_nonneg (by omega)]) | (rw [Int.tmod_eq_emod_of_nonneg (by omega)]; omega))
                  · intro a vs W hX hR he hf K hK
                    have e172 : a.eval (.tmp 172) = .bool true := (he 27 172 (by kernel_rfl) rfl).trans (hR 27 (by kernel_rfl))
                    refine Eq.mpr (if_pos (by exact (wanted_some rfl rfl e172).trans rfl)) ?_
                    have e175 : a.eval (.tmp 175) = .pointer (some ⟨g3, 0, none⟩) := (he 30 175 (by kernel_rfl) rfl).trans (hR 30 (by kernel_rfl))
                    have hbW := bthen (below_drew _) (grow_below hX)
                    have hc : W.cell? ⟨g3, 0, none⟩ = some (.bool true) := ((HK3.out.on hbW).cell 0).trans (show M0.cells[0]? = some (.bool true) by show some (Value.bool M0.six) = _; rw [MS.out])
                    refine wp_value (v := _) ?_ (hK _ _ rfl (grown_refl W _))
                    simp only [execOp, e175]
                    try go_simp
                  · intro a vs W hX hR he hf K hK
                    have e172 : a.eval (.tmp 172) = .bool true := (he 27 172 (by kernel_rfl) rfl).trans (hR 27 (by kernel_rfl))
                    refine Eq.mpr (if_pos (by exact (wanted_some rfl rfl e172).trans rfl)) ?_
                    have e174 : a.eval (.tmp 174) = .bool false := (he 29 174 (by kernel_rfl) rfl).trans (hR 29 (by kernel_rfl))
                    have e176 : a.eval (.tmp 176) = .bool true := (he 31 176 (by kernel_rfl) rfl).trans (hR 31 (by kernel_rfl))
                    refine wp_value (v := .bool true) ?_ (hK _ _ rfl (grown_refl W _))
                    simp only [execOp, e174, e176]
                    try go_simp
                    try (first | rfl | omega | (simp only [IntKind.wrap_i64, IntKind.wrap_u8, IntKind.wrap_u64, IntKind.wrap_u16, IntKind.wrap_u32]; omega) | (rw [Int.tmod_eq_emod_of_nonneg (by omega)]) | (rw [Int.tmod_eq_emod_of_nonneg (by omega)]; omega))
                  · intro a vs W hX hR he hf K hK
                    rw [if_pos (wanted_none rfl)]
                    have e172 : a.eval (.tmp 172) = .bool true := (he 27 172 (by kernel_rfl) rfl).trans (hR 27 (by kernel_rfl))
                    have e177 : a.eval (.tmp 177) = .bool true := (he 32 177 (by kernel_rfl) rfl).trans (hR 32 (by kernel_rfl))
                    refine wp_value (v := .bool true) ?_ (hK _ _ rfl (grown_refl W _))
                    simp only [execOp, e172, e177]
                    try go_simp
                    try (first | rfl | omega | (simp only [IntKind.wrap_i64, IntKind.wrap_u8, IntKind.wrap_u64, IntKind.wrap_u16, IntKind.wrap_u32]; omega) | (rw [Int.tmod_eq_emod_of_nonneg (by omega)]) | (rw [Int.tmod_eq_emod_of_nonneg (by omega)]; omega))
                  · intro a vs W hX hR he hf K hK
                    rw [if_pos (wanted_none rfl)]
                    have e178 : a.eval (.tmp 178) = .bool true := (he 33 178 (by kernel_rfl) rfl).trans (hR 33 (by kernel_rfl))
                    refine wp_value (v := .bool true) ?_ (hK _ _ rfl (grown_refl W _))
                    simp only [execOp, e178]
                    try go_simp
                    try (first | rfl | omega | (simp only [IntKind.wrap_i64, IntKind.wrap_u8, IntKind.wrap_u64, IntKind.wrap_u16, IntKind.wrap_u32]; omega) | (rw [Int.tmod_eq_emod_of_nonneg (by omega)]) | (rw [Int.tmod_eq_emod_of_nonneg (by omega)]; omega))
                  · intro vs w30 hX30 hR
                    have q0 := hR 0 (by decide)
                    have q1 := hR 1 (by decide)
                    have q2 := hR 2 (by decide)
                    have q3 := hR 3 (by decide)
                    have q4 := hR 4 (by decide)
                    have q5 := hR 5 (by decide)
                    have q6 := hR 6 (by decide)
                    have q7 := hR 7 (by decide)
                    have q8 := hR 8 (by decide)
                    have q9 := hR 9 (by decide)
                    have q10 := hR 10 (by decide)
                    have q11 := hR 11 (by decide)
                    have q12 := hR 12 (by decide)
                    have q13 := hR 13 (by decide)
                    have q14 := hR 14 (by decide)
                    have q15 := hR 15 (by decide)
                    have q16 := hR 16 (by decide)
                    have q17 := hR 17 (by decide)
                    have q18 := hR 18 (by decide)
                    have q19 := hR 19 (by decide)
                    have q20 := hR 20 (by decide)
                    have q21 := hR 21 (by decide)
                    have q22 := hR 22 (by decide)
                    have q23 := hR 23 (by decide)
                    have q24 := hR 24 (by decide)
                    have q25 := hR 25 (by decide)
                    have q26 := hR 26 (by decide)
                    have q27 := hR 27 (by decide)
                    have q28 := hR 28 (by decide)
                    have q29 := hR 29 (by decide)
                    have q30 := hR 30 (by decide)
                    have q31 := hR 31 (by decide)
                    have q32 := hR 32 (by decide)
                    have q33 := hR 33 (by decide)
                    have q34 := hR 34 (by decide)
                    change vs 0 = .bool true at q0
                    change vs 1 = .bool true at q1
                    change vs 2 = .bool true at q2
                    change vs 3 = .bool true at q3
                    change vs 4 = .bool true at q4
                    change vs 5 = .bool true at q5
                    change vs 6 = .bool true at q6
                    change vs 7 = .bool true at q7
                    change vs 8 = .bool true at q8
                    change vs 9 = .bool true at q9
                    change vs 10 = .bool true at q10
                    change vs 11 = .agg K0.cells.toArray at q11
                    change vs 12 = .agg K0.cells.toArray at q12
                    change vs 13 = .bool true at q13
                    change vs 14 = .bool true at q14
                    change vs 15 = .bool true at q15
                    change vs 16 = .agg M0.cells.toArray at q16
                    change vs 17 = .agg M0.cells.toArray at q17
                    change vs 18 = .bool true at q18
                    change vs 19 = .bool true at q19
                    change vs 20 = .bool true at q20
                    change vs 21 = .agg K0.cells.toArray at q21
                    change vs 22 = .int .u32 (hashF K0 [] : Nat) at q22
                    change vs 23 = .agg K0.cells.toArray at q23
                    change vs 24 = .int .u32 (hashF K0 [] : Nat) at q24
                    change vs 25 = .bool true at q25
                    change vs 26 = .bool true at q26
                    change vs 27 = .bool true at q27
                    change vs 28 = .pointer (some ⟨g1, 0, none⟩) at q28
                    change vs 29 = .bool false at q29
                    change vs 30 = .pointer (some ⟨g3, 0, none⟩) at q30
                    change vs 31 = .bool true at q31
                    change vs 32 = .bool true at q32
                    change vs 33 = .bool true at q33
                    change vs 34 = .bool true at q34
                    simp only [putAll, Act.put, List.setIfInBounds_toArray, List.set_cons_zero, List.set_cons_succ, q0, q1, q2, q3, q4, q5, q6, q7, q8, q9, q10, q11, q12, q13, q14, q15, q16, q17, q18, q19, q20, q21, q22, q23, q24, q25, q26, q27, q28, q29, q30, q31, q32, q33, q34]
                    clear q0 q1 q2 q3 q4 q5 q6 q7 q8 q9 q10 q11 q12 q13 q14 q15 q16 q17 q18 q19 q20 q21 q22 q23 q24 q25 q26 q27 q28 q29 q30 q31 q32 q33 q34
                    clear hR
                    go_wp2
                    go_ret
                    exact ⟨rfl, bthen HW.out (bthen (below_drew _) (grow_below hX30))⟩
      · have hb' : (500 : Int) < (x.b.n : Int) := by omega
        go_enter Try.func5, Try.ntmps5
        go_wp2_with (first
          | (refine wpList_box_blk rfl 46 _ rfl h.cells rfl ?_; intro w1 hk1 hB1 hs1)
          | (refine wpList_box_blk rfl 48 _ rfl g.cells rfl ?_; intro w2 hk2 hB2 hs2)
          | (refine wpList_box_blk rfl 50 _ rfl x.cells rfl ?_; intro w3 hk3 hB3 hs3))
        have hB12 := bthen (bthen hB1 hB2) hB3
        replace hk1 := (hk1.on hB2).on hB3
        rw [hs1] at hk2
        replace hk2 := hk2.on hB3
        rw [hs2, hs1] at hk3
        refine (awake_any w3).mono ?_
        rintro e w4 ⟨rfl, hb⟩
        have HW := Lib.hid (bthen hB12 hb)
        have HB := Lib.hid (hk1.on hb)
        have HG := Lib.hid (hk2.on hb)
        have HX := Lib.hid (hk3.on hb)
        clear hk1 hk2 hk3 hB1 hB2 hB3 hs1 hs2 hs3 hB12 hb
        have ck := HB.out.cell 16
        rw [h.get_opt HF.out.ok] at ck
        have cka := (HX.out.cell 4).trans (x.get HP.out 0)
        have ckb := (HX.out.cell 5).trans (x.get HP.out 1)
        change w4.cell? _ = some (.slice x.a.A x.a.n x.a.c) at cka
        change w4.cell? _ = some (.slice x.b.A x.b.n x.b.c) at ckb
        go_wp2_with fail
        go_ret
        exact ⟨rfl, HW.out⟩
    · have ha' : (500 : Int) < (x.a.n : Int) := by omega
      go_enter Try.func5, Try.ntmps5
      go_wp2_with (first
        | (refine wpList_box_blk rfl 46 _ rfl h.cells rfl ?_; intro w1 hk1 hB1 hs1)
        | (refine wpList_box_blk rfl 48 _ rfl g.cells rfl ?_; intro w2 hk2 hB2 hs2)
        | (refine wpList_box_blk rfl 50 _ rfl x.cells rfl ?_; intro w3 hk3 hB3 hs3))
      have hB12 := bthen (bthen hB1 hB2) hB3
      replace hk1 := (hk1.on hB2).on hB3
      rw [hs1] at hk2
      replace hk2 := hk2.on hB3
      rw [hs2, hs1] at hk3
      refine (awake_any w3).mono ?_
      rintro e w4 ⟨rfl, hb⟩
      have HW := Lib.hid (bthen hB12 hb)
      have HB := Lib.hid (hk1.on hb)
      have HG := Lib.hid (hk2.on hb)
      have HX := Lib.hid (hk3.on hb)
      clear hk1 hk2 hk3 hB1 hB2 hB3 hs1 hs2 hs3 hB12 hb
      have ck := HB.out.cell 16
      rw [h.get_opt HF.out.ok] at ck
      have cka := (HX.out.cell 4).trans (x.get HP.out 0)
      have ckb := (HX.out.cell 5).trans (x.get HP.out 1)
      change w4.cell? _ = some (.slice x.a.A x.a.n x.a.c) at cka
      change w4.cell? _ = some (.slice x.b.A x.b.n x.b.c) at ckb
      go_wp2_with fail
      go_ret
      exact ⟨rfl, HW.out⟩
  · have ho' : (100 : Int) < (h.opt.length : Int) := by omega
    go_enter Try.func5, Try.ntmps5
    go_wp2_with (first
      | (refine wpList_box_blk rfl 46 _ rfl h.cells rfl ?_; intro w1 hk1 hB1 hs1)
      | (refine wpList_box_blk rfl 48 _ rfl g.cells rfl ?_; intro w2 hk2 hB2 hs2)
      | (refine wpList_box_blk rfl 50 _ rfl x.cells rfl ?_; intro w3 hk3 hB3 hs3))
    have hB12 := bthen (bthen hB1 hB2) hB3
    replace hk1 := (hk1.on hB2).on hB3
    rw [hs1] at hk2
    replace hk2 := hk2.on hB3
    rw [hs2, hs1] at hk3
    refine (awake_any w3).mono ?_
    rintro e w4 ⟨rfl, hb⟩
    have HW := Lib.hid (bthen hB12 hb)
    have HB := Lib.hid (hk1.on hb)
    have HG := Lib.hid (hk2.on hb)
    have HX := Lib.hid (hk3.on hb)
    clear hk1 hk2 hk3 hB1 hB2 hB3 hs1 hs2 hs3 hB12 hb
    have ck := HB.out.cell 16
    rw [h.get_opt HF.out.ok] at ck
    have cka := (HX.out.cell 4).trans (x.get HP.out 0)
    have ckb := (HX.out.cell 5).trans (x.get HP.out 1)
    change w4.cell? _ = some (.slice x.a.A x.a.n x.a.c) at cka
    change w4.cell? _ = some (.slice x.b.A x.b.n x.b.c) at ckb
    go_wp2_with fail
    go_ret
    exact ⟨rfl, HW.out⟩
end Go.Proofs.Ythjjcglheialfaa

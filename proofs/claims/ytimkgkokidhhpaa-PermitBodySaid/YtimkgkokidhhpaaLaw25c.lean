/- The walk of layer 25 (permit): Body. No condition but those of the rows. -/
import Derived.Test.YtimkgkokidhhpaaLaw25
import Derived.Test.YtimkgkokidhhpaaOpen
import Derived.Test.YtimkgkokidhhpaaOpenH4
import Derived.Test.YtimkgkokidhhpaaOpenH6
namespace Go.Proofs.Ytimkgkokidhhpaa
open Go.RowKit
set_option linter.unusedVariables false
set_option maxRecDepth 20000
set_option linter.unusedSimpArgs false

theorem put4_zero (h : H4) (l : List UInt8) (he : (put4 h l).2 = 0) : ¬ h.bad ∧ 20 + h.opt.length + l.length ≤ 65535 ∧ (put4 h l).1 = pkt4 h l := by
  unfold put4 at he ⊢
  by_cases hb : h.bad
  · rw [if_pos hb] at he; simp at he
  · rw [if_neg hb] at he ⊢
    by_cases hs : 65535 < 20 + h.opt.length + l.length
    · rw [if_pos hs] at he; simp at he
    · rw [if_neg hs]; exact ⟨hb, by omega, rfl⟩
theorem put6_zero (h : H6) (l : List UInt8) (he : (put6 h l).2 = 0) : 0 ≤ h.flow ∧ h.flow < 1048576 ∧ l.length ≤ 65495 ∧ (put6 h l).1 = pkt6 h l := by
  unfold put6 at he ⊢
  by_cases hb : h.flow < 0 ∨ 1048576 ≤ h.flow
  · rw [if_pos hb] at he; simp at he
  · rw [if_neg hb] at he ⊢
    by_cases hs : 65495 < l.length
    · rw [if_pos hs] at he; simp at he
    · rw [if_neg hs]; exact ⟨by omega, by omega, by omega, rfl⟩
theorem head_take (f : Int → Bool) (l : List UInt8) (h : 1 ≤ l.length) : headIs f (l.take 1) = headIs f l := by
  cases l with
  | nil => simp at h
  | cons u t => rfl
theorem body_laws (h : H4) (hf : h.fit) (g : H6) (gf : g.fit) (l : List UInt8) (hl : 1 ≤ l.length) (z1 : (put4 h l).2 = 0) (z2 : (put4 h (l.take 1)).2 = 0) (z3 : (put6 g l).2 = 0) (z4 : (put6 g (l.take 1)).2 = 0) :
    fourF (put4 h l).1 = fourF (put4 h (l.take 1)).1 ∧ (∀ b, sixF (put6 g l).1 b = sixF (put6 g (l.take 1)).1 b) ∧ eitherF (put4 h l).1 = 4 ∧ eitherF (put6 g (l.take 1)).1 = 6 ∧ (put4 h l).1.length ≤ 70000 ∧ (put4 h (l.take 1)).1.length ≤ 70000 ∧ (put6 g l).1.length ≤ 70000 ∧ (put6 g (l.take 1)).1.length ≤ 70000 := by
  obtain ⟨a1, a2, a3⟩ := put4_zero h l z1
  obtain ⟨b1, b2, b3⟩ := put4_zero h _ z2
  obtain ⟨c1, c2, c3, c4⟩ := put6_zero g l z3
  obtain ⟨d1, d2, d3, d4⟩ := put6_zero g _ z4
  rw [a3, b3, c4, d4]
  refine ⟨?_, fun b => ?_, either_pkt4 h hf a1 l a2, either_pkt6 g gf c1 c2 _ d3, ?_, ?_, ?_, ?_⟩
  · rw [fourF_pkt h hf a1 l a2, fourF_pkt h hf a1 _ b2, head_take _ l hl]
  · rw [sixF_pkt g gf c1 c2 l c3, sixF_pkt g gf c1 c2 _ d3, head_take _ l hl]
  · rw [pkt4_length h hf.ok]; omega
  · rw [pkt4_length h hf.ok]; omega
  · rw [pkt6_length g gf.ok]; omega
  · rw [pkt6_length g gf.ok]; omega

set_option maxHeartbeats 4000000 in
theorem walk_PermitBody (w : World) (h : H4) (hf : h.fit) (g : H6) (gf : g.fit) (b : Bs) (hb : b.ok w) : Calls Try.prog 5 #[.agg h.cells.toArray, .agg g.cells.toArray, b.v] w fun e w' => e = .returned (.bool true) ∧ Below w.heap.size w w' := by
  obtain ⟨A, n, c, l⟩ := b
  have hll := hb.len
  simp only [Bs.v] at hll ⊢
  by_cases hs : n ≤ 500
  · have hs' : ¬ (500 : Int) < (n : Int) := by omega
    by_cases h0 : n = 0
    · subst h0
      go_enter Try.func5, Try.ntmps5
      go_wp2_with (first
        | (refine wpList_box_blk rfl 42 _ rfl h.cells rfl ?_; intro w1 hk1 hB1 hs1)
        | (refine wpList_box_blk rfl 44 _ rfl g.cells rfl ?_; intro w2 hk2 hB2 hs2))
      have hB12 := bthen hB1 hB2
      have hk12 := hk1.on hB2
      rw [hs1] at hk2
      refine (awake_any w2).mono ?_
      rintro e w3 ⟨rfl, hb3⟩
      have hB3 := bthen hB12 hb3
      have ho3 := hb.below hB3
      have ck := (hk12.on hb3).cell 16
      rw [h.get_opt hf.ok] at ck
      go_wp2_with fail
      go_ret
      exact ⟨rfl, hB3⟩
    · have h0' : ((n : Int) == 0) = false := by simp; omega
      by_cases ho : h.opt.length ≤ 100
      · have ho' : ¬ (100 : Int) < (h.opt.length : Int) := by omega
        have hnc := hb.le
        have r1 := fun W => rput4_any h hf l W (by omega)
        have r2 := fun W => rput4_any h hf (l.take 1) W (by rw [List.length_take]; omega)
        have r3 := fun W => rput6_any g gf l W (by omega)
        have r4 := fun W => rput6_any g gf (l.take 1) W (by rw [List.length_take]; omega)
        have BL := body_laws h hf g gf l (by omega)
        cases hp1 : put4 h l with
        | mk P1 e1 =>
        cases hp2 : put4 h (l.take 1) with
        | mk P2 e2 =>
        cases hp3 : put6 g l with
        | mk P3 e3 =>
        cases hp4 : put6 g (l.take 1) with
        | mk P4 e4 =>
        simp only [hp1, hp2, hp3, hp4] at r1 r2 r3 r4 BL
        have R1 := Lib.hid r1
        have R2 := Lib.hid r2
        have R3 := Lib.hid r3
        have R4 := Lib.hid r4
        have HL := Lib.hid BL
        have HF := Lib.hid hf
        have GF := Lib.hid gf
        have HO := Lib.hid hb
        clear r1 r2 r3 r4 BL hp1 hp2 hp3 hp4 hf gf hb
        rcases (show (e1 ≠ 0) ∨ (e1 = 0 ∧ e2 ≠ 0) ∨ (e1 = 0 ∧ e2 = 0 ∧ e3 ≠ 0) ∨ (e1 = 0 ∧ e2 = 0 ∧ e3 = 0 ∧ e4 ≠ 0) ∨ (e1 = 0 ∧ e2 = 0 ∧ e3 = 0 ∧ e4 = 0) by omega) with z1 | ⟨z1, z2⟩ | ⟨z1, z2, z3⟩ | ⟨z1, z2, z3, z4⟩ | ⟨z1, z2, z3, z4⟩
        all_goals
          go_enter Try.func5, Try.ntmps5
          go_wp2_with (first
            | (refine wpList_box_blk rfl 42 _ rfl h.cells rfl ?_; intro w1 hk1 hB1 hs1)
            | (refine wpList_box_blk rfl 44 _ rfl g.cells rfl ?_; intro w2 hk2 hB2 hs2))
          have hB12 := bthen hB1 hB2
          have hk12 := hk1.on hB2
          rw [hs1] at hk2
          refine (awake_any w2).mono ?_
          rintro e w3 ⟨rfl, hb3⟩
          have hB3 := bthen hB12 hb3
          have HW := Lib.hid hB3
          have HB := Lib.hid (hk12.on hb3)
          have HG := Lib.hid (hk2.on hb3)
          replace HO := Lib.hid (HO.out.below hB3)
          clear hk1 hB1 hs1 hk2 hB2 hs2 hB12 hk12 hb3 hB3
          have ck := HB.out.cell 16
          rw [h.get_opt HF.out.ok] at ck
          go_wp2_with (first
            | (refine wpList_load_blk (by rfl) 42 (.tmp 3) (by rfl) w.heap.size (by rfl) 42 _ _ HB.out Try.underlying42 rfl (size4 _ HF.out.ok) ?_)
            | (refine wpList_str (by rfl) (.tmp 35) 22 9 5 rfl Try.underlying22 Try.underlying5 Try.underlying9 _ A n c l (by rfl) HO.out.row ?_))
          clear ck
          refine (R1.out w3).mono ?_
          rintro e w4 ⟨rfl, hb⟩
          replace HW := Lib.hid (bthen HW.out hb)
          replace HO := Lib.hid (HO.out.below hb)
          replace HB := Lib.hid (HB.out.on hb)
          replace HG := Lib.hid (HG.out.on hb)
          clear hb
          go_wp2_with fail
          refine wp_region_rel (fun A B => A.grownBy B none) (fun A => grown_refl A _) (fun A B C h k => grown_trans h k) (relAt (List.cons (fun v _ => v = .agg h.cells.toArray) (List.cons (fun v _ => v = .slice A n c) (List.cons (fun v _ => v = .slice A 1 c) (List.cons (fun v _ => v = str (l.take 1)) (List.cons (fun v _ => v = .tuple #[str P2, .int .i64 e2]) (List.cons (fun v _ => v = .tuple #[str P2, .int .i64 e2]) (List.cons (fun v _ => v = str P2) (List.cons (fun v _ => v = .int .i64 e2) (List.cons (fun v _ => v = str P2) (List.cons (fun v _ => v = .int .i64 e2) ([])))))))))))) (MonoL.at_ (.cons (mono_val _) (.cons (mono_val _) (.cons (mono_val _) (.cons (mono_val _) (.cons (mono_val _) (.cons (mono_val _) (.cons (mono_val _) (.cons (mono_val _) (.cons (mono_val _) (.cons (mono_val _) .nil))))))))))) (by kernel_rfl) (by kernel_rfl) ⟨?_, ?_, ?_, ?_, ?_, ?_, ?_, ?_, ?_, ?_, trivial⟩ ?_
          · intro a vs W hX hR he hf K hK
            rw [if_pos (wanted_none rfl)]
            have e3 : a.eval (.tmp 3) = .pointer (some ⟨w.heap.size, 0, none⟩) := hf 3 (by kernel_rfl)
            have hbW := bthen (below_drew _) (grow_below hX)
            exact wp_value (exec_load 42 _ rfl (w.heap.size) e3 42 h.cells _ (HB.out.on hbW) Try.underlying42 rfl (size4 _ HF.out.ok)) (hK _ _ rfl (grown_refl W _))
          · intro a vs W hX hR he hf K hK
            rw [if_pos (wanted_none rfl)]
            have e2 : a.eval (.tmp 2) = .slice A n c := hf 2 (by kernel_rfl)
            refine wp_value (v := .slice A n c) ?_ (hK _ _ rfl (grown_refl W _))
            simp only [execOp, e2]
            try go_simp
            try (first | rfl | omega | (simp only [IntKind.wrap_i64, IntKind.wrap_u8, IntKind.wrap_u64, IntKind.wrap_u16, IntKind.wrap_u32]; omega) | (rw [Int.tmod_eq_emod_of_nonneg (by omega)]) | (rw [Int.tmod_eq_emod_of_nonneg (by omega)]; omega))
          · intro a vs W hX hR he hf K hK
            rw [if_pos (wanted_none rfl)]
            have e42 : a.eval (.tmp 42) = .slice A n c := (he 1 42 (by kernel_rfl) rfl).trans (hR 1 (by kernel_rfl))
            have f42 := e42
            simp only [Act.eval, Array.getD_eq_getD_getElem?] at f42
            obtain ⟨b, o, rfl, _, _⟩ := HO.out.row.2 (show 0 < n by omega)
            have hc1 : ¬ (c : Int) < 1 := by have h9 : n ≤ c := HO.out.le; omega
            refine wp_value (v := _) ?_ (hK _ _ rfl (grown_refl W _))
            simp only [execOp, e42]
            go_simp
          · intro a vs W hX hR he hf K hK
            rw [if_pos (wanted_none rfl)]
            have e43 : a.eval (.tmp 43) = .slice A 1 c := (he 2 43 (by kernel_rfl) rfl).trans (hR 2 (by kernel_rfl))
            have hbW := bthen (below_drew _) (grow_below hX)
            have hrow := (HO.out.below hbW).row.take (k := 1) (show 1 ≤ n by omega)
            rw [Nat.mul_one] at hrow
            have hrow2 : Row W W.heap.size 1 A 1 (bv (l.take 1)) := by rw [bv, List.map_take]; exact hrow
            exact wp_value (exec_str 22 9 5 _ rfl Try.underlying22 Try.underlying5 Try.underlying9 A 1 c (l.take 1) e43 ⟨hrow2, Nat.le_trans (show 1 ≤ n by omega) HO.out.le, HO.out.cap⟩) (hK _ _ rfl (grown_refl W _))
          · intro a vs W hX hR he hf K hK
            rw [if_pos (wanted_none rfl)]
            have e41 : a.eval (.tmp 41) = .agg h.cells.toArray := (he 0 41 (by kernel_rfl) rfl).trans (hR 0 (by kernel_rfl))
            have e44 : a.eval (.tmp 44) = str (l.take 1) := (he 3 44 (by kernel_rfl) rfl).trans (hR 3 (by kernel_rfl))
            refine wp_enter (f := 16) (args := #[.agg h.cells.toArray, str (l.take 1)]) (by simp only [execOp, e41, e44]; go_simp; exact ⟨by simpa [Act.eval] using e41, by simpa [Act.eval] using e44⟩) ((R2.out W).mono ?_)
            rintro e w' ⟨rfl, hb⟩
            exact ⟨_, rfl, hK _ _ rfl (below_grow hb _)⟩
          · intro a vs W hX hR he hf K hK
            rw [if_pos (wanted_none rfl)]
            have e45 : a.eval (.tmp 45) = .tuple #[str P2, .int .i64 e2] := (he 4 45 (by kernel_rfl) rfl).trans (hR 4 (by kernel_rfl))
            refine wp_value (v := .tuple #[str P2, .int .i64 e2]) ?_ (hK _ _ rfl (grown_refl W _))
            simp only [execOp, e45]
            try go_simp
            try (first | rfl | omega | (simp only [IntKind.wrap_i64, IntKind.wrap_u8, IntKind.wrap_u64, IntKind.wrap_u16, IntKind.wrap_u32]; omega) | (rw [Int.tmod_eq_emod_of_nonneg (by omega)]) | (rw [Int.tmod_eq_emod_of_nonneg (by omega)]; omega))
          · intro a vs W hX hR he hf K hK
            rw [if_pos (wanted_none rfl)]
            have e40 : a.eval (.tmp 40) = .tuple #[str P2, .int .i64 e2] := (he 5 40 (by kernel_rfl) rfl).trans (hR 5 (by kernel_rfl))
            refine wp_value (v := str P2) ?_ (hK _ _ rfl (grown_refl W _))
            simp only [execOp, e40]
            try go_simp
            try (first | rfl | omega | (simp only [IntKind.wrap_i64, IntKind.wrap_u8, IntKind.wrap_u64, IntKind.wrap_u16, IntKind.wrap_u32]; omega) | (rw [Int.tmod_eq_emod_of_nonneg (by omega)]) | (rw [Int.tmod_eq_emod_of_nonneg (by omega)]; omega))
          · intro a vs W hX hR he hf K hK
            rw [if_pos (wanted_none rfl)]
            have e40 : a.eval (.tmp 40) = .tuple #[str P2, .int .i64 e2] := (he 5 40 (by kernel_rfl) rfl).trans (hR 5 (by kernel_rfl))
            refine wp_value (v := .int .i64 e2) ?_ (hK _ _ rfl (grown_refl W _))
            simp only [execOp, e40]
            try go_simp
            try (first | rfl | omega | (simp only [IntKind.wrap_i64, IntKind.wrap_u8, IntKind.wrap_u64, IntKind.wrap_u16, IntKind.wrap_u32]; omega) | (rw [Int.tmod_eq_emod_of_nonneg (by omega)]) | (rw [Int.tmod_eq_emod_of_nonneg (by omega)]; omega))
          · intro a vs W hX hR he hf K hK
            rw [if_pos (wanted_none rfl)]
            have e46 : a.eval (.tmp 46) = str P2 := (he 6 46 (by kernel_rfl) rfl).trans (hR 6 (by kernel_rfl))
            refine wp_value (v := str P2) ?_ (hK _ _ rfl (grown_refl W _))
            simp only [execOp, e46]
            try go_simp
            try (first | rfl | omega | (simp only [IntKind.wrap_i64, IntKind.wrap_u8, IntKind.wrap_u64, IntKind.wrap_u16, IntKind.wrap_u32]; omega) | (rw [Int.tmod_eq_emod_of_nonneg (by omega)]) | (rw [Int.tmod_eq_emod_of_nonneg (by omega)]; omega))
          · intro a vs W hX hR he hf K hK
            rw [if_pos (wanted_none rfl)]
            have e47 : a.eval (.tmp 47) = .int .i64 e2 := (he 7 47 (by kernel_rfl) rfl).trans (hR 7 (by kernel_rfl))
            refine wp_value (v := .int .i64 e2) ?_ (hK _ _ rfl (grown_refl W _))
            simp only [execOp, e47]
            try go_simp
            try (first | rfl | omega | (simp only [IntKind.wrap_i64, IntKind.wrap_u8, IntKind.wrap_u64, IntKind.wrap_u16, IntKind.wrap_u32]; omega) | (rw [Int.tmod_eq_emod_of_nonneg (by omega)]) | (rw [Int.tmod_eq_emod_of_nonneg (by omega)]; omega))
          · intro vs w5 hX5 hR
            have q0 := hR 0 (by decide)
            have q1 := hR 1 (by decide)
            have q2 := hR 2 (by decide)
            have q3 := hR 3 (by decide)
            have q4 := hR 4 (by decide)
            have q5 := hR 5 (by decide)
            have q6 := hR 6 (by decide)
            have q7 := hR 7 (by decide)
            have q8 := hR 8 (by decide)
            have q9 := hR 9 (by decide)
            change vs 0 = .agg h.cells.toArray at q0
            change vs 1 = .slice A n c at q1
            change vs 2 = .slice A 1 c at q2
            change vs 3 = str (l.take 1) at q3
            change vs 4 = .tuple #[str P2, .int .i64 e2] at q4
            change vs 5 = .tuple #[str P2, .int .i64 e2] at q5
            change vs 6 = str P2 at q6
            change vs 7 = .int .i64 e2 at q7
            change vs 8 = str P2 at q8
            change vs 9 = .int .i64 e2 at q9
            simp only [putAll, Act.put, List.setIfInBounds_toArray, List.set_cons_zero, List.set_cons_succ, q0, q1, q2, q3, q4, q5, q6, q7, q8, q9]
            clear q0 q1 q2 q3 q4 q5 q6 q7 q8 q9
            clear hR
            have hb := bthen (below_drew w4) (grow_below hX5)
            clear hX5
            replace HW := Lib.hid (bthen HW.out hb)
            replace HO := Lib.hid (HO.out.below hb)
            replace HB := Lib.hid (HB.out.on hb)
            replace HG := Lib.hid (HG.out.on hb)
            clear hb
            go_wp2_with (first
              | (refine wpList_load_blk (by rfl) 44 (.tmp 4) (by rfl) (w.heap.size + 1) (by rfl) 44 _ _ HG.out Try.underlying44 rfl (size6 _ GF.out.ok) ?_)
              | (refine wpList_str (by rfl) (.tmp 50) 22 9 5 rfl Try.underlying22 Try.underlying5 Try.underlying9 _ A n c l (by rfl) HO.out.row ?_))
            refine (R3.out w5).mono ?_
            rintro e w6 ⟨rfl, hb⟩
            replace HW := Lib.hid (bthen HW.out hb)
            replace HO := Lib.hid (HO.out.below hb)
            replace HB := Lib.hid (HB.out.on hb)
            replace HG := Lib.hid (HG.out.on hb)
            clear hb
            go_wp2_with fail
            refine wp_region_rel (fun A B => A.grownBy B none) (fun A => grown_refl A _) (fun A B C h k => grown_trans h k) (relAt (List.cons (fun v _ => v = .agg g.cells.toArray) (List.cons (fun v _ => v = .slice A n c) (List.cons (fun v _ => v = .slice A 1 c) (List.cons (fun v _ => v = str (l.take 1)) (List.cons (fun v _ => v = .tuple #[str P4, .int .i64 e4]) (List.cons (fun v _ => v = .tuple #[str P4, .int .i64 e4]) (List.cons (fun v _ => v = str P4) (List.cons (fun v _ => v = .int .i64 e4) (List.cons (fun v _ => v = str P4) (List.cons (fun v _ => v = .int .i64 e4) ([])))))))))))) (MonoL.at_ (.cons (mono_val _) (.cons (mono_val _) (.cons (mono_val _) (.cons (mono_val _) (.cons (mono_val _) (.cons (mono_val _) (.cons (mono_val _) (.cons (mono_val _) (.cons (mono_val _) (.cons (mono_val _) .nil))))))))))) (by kernel_rfl) (by kernel_rfl) ⟨?_, ?_, ?_, ?_, ?_, ?_, ?_, ?_, ?_, ?_, trivial⟩ ?_
            · intro a vs W hX hR he hf K hK
              rw [if_pos (wanted_none rfl)]
              have e4 : a.eval (.tmp 4) = .pointer (some ⟨w.heap.size + 1, 0, none⟩) := hf 4 (by kernel_rfl)
              have hbW := bthen (below_drew _) (grow_below hX)
              exact wp_value (exec_load 44 _ rfl (w.heap.size + 1) e4 44 g.cells _ (HG.out.on hbW) Try.underlying44 rfl (size6 _ GF.out.ok)) (hK _ _ rfl (grown_refl W _))
            · intro a vs W hX hR he hf K hK
              rw [if_pos (wanted_none rfl)]
              have e2 : a.eval (.tmp 2) = .slice A n c := hf 2 (by kernel_rfl)
              refine wp_value (v := .slice A n c) ?_ (hK _ _ rfl (grown_refl W _))
              simp only [execOp, e2]
              try go_simp
              try (first | rfl | omega | (simp only [IntKind.wrap_i64, IntKind.wrap_u8, IntKind.wrap_u64, IntKind.wrap_u16, IntKind.wrap_u32]; omega) | (rw [Int.tmod_eq_emod_of_nonneg (by omega)]) | (rw [Int.tmod_eq_emod_of_nonneg (by omega)]; omega))
            · intro a vs W hX hR he hf K hK
              rw [if_pos (wanted_none rfl)]
              have e57 : a.eval (.tmp 57) = .slice A n c := (he 1 57 (by kernel_rfl) rfl).trans (hR 1 (by kernel_rfl))
              have f57 := e57
              simp only [Act.eval, Array.getD_eq_getD_getElem?] at f57
              obtain ⟨b, o, rfl, _, _⟩ := HO.out.row.2 (show 0 < n by omega)
              have hc1 : ¬ (c : Int) < 1 := by have h9 : n ≤ c := HO.out.le; omega
              refine wp_value (v := _) ?_ (hK _ _ rfl (grown_refl W _))
              simp only [execOp, e57]
              go_simp
            · intro a vs W hX hR he hf K hK
              rw [if_pos (wanted_none rfl)]
              have e58 : a.eval (.tmp 58) = .slice A 1 c := (he 2 58 (by kernel_rfl) rfl).trans (hR 2 (by kernel_rfl))
              have hbW := bthen (below_drew _) (grow_below hX)
              have hrow := (HO.out.below hbW).row.take (k := 1) (show 1 ≤ n by omega)
              rw [Nat.mul_one] at hrow
              have hrow2 : Row W W.heap.size 1 A 1 (bv (l.take 1)) := by rw [bv, List.map_take]; exact hrow
              exact wp_value (exec_str 22 9 5 _ rfl Try.underlying22 Try.underlying5 Try.underlying9 A 1 c (l.take 1) e58 ⟨hrow2, Nat.le_trans (show 1 ≤ n by omega) HO.out.le, HO.out.cap⟩) (hK _ _ rfl (grown_refl W _))
            · intro a vs W hX hR he hf K hK
              rw [if_pos (wanted_none rfl)]
              have e56 : a.eval (.tmp 56) = .agg g.cells.toArray := (he 0 56 (by kernel_rfl) rfl).trans (hR 0 (by kernel_rfl))
              have e59 : a.eval (.tmp 59) = str (l.take 1) := (he 3 59 (by kernel_rfl) rfl).trans (hR 3 (by kernel_rfl))
              refine wp_enter (f := 17) (args := #[.agg g.cells.toArray, str (l.take 1)]) (by simp only [execOp, e56, e59]; go_simp; exact ⟨by simpa [Act.eval] using e56, by simpa [Act.eval] using e59⟩) ((R4.out W).mono ?_)
              rintro e w' ⟨rfl, hb⟩
              exact ⟨_, rfl, hK _ _ rfl (below_grow hb _)⟩
            · intro a vs W hX hR he hf K hK
              rw [if_pos (wanted_none rfl)]
              have e60 : a.eval (.tmp 60) = .tuple #[str P4, .int .i64 e4] := (he 4 60 (by kernel_rfl) rfl).trans (hR 4 (by kernel_rfl))
              refine wp_value (v := .tuple #[str P4, .int .i64 e4]) ?_ (hK _ _ rfl (grown_refl W _))
              simp only [execOp, e60]
              try go_simp
              try (first | rfl | omega | (simp only [IntKind.wrap_i64, IntKind.wrap_u8, IntKind.wrap_u64, IntKind.wrap_u16, IntKind.wrap_u32]; omega) | (rw [Int.tmod_eq_emod_of_nonneg (by omega)]) | (rw [Int.tmod_eq_emod_of_nonneg (by omega)]; omega))
            · intro a vs W hX hR he hf K hK
              rw [if_pos (wanted_none rfl)]
              have e55 : a.eval (.tmp 55) = .tuple #[str P4, .int .i64 e4] := (he 5 55 (by kernel_rfl) rfl).trans (hR 5 (by kernel_rfl))
              refine wp_value (v := str P4) ?_ (hK _ _ rfl (grown_refl W _))
              simp only [execOp, e55]
              try go_simp
              try (first | rfl | omega | (simp only [IntKind.wrap_i64, IntKind.wrap_u8, IntKind.wrap_u64, IntKind.wrap_u16, IntKind.wrap_u32]; omega) | (rw [Int.tmod_eq_emod_of_nonneg (by omega)]) | (rw [Int.tmod_eq_emod_of_nonneg (by omega)]; omega))
            · intro a vs W hX hR he hf K hK
              rw [if_pos (wanted_none rfl)]
              have e55 : a.eval (.tmp 55) = .tuple #[str P4, .int .i64 e4] := (he 5 55 (by kernel_rfl) rfl).trans (hR 5 (by kernel_rfl))
              refine wp_value (v := .int .i64 e4) ?_ (hK _ _ rfl (grown_refl W _))
              simp only [execOp, e55]
              try go_simp
              try (first | rfl | omega | (simp only [IntKind.wrap_i64, IntKind.wrap_u8, IntKind.wrap_u64, IntKind.wrap_u16, IntKind.wrap_u32]; omega) | (rw [Int.tmod_eq_emod_of_nonneg (by omega)]) | (rw [Int.tmod_eq_emod_of_nonneg (by omega)]; omega))
            · intro a vs W hX hR he hf K hK
              rw [if_pos (wanted_none rfl)]
              have e61 : a.eval (.tmp 61) = str P4 := (he 6 61 (by kernel_rfl) rfl).trans (hR 6 (by kernel_rfl))
              refine wp_value (v := str P4) ?_ (hK _ _ rfl (grown_refl W _))
              simp only [execOp, e61]
              try go_simp
              try (first | rfl | omega | (simp only [IntKind.wrap_i64, IntKind.wrap_u8, IntKind.wrap_u64, IntKind.wrap_u16, IntKind.wrap_u32]; omega) | (rw [Int.tmod_eq_emod_of_nonneg (by omega)]) | (rw [Int.tmod_eq_emod_of_nonneg (by omega)]; omega))
            · intro a vs W hX hR he hf K hK
              rw [if_pos (wanted_none rfl)]
              have e62 : a.eval (.tmp 62) = .int .i64 e4 := (he 7 62 (by kernel_rfl) rfl).trans (hR 7 (by kernel_rfl))
              refine wp_value (v := .int .i64 e4) ?_ (hK _ _ rfl (grown_refl W _))
              simp only [execOp, e62]
              try go_simp
              try (first | rfl | omega | (simp only [IntKind.wrap_i64, IntKind.wrap_u8, IntKind.wrap_u64, IntKind.wrap_u16, IntKind.wrap_u32]; omega) | (rw [Int.tmod_eq_emod_of_nonneg (by omega)]) | (rw [Int.tmod_eq_emod_of_nonneg (by omega)]; omega))
            · intro vs w7 hX7 hR
              have q0 := hR 0 (by decide)
              have q1 := hR 1 (by decide)
              have q2 := hR 2 (by decide)
              have q3 := hR 3 (by decide)
              have q4 := hR 4 (by decide)
              have q5 := hR 5 (by decide)
              have q6 := hR 6 (by decide)
              have q7 := hR 7 (by decide)
              have q8 := hR 8 (by decide)
              have q9 := hR 9 (by decide)
              change vs 0 = .agg g.cells.toArray at q0
              change vs 1 = .slice A n c at q1
              change vs 2 = .slice A 1 c at q2
              change vs 3 = str (l.take 1) at q3
              change vs 4 = .tuple #[str P4, .int .i64 e4] at q4
              change vs 5 = .tuple #[str P4, .int .i64 e4] at q5
              change vs 6 = str P4 at q6
              change vs 7 = .int .i64 e4 at q7
              change vs 8 = str P4 at q8
              change vs 9 = .int .i64 e4 at q9
              simp only [putAll, Act.put, List.setIfInBounds_toArray, List.set_cons_zero, List.set_cons_succ, q0, q1, q2, q3, q4, q5, q6, q7, q8, q9]
              clear q0 q1 q2 q3 q4 q5 q6 q7 q8 q9
              clear hR
              have hb := bthen (below_drew w6) (grow_below hX7)
              clear hX7
              replace HW := Lib.hid (bthen HW.out hb)
              replace HO := Lib.hid (HO.out.below hb)
              replace HB := Lib.hid (HB.out.on hb)
              replace HG := Lib.hid (HG.out.on hb)
              clear hb
              first
                | (have z1' : (e1 != 0) = true := by simpa [bne] using z1
                   go_wp2_with fail
                   go_ret
                   exact ⟨rfl, HW.out⟩)
                | (have z2' : (e2 != 0) = true := by simpa [bne] using z2
                   go_wp2_with fail
                   go_ret
                   exact ⟨rfl, HW.out⟩)
                | (have z3' : (e3 != 0) = true := by simpa [bne] using z3
                   go_wp2_with fail
                   go_ret
                   exact ⟨rfl, HW.out⟩)
                | (have z4' : (e4 != 0) = true := by simpa [bne] using z4
                   go_wp2_with fail
                   go_ret
                   exact ⟨rfl, HW.out⟩)
                | (obtain ⟨bf, bs, be, bg, n1, n2, n3, n4⟩ := HL.out z1 z2 z3 z4
                   have BF := Lib.hid bf
                   have BS := Lib.hid bs
                   have BE := Lib.hid be
                   have BG := Lib.hid bg
                   have N1 := Lib.hid n1
                   have N2 := Lib.hid n2
                   have N3 := Lib.hid n3
                   have N4 := Lib.hid n4
                   clear bf bs be bg n1 n2 n3 n4 HL
                   go_wp2_with (refine wpList_toBytes (by rfl) _ 9 22 5 rfl Try.underlying22 Try.underlying5 Try.underlying9 P1 rfl ?_ (by have := N1.out; simp only [maxLen]; omega); intro A10 c10 w10 hr hb2 hc hm)
                   replace HW := Lib.hid (bthen HW.out hb2)
                   clear hb2
                   refine (permFour_any A10 P1.length c10 P1 w10 hr hc hm (by have := N1.out; omega)).mono ?_
                   rintro e w11 ⟨rfl, hb⟩
                   replace HW := Lib.hid (bthen HW.out hb)
                   clear hb hr hc hm
                   go_wp2_with (refine wpList_toBytes (by rfl) _ 9 22 5 rfl Try.underlying22 Try.underlying5 Try.underlying9 P2 rfl ?_ (by have := N2.out; simp only [maxLen]; omega); intro A12 c12 w12 hr hb2 hc hm)
                   replace HW := Lib.hid (bthen HW.out hb2)
                   clear hb2
                   refine (permFour_any A12 P2.length c12 P2 w12 hr hc hm (by have := N2.out; omega)).mono ?_
                   rintro e w13 ⟨rfl, hb⟩
                   rw [← BF.out]
                   replace HW := Lib.hid (bthen HW.out hb)
                   clear hb hr hc hm
                   go_wp2_with (refine wpList_toBytes (by rfl) _ 9 22 5 rfl Try.underlying22 Try.underlying5 Try.underlying9 P3 rfl ?_ (by have := N3.out; simp only [maxLen]; omega); intro A14 c14 w14 hr hb2 hc hm)
                   replace HW := Lib.hid (bthen HW.out hb2)
                   clear hb2
                   refine (permSix_any A14 P3.length c14 P3 false w14 hr hc hm (by have := N3.out; omega)).mono ?_
                   rintro e w15 ⟨rfl, hb⟩
                   replace HW := Lib.hid (bthen HW.out hb)
                   clear hb hr hc hm
                   go_wp2_with (refine wpList_toBytes (by rfl) _ 9 22 5 rfl Try.underlying22 Try.underlying5 Try.underlying9 P4 rfl ?_ (by have := N4.out; simp only [maxLen]; omega); intro A16 c16 w16 hr hb2 hc hm)
                   replace HW := Lib.hid (bthen HW.out hb2)
                   clear hb2
                   refine (permSix_any A16 P4.length c16 P4 false w16 hr hc hm (by have := N4.out; omega)).mono ?_
                   rintro e w17 ⟨rfl, hb⟩
                   rw [← BS.out false]
                   replace HW := Lib.hid (bthen HW.out hb)
                   clear hb hr hc hm
                   go_wp2_with (refine wpList_toBytes (by rfl) _ 9 22 5 rfl Try.underlying22 Try.underlying5 Try.underlying9 P3 rfl ?_ (by have := N3.out; simp only [maxLen]; omega); intro A18 c18 w18 hr hb2 hc hm)
                   replace HW := Lib.hid (bthen HW.out hb2)
                   clear hb2
                   refine (permSix_any A18 P3.length c18 P3 true w18 hr hc hm (by have := N3.out; omega)).mono ?_
                   rintro e w19 ⟨rfl, hb⟩
                   replace HW := Lib.hid (bthen HW.out hb)
                   clear hb hr hc hm
                   go_wp2_with (refine wpList_toBytes (by rfl) _ 9 22 5 rfl Try.underlying22 Try.underlying5 Try.underlying9 P4 rfl ?_ (by have := N4.out; simp only [maxLen]; omega); intro A20 c20 w20 hr hb2 hc hm)
                   replace HW := Lib.hid (bthen HW.out hb2)
                   clear hb2
                   refine (permSix_any A20 P4.length c20 P4 true w20 hr hc hm (by have := N4.out; omega)).mono ?_
                   rintro e w21 ⟨rfl, hb⟩
                   rw [← BS.out true]
                   replace HW := Lib.hid (bthen HW.out hb)
                   clear hb hr hc hm
                   go_wp2_with (refine wpList_toBytes (by rfl) _ 9 22 5 rfl Try.underlying22 Try.underlying5 Try.underlying9 P1 rfl ?_ (by have := N1.out; simp only [maxLen]; omega); intro A22 c22 w22 hr hb2 hc hm)
                   replace HW := Lib.hid (bthen HW.out hb2)
                   clear hb2
                   refine (either_any A22 P1.length c22 P1 w22 hr hc hm (by have := N1.out; omega)).mono ?_
                   rintro e w23 ⟨rfl, hb⟩
                   rw [BE.out]
                   replace HW := Lib.hid (bthen HW.out hb)
                   clear hb hr hc hm
                   go_wp2_with (refine wpList_toBytes (by rfl) _ 9 22 5 rfl Try.underlying22 Try.underlying5 Try.underlying9 P4 rfl ?_ (by have := N4.out; simp only [maxLen]; omega); intro A24 c24 w24 hr hb2 hc hm)
                   replace HW := Lib.hid (bthen HW.out hb2)
                   clear hb2
                   refine (either_any A24 P4.length c24 P4 w24 hr hc hm (by have := N4.out; omega)).mono ?_
                   rintro e w25 ⟨rfl, hb⟩
                   rw [BG.out]
                   replace HW := Lib.hid (bthen HW.out hb)
                   clear hb hr hc hm
                   go_wp2_with fail
                   go_ret
                   exact ⟨rfl, HW.out⟩)
      · have ho' : (100 : Int) < (h.opt.length : Int) := by omega
        go_enter Try.func5, Try.ntmps5
        go_wp2_with (first
          | (refine wpList_box_blk rfl 42 _ rfl h.cells rfl ?_; intro w1 hk1 hB1 hs1)
          | (refine wpList_box_blk rfl 44 _ rfl g.cells rfl ?_; intro w2 hk2 hB2 hs2))
        have hB12 := bthen hB1 hB2
        have hk12 := hk1.on hB2
        rw [hs1] at hk2
        refine (awake_any w2).mono ?_
        rintro e w3 ⟨rfl, hb3⟩
        have hB3 := bthen hB12 hb3
        have ho3 := hb.below hB3
        have ck := (hk12.on hb3).cell 16
        rw [h.get_opt hf.ok] at ck
        go_wp2_with fail
        go_ret
        exact ⟨rfl, hB3⟩
  · have hs' : (500 : Int) < (n : Int) := by omega
    go_enter Try.func5, Try.ntmps5
    go_wp2_with (first
      | (refine wpList_box_blk rfl 42 _ rfl h.cells rfl ?_; intro w1 hk1 hB1 hs1)
      | (refine wpList_box_blk rfl 44 _ rfl g.cells rfl ?_; intro w2 hk2 hB2 hs2))
    have hB12 := bthen hB1 hB2
    have hk12 := hk1.on hB2
    rw [hs1] at hk2
    refine (awake_any w2).mono ?_
    rintro e w3 ⟨rfl, hb3⟩
    have hB3 := bthen hB12 hb3
    have ho3 := hb.below hB3
    have ck := (hk12.on hb3).cell 16
    rw [h.get_opt hf.ok] at ck
    go_wp2_with fail
    go_ret
    exact ⟨rfl, hB3⟩
end Go.Proofs.Ytimkgkokidhhpaa

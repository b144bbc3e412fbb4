/- The walks of layer 4 (ip4): Parses, Puts, Ttl. No condition but those of the rows. -/
import Derived.Test.YtehidnfkogfaoaaLaw04
import Derived.Test.YtehidnfkogfaoaaOpenH4
namespace Go.Proofs.Ytehidnfkogfaoaa
open Go.RowKit
set_option linter.unusedVariables false
set_option linter.unusedSimpArgs false

set_option maxHeartbeats 4000000 in
theorem walk_Ip4Parses (w : World) (b : Bs) (hb : b.ok w) : Calls Try.prog 3 #[b.v] w fun e w' => e = .returned (.bool true) ∧ Below w.heap.size w w' := by
  obtain ⟨A, n, c, l⟩ := b
  have hll := hb.len
  simp only [Bs.v] at hll ⊢
  by_cases hs : n ≤ 2000
  · have hs' : ¬ (2000 : Int) < (n : Int) := by omega
    have HO := Lib.hid hb
    clear hb
    go_enter Try.func3, Try.ntmps3
    go_wp2_with fail
    refine (awake_any w).mono ?_
    rintro e w1 ⟨rfl, hb1⟩
    have HW := Lib.hid hb1
    replace HO := Lib.hid (HO.out.below hb1)
    clear hb1
    go_wp2_with fail
    refine (parse4_any A n c l w1 HO.out.row HO.out.le HO.out.cap (by omega)).mono ?_
    rintro e w2 ⟨rfl, hb2⟩
    replace HW := Lib.hid (bthen HW.out hb2)
    replace HO := Lib.hid (HO.out.below hb2)
    clear hb2
    go_wp2_with (first
    | (refine wpList_alloc_blk rfl 27 rfl H4.zero.cells zero4 ?_; intro w3 hbw3 hBw3 hsw3)
    | (refine wpList_store_all rfl 27 _ _ rfl w2.heap.size (par4 l).1.cells rfl rfl 27 _ hbw3 (size4 _ (par4_ok l)) (H4.cells_same _ _ (par4_ok l) H4.zero_ok) (H4.one _) ?_; intro w4 hbw4 hgw4 hsw4; have hBw4 : Below w2.heap.size w2 w4 := bgrown hBw3 hgw4 (by omega) (by omega)); replace HO := Lib.hid (HO.out.below hBw4); replace HW := Lib.hid (bthen HW.out hBw4); have HB4 := Lib.hid hbw4
    | (refine wpList_str (by rfl) (.tmp 20) 22 9 5 rfl Try.underlying22 Try.underlying5 Try.underlying9 _ A n c l (by rfl) HO.out.row ?_))
    clear hBw3 hsw3 hBw4 hgw4 hsw4 hbw4
    refine (rparse4_any l w4 (by omega)).mono ?_
    rintro e w5 ⟨rfl, hb5⟩
    replace HW := Lib.hid (bthen HW.out hb5)
    replace HO := Lib.hid (HO.out.below hb5)
    replace HB4 := Lib.hid (HB4.out.on hb5)
    clear hb5
    go_wp2_with (first
    | (refine wpList_alloc_blk rfl 27 rfl H4.zero.cells zero4 ?_; intro w6 hbw6 hBw6 hsw6)
    | (refine wpList_store_all rfl 27 _ _ rfl w5.heap.size (par4 l).1.cells rfl rfl 27 _ hbw6 (size4 _ (par4_ok l)) (H4.cells_same _ _ (par4_ok l) H4.zero_ok) (H4.one _) ?_; intro w7 hbw7 hgw7 hsw7; have hBw7 : Below w5.heap.size w5 w7 := bgrown hBw6 hgw7 (by omega) (by omega)))
    replace HO := Lib.hid (HO.out.below hBw7)
    replace HW := Lib.hid (bthen HW.out hBw7)
    replace HB4 := Lib.hid (HB4.out.on hBw7)
    clear hBw6 hsw6 hBw7 hgw7 hsw7
    refine wp_region_rel (fun A B => A.grownBy B none) (fun A => grown_refl A _) (fun A B C h k => grown_trans h k) (relAt (List.cons (fun v _ => v = .agg (par4 l).1.cells.toArray) (List.cons (fun v _ => v = .agg (par4 l).1.cells.toArray) (List.cons (fun v _ => v = .bool true) (List.cons (fun v _ => v = .bool true) (List.cons (fun v _ => v = .int .i64 (par4 l).2) (List.cons (fun v _ => v = .int .i64 (par4 l).2) (List.cons (fun v _ => v = .bool true) (List.cons (fun v _ => v = .bool true) (List.cons (fun v _ => v = .bool true) (List.cons (fun v _ => v = .slice A n c) (List.cons (BsR (body4 l)) (List.cons (fun v _ => v = str (body4 l)) (List.cons (fun v _ => v = .slice A n c) (List.cons (fun v _ => v = str l) (List.cons (fun v _ => v = str (body4 l)) (List.cons (fun v _ => v = .bool true) (List.cons (fun v _ => v = .bool true) (List.cons (fun v _ => v = .bool true) ([])))))))))))))))))))) (MonoL.at_ (.cons (mono_val _) (.cons (mono_val _) (.cons (mono_val _) (.cons (mono_val _) (.cons (mono_val _) (.cons (mono_val _) (.cons (mono_val _) (.cons (mono_val _) (.cons (mono_val _) (.cons (mono_val _) (.cons (mono_bs _) (.cons (mono_val _) (.cons (mono_val _) (.cons (mono_val _) (.cons (mono_val _) (.cons (mono_val _) (.cons (mono_val _) (.cons (mono_val _) .nil))))))))))))))))))) (by kernel_rfl) (by kernel_rfl) ⟨?_, ?_, ?_, ?_, ?_, ?_, ?_, ?_, ?_, ?_, ?_, ?_, ?_, ?_, ?_, ?_, ?_, ?_, trivial⟩ ?_
    · intro a vs W hX hR he hf K hK
      rw [if_pos (wanted_none rfl)]
      have e4 : a.eval (.tmp 4) = .pointer (some ⟨w2.heap.size, 0, none⟩) := hf 4 (by kernel_rfl)
      have hbW := bthen (below_drew _) (grow_below hX)
      exact wp_value (exec_load 27 _ rfl w2.heap.size e4 27 (par4 l).1.cells _ (HB4.out.on hbW) Try.underlying27 rfl (size4 _ (par4_ok l))) (hK _ _ rfl (grown_refl W _))
    · intro a vs W hX hR he hf K hK
      rw [if_pos (wanted_none rfl)]
      have e6 : a.eval (.tmp 6) = .pointer (some ⟨w5.heap.size, 0, none⟩) := hf 6 (by kernel_rfl)
      have hbW := bthen (below_drew _) (grow_below hX)
      exact wp_value (exec_load 27 _ rfl w5.heap.size e6 27 (par4 l).1.cells _ (hbw7.on hbW) Try.underlying27 rfl (size4 _ (par4_ok l))) (hK _ _ rfl (grown_refl W _))
    · intro a vs W hX hR he hf K hK
      rw [if_pos (wanted_none rfl)]
      have e25 : a.eval (.tmp 25) = .agg (par4 l).1.cells.toArray := (he 0 25 (by kernel_rfl) rfl).trans (hR 0 (by kernel_rfl))
      have e26 : a.eval (.tmp 26) = .agg (par4 l).1.cells.toArray := (he 1 26 (by kernel_rfl) rfl).trans (hR 1 (by kernel_rfl))
      exact wp_value (exec_eq4 _ _ _ rfl (par4 l).1 (par4_ok l) e25 e26) (hK _ _ rfl (grown_refl W _))
    · intro a vs W hX hR he hf K hK
      rw [if_pos (wanted_none rfl)]
      have e27 : a.eval (.tmp 27) = .bool true := (he 2 27 (by kernel_rfl) rfl).trans (hR 2 (by kernel_rfl))
      refine wp_value (v := .bool true) ?_ (hK _ _ rfl (grown_refl W _))
      simp only [execOp, e27]
      try go_simp
      try (first | rfl | omega | (simp only [IntKind.wrap_i64, IntKind.wrap_u8, IntKind.wrap_u64, IntKind.wrap_u16, IntKind.wrap_u32]; omega) | (rw [Int.tmod_eq_emod_of_nonneg (by omega)]) | (rw [Int.tmod_eq_emod_of_nonneg (by omega)]; omega))
    · intro a vs W hX hR he hf K hK
      have e28 : a.eval (.tmp 28) = .bool true := (he 3 28 (by kernel_rfl) rfl).trans (hR 3 (by kernel_rfl))
      refine Eq.mpr (if_pos (by exact (wanted_some rfl rfl e28).trans rfl)) ?_
      have e5 : a.eval (.tmp 5) = .int .i64 (par4 l).2 := hf 5 (by kernel_rfl)
      refine wp_value (v := .int .i64 (par4 l).2) ?_ (hK _ _ rfl (grown_refl W _))
      simp only [execOp, e5]
      try go_simp
      try (first | rfl | omega | (simp only [IntKind.wrap_i64, IntKind.wrap_u8, IntKind.wrap_u64, IntKind.wrap_u16, IntKind.wrap_u32]; omega) | (rw [Int.tmod_eq_emod_of_nonneg (by omega)]) | (rw [Int.tmod_eq_emod_of_nonneg (by omega)]; omega))
    · intro a vs W hX hR he hf K hK
      have e28 : a.eval (.tmp 28) = .bool true := (he 3 28 (by kernel_rfl) rfl).trans (hR 3 (by kernel_rfl))
      refine Eq.mpr (if_pos (by exact (wanted_some rfl rfl e28).trans rfl)) ?_
      have e7 : a.eval (.tmp 7) = .int .i64 (par4 l).2 := hf 7 (by kernel_rfl)
      refine wp_value (v := .int .i64 (par4 l).2) ?_ (hK _ _ rfl (grown_refl W _))
      simp only [execOp, e7]
      try go_simp
      try (first | rfl | omega | (simp only [IntKind.wrap_i64, IntKind.wrap_u8, IntKind.wrap_u64, IntKind.wrap_u16, IntKind.wrap_u32]; omega) | (rw [Int.tmod_eq_emod_of_nonneg (by omega)]) | (rw [Int.tmod_eq_emod_of_nonneg (by omega)]; omega))
    · intro a vs W hX hR he hf K hK
      have e28 : a.eval (.tmp 28) = .bool true := (he 3 28 (by kernel_rfl) rfl).trans (hR 3 (by kernel_rfl))
      refine Eq.mpr (if_pos (by exact (wanted_some rfl rfl e28).trans rfl)) ?_
      have e29 : a.eval (.tmp 29) = .int .i64 (par4 l).2 := (he 4 29 (by kernel_rfl) rfl).trans (hR 4 (by kernel_rfl))
      have e30 : a.eval (.tmp 30) = .int .i64 (par4 l).2 := (he 5 30 (by kernel_rfl) rfl).trans (hR 5 (by kernel_rfl))
      refine wp_value (v := .bool true) ?_ (hK _ _ rfl (grown_refl W _))
      simp only [execOp, e29, e30]
      try go_simp
      try (first | rfl | omega | (simp only [IntKind.wrap_i64, IntKind.wrap_u8, IntKind.wrap_u64, IntKind.wrap_u16, IntKind.wrap_u32]; omega) | (rw [Int.tmod_eq_emod_of_nonneg (by omega)]) | (rw [Int.tmod_eq_emod_of_nonneg (by omega)]; omega))
    · intro a vs W hX hR he hf K hK
      rw [if_pos (wanted_none rfl)]
      have e28 : a.eval (.tmp 28) = .bool true := (he 3 28 (by kernel_rfl) rfl).trans (hR 3 (by kernel_rfl))
      have e31 : a.eval (.tmp 31) = .bool true := (he 6 31 (by kernel_rfl) rfl).trans (hR 6 (by kernel_rfl))
      refine wp_value (v := .bool true) ?_ (hK _ _ rfl (grown_refl W _))
      simp only [execOp, e28, e31]
      try go_simp
      try (first | rfl | omega | (simp only [IntKind.wrap_i64, IntKind.wrap_u8, IntKind.wrap_u64, IntKind.wrap_u16, IntKind.wrap_u32]; omega) | (rw [Int.tmod_eq_emod_of_nonneg (by omega)]) | (rw [Int.tmod_eq_emod_of_nonneg (by omega)]; omega))
    · intro a vs W hX hR he hf K hK
      rw [if_pos (wanted_none rfl)]
      have e32 : a.eval (.tmp 32) = .bool true := (he 7 32 (by kernel_rfl) rfl).trans (hR 7 (by kernel_rfl))
      refine wp_value (v := .bool true) ?_ (hK _ _ rfl (grown_refl W _))
      simp only [execOp, e32]
      try go_simp
      try (first | rfl | omega | (simp only [IntKind.wrap_i64, IntKind.wrap_u8, IntKind.wrap_u64, IntKind.wrap_u16, IntKind.wrap_u32]; omega) | (rw [Int.tmod_eq_emod_of_nonneg (by omega)]) | (rw [Int.tmod_eq_emod_of_nonneg (by omega)]; omega))
    · intro a vs W hX hR he hf K hK
      have e33 : a.eval (.tmp 33) = .bool true := (he 8 33 (by kernel_rfl) rfl).trans (hR 8 (by kernel_rfl))
      refine Eq.mpr (if_pos (by exact (wanted_some rfl rfl e33).trans rfl)) ?_
      have e0 : a.eval (.tmp 0) = .slice A n c := hf 0 (by kernel_rfl)
      refine wp_value (v := .slice A n c) ?_ (hK _ _ rfl (grown_refl W _))
      simp only [execOp, e0]
      try go_simp
      try (first | rfl | omega | (simp only [IntKind.wrap_i64, IntKind.wrap_u8, IntKind.wrap_u64, IntKind.wrap_u16, IntKind.wrap_u32]; omega) | (rw [Int.tmod_eq_emod_of_nonneg (by omega)]) | (rw [Int.tmod_eq_emod_of_nonneg (by omega)]; omega))
    · intro a vs W hX hR he hf K hK
      have e33 : a.eval (.tmp 33) = .bool true := (he 8 33 (by kernel_rfl) rfl).trans (hR 8 (by kernel_rfl))
      refine Eq.mpr (if_pos (by exact (wanted_some rfl rfl e33).trans rfl)) ?_
      have e34 : a.eval (.tmp 34) = .slice A n c := (he 9 34 (by kernel_rfl) rfl).trans (hR 9 (by kernel_rfl))
      have hbW := bthen (below_drew _) (grow_below hX)
      have ho := HO.out.below hbW
      refine wp_enter (f := 12) (args := #[.slice A n c]) (by simp only [execOp, e34]; go_simp; simpa [Act.eval] using e34) ((body4_any A n c l W ho.row ho.le ho.cap (by omega)).mono ?_)
      rintro e w' ⟨⟨A', n', c', l'⟩, rfl, hl, ho', hb⟩
      simp only at hl
      subst hl
      exact ⟨_, rfl, hK _ _ ⟨_, _, _, rfl, ho'⟩ (below_grow hb _)⟩
    · intro a vs W hX hR he hf K hK
      have e33 : a.eval (.tmp 33) = .bool true := (he 8 33 (by kernel_rfl) rfl).trans (hR 8 (by kernel_rfl))
      refine Eq.mpr (if_pos (by exact (wanted_some rfl rfl e33).trans rfl)) ?_
      have e35 := he 10 35 (by kernel_rfl) rfl
      have p35 := hR 10 (by kernel_rfl)
      change (BsR (body4 l)) (vs 10) W at p35
      obtain ⟨A, n, c, hv, ho⟩ := p35
      rw [hv] at e35
      exact wp_value (exec_str 22 9 5 _ rfl Try.underlying22 Try.underlying5 Try.underlying9 A n c _ e35 ho) (hK _ _ rfl (grown_refl W _))
    · intro a vs W hX hR he hf K hK
      have e33 : a.eval (.tmp 33) = .bool true := (he 8 33 (by kernel_rfl) rfl).trans (hR 8 (by kernel_rfl))
      refine Eq.mpr (if_pos (by exact (wanted_some rfl rfl e33).trans rfl)) ?_
      have e0 : a.eval (.tmp 0) = .slice A n c := hf 0 (by kernel_rfl)
      refine wp_value (v := .slice A n c) ?_ (hK _ _ rfl (grown_refl W _))
      simp only [execOp, e0]
      try go_simp
      try (first | rfl | omega | (simp only [IntKind.wrap_i64, IntKind.wrap_u8, IntKind.wrap_u64, IntKind.wrap_u16, IntKind.wrap_u32]; omega) | (rw [Int.tmod_eq_emod_of_nonneg (by omega)]) | (rw [Int.tmod_eq_emod_of_nonneg (by omega)]; omega))
    · intro a vs W hX hR he hf K hK
      have e33 : a.eval (.tmp 33) = .bool true := (he 8 33 (by kernel_rfl) rfl).trans (hR 8 (by kernel_rfl))
      refine Eq.mpr (if_pos (by exact (wanted_some rfl rfl e33).trans rfl)) ?_
      have e37 : a.eval (.tmp 37) = .slice A n c := (he 12 37 (by kernel_rfl) rfl).trans (hR 12 (by kernel_rfl))
      have hbW := bthen (below_drew _) (grow_below hX)
      exact wp_value (exec_str 22 9 5 _ rfl Try.underlying22 Try.underlying5 Try.underlying9 A n c l e37 (HO.out.below hbW)) (hK _ _ rfl (grown_refl W _))
    · intro a vs W hX hR he hf K hK
      have e33 : a.eval (.tmp 33) = .bool true := (he 8 33 (by kernel_rfl) rfl).trans (hR 8 (by kernel_rfl))
      refine Eq.mpr (if_pos (by exact (wanted_some rfl rfl e33).trans rfl)) ?_
      have e38 : a.eval (.tmp 38) = str l := (he 13 38 (by kernel_rfl) rfl).trans (hR 13 (by kernel_rfl))
      refine wp_enter (f := 13) (args := #[str l]) (by simp only [execOp, e38]; go_simp; simpa [Act.eval] using e38) ((rbody4_any l W (by omega)).mono ?_)
      rintro e w' ⟨rfl, hb⟩
      exact ⟨_, rfl, hK _ _ rfl (below_grow hb _)⟩
    · intro a vs W hX hR he hf K hK
      have e33 : a.eval (.tmp 33) = .bool true := (he 8 33 (by kernel_rfl) rfl).trans (hR 8 (by kernel_rfl))
      refine Eq.mpr (if_pos (by exact (wanted_some rfl rfl e33).trans rfl)) ?_
      have e36 : a.eval (.tmp 36) = str (body4 l) := (he 11 36 (by kernel_rfl) rfl).trans (hR 11 (by kernel_rfl))
      have e39 : a.eval (.tmp 39) = str (body4 l) := (he 14 39 (by kernel_rfl) rfl).trans (hR 14 (by kernel_rfl))
      refine wp_value (v := .bool true) ?_ (hK _ _ rfl (grown_refl W _))
      simp only [execOp, e36, e39]
      try go_simp
      try (first | rfl | omega | (simp only [IntKind.wrap_i64, IntKind.wrap_u8, IntKind.wrap_u64, IntKind.wrap_u16, IntKind.wrap_u32]; omega) | (rw [Int.tmod_eq_emod_of_nonneg (by omega)]) | (rw [Int.tmod_eq_emod_of_nonneg (by omega)]; omega))
    · intro a vs W hX hR he hf K hK
      rw [if_pos (wanted_none rfl)]
      have e33 : a.eval (.tmp 33) = .bool true := (he 8 33 (by kernel_rfl) rfl).trans (hR 8 (by kernel_rfl))
      have e40 : a.eval (.tmp 40) = .bool true := (he 15 40 (by kernel_rfl) rfl).trans (hR 15 (by kernel_rfl))
      refine wp_value (v := .bool true) ?_ (hK _ _ rfl (grown_refl W _))
      simp only [execOp, e33, e40]
      try go_simp
      try (first | rfl | omega | (simp only [IntKind.wrap_i64, IntKind.wrap_u8, IntKind.wrap_u64, IntKind.wrap_u16, IntKind.wrap_u32]; omega) | (rw [Int.tmod_eq_emod_of_nonneg (by omega)]) | (rw [Int.tmod_eq_emod_of_nonneg (by omega)]; omega))
    · intro a vs W hX hR he hf K hK
      rw [if_pos (wanted_none rfl)]
      have e41 : a.eval (.tmp 41) = .bool true := (he 16 41 (by kernel_rfl) rfl).trans (hR 16 (by kernel_rfl))
      refine wp_value (v := .bool true) ?_ (hK _ _ rfl (grown_refl W _))
      simp only [execOp, e41]
      try go_simp
      try (first | rfl | omega | (simp only [IntKind.wrap_i64, IntKind.wrap_u8, IntKind.wrap_u64, IntKind.wrap_u16, IntKind.wrap_u32]; omega) | (rw [Int.tmod_eq_emod_of_nonneg (by omega)]) | (rw [Int.tmod_eq_emod_of_nonneg (by omega)]; omega))
    · intro vs w8 hX8 hR
      have q0 := hR 0 (by decide)
      have q1 := hR 1 (by decide)
      have q2 := hR 2 (by decide)
      have q3 := hR 3 (by decide)
      have q4 := hR 4 (by decide)
      have q5 := hR 5 (by decide)
      have q6 := hR 6 (by decide)
      have q7 := hR 7 (by decide)
      have q8 := hR 8 (by decide)
      have q9 := hR 9 (by decide)
      have q10 := hR 10 (by decide)
      have q11 := hR 11 (by decide)
      have q12 := hR 12 (by decide)
      have q13 := hR 13 (by decide)
      have q14 := hR 14 (by decide)
      have q15 := hR 15 (by decide)
      have q16 := hR 16 (by decide)
      have q17 := hR 17 (by decide)
      change vs 0 = .agg (par4 l).1.cells.toArray at q0
      change vs 1 = .agg (par4 l).1.cells.toArray at q1
      change vs 2 = .bool true at q2
      change vs 3 = .bool true at q3
      change vs 4 = .int .i64 (par4 l).2 at q4
      change vs 5 = .int .i64 (par4 l).2 at q5
      change vs 6 = .bool true at q6
      change vs 7 = .bool true at q7
      change vs 8 = .bool true at q8
      change vs 9 = .slice A n c at q9
      change (BsR (body4 l)) (vs 10) w8 at q10
      change vs 11 = str (body4 l) at q11
      change vs 12 = .slice A n c at q12
      change vs 13 = str l at q13
      change vs 14 = str (body4 l) at q14
      change vs 15 = .bool true at q15
      change vs 16 = .bool true at q16
      change vs 17 = .bool true at q17
      simp only [putAll, Act.put, List.setIfInBounds_toArray, List.set_cons_zero, List.set_cons_succ, q0, q1, q2, q3, q4, q5, q6, q7, q8, q9, q11, q12, q13, q14, q15, q16, q17]
      clear q0 q1 q2 q3 q4 q5 q6 q7 q8 q9 q11 q12 q13 q14 q15 q16 q17
      clear hR
      go_wp2
      go_ret
      exact ⟨rfl, bthen HW.out (bthen (below_drew _) (grow_below hX8))⟩
  · have hs' : (2000 : Int) < (n : Int) := by omega
    go_enter Try.func3, Try.ntmps3
    go_wp2_with fail
    refine (awake_any w).mono ?_
    rintro e w1 ⟨rfl, hb1⟩
    go_wp2
    go_ret
    exact ⟨rfl, hb1⟩

set_option maxHeartbeats 4000000 in
theorem walk_Ip4Puts (w : World) (h : H4) (hf : h.fit) (b : Bs) (hb : b.ok w) : Calls Try.prog 4 #[.agg h.cells.toArray, b.v] w fun e w' => e = .returned (.bool true) ∧ Below w.heap.size w w' := by
  obtain ⟨A, n, c, l⟩ := b
  have hll := hb.len
  simp only [Bs.v] at hll ⊢
  have HO := Lib.hid hb
  have HF := Lib.hid hf
  have HOPT := Lib.hid (h.get_opt hf.ok)
  have hcase : ((100 : Int) < (h.opt.length : Int) ∨ (¬ (100 : Int) < (h.opt.length : Int) ∧ (70000 : Int) < (n : Int))) ∨ (¬ (100 : Int) < (h.opt.length : Int) ∧ ¬ (70000 : Int) < (n : Int)) := by omega
  clear hb hf
  rcases hcase with hcase | ⟨k1, k2⟩
  · rcases hcase with k1 | ⟨k1, k2⟩
    all_goals
      go_enter Try.func4, Try.ntmps4
      go_wp2_with (refine wpList_box_blk rfl 27 _ rfl h.cells rfl ?_; intro w1 hb1 hB1 hs1)
      refine (awake_any w1).mono ?_
      rintro e w2 ⟨rfl, hb2⟩
      have c16 : w2.cell? ⟨w.heap.size, 16, none⟩ = some (str h.opt) := ((hb1.on hb2).cell 16).trans HOPT.out
      go_wp2
      go_ret
      exact ⟨rfl, bthen hB1 hb2⟩
  · have hfo : h.opt.length ≤ 1099511627776 := by omega
    go_enter Try.func4, Try.ntmps4
    go_wp2_with (refine wpList_box_blk rfl 27 _ rfl h.cells rfl ?_; intro w1 hb1 hB1 hs1)
    refine (awake_any w1).mono ?_
    rintro e w2 ⟨rfl, hb2⟩
    have HW := Lib.hid (bthen hB1 hb2)
    have HB := Lib.hid (hb1.on hb2)
    replace HO := Lib.hid (HO.out.below (bthen hB1 hb2))
    have c16 : w2.cell? ⟨w.heap.size, 16, none⟩ = some (str h.opt) := (HB.out.cell 16).trans HOPT.out
    clear hb1 hB1 hs1 hb2
    go_wp2_with (refine wpList_load_blk (by rfl) 27 (.tmp 2) (by rfl) w.heap.size (by rfl) 27 _ _ HB.out Try.underlying27 rfl (size4 _ HF.out.ok) ?_)
    clear c16
    refine (put4_any h HF.out A n c l w2 HO.out.row HO.out.le HO.out.cap (by omega)).mono ?_
    rintro e w3 ⟨⟨A3, n3, c3, l3⟩, rfl, hl3, ho3, hb3⟩
    simp only at hl3
    subst hl3
    have HX3 := Lib.hid ho3.ok
    replace HW := Lib.hid (bthen HW.out hb3)
    replace HO := Lib.hid (HO.out.below hb3)
    replace HB := Lib.hid (HB.out.on hb3)
    clear ho3 hb3
    simp only [Bs.v]
    go_wp2_with (first
      | (refine wpList_load_blk (by rfl) 27 (.tmp 2) (by rfl) w.heap.size (by rfl) 27 _ _ HB.out Try.underlying27 rfl (size4 _ HF.out.ok) ?_)
      | (refine wpList_str (by rfl) (.tmp 30) 22 9 5 rfl Try.underlying22 Try.underlying5 Try.underlying9 _ A n c l (by rfl) HO.out.row ?_))
    refine (rput4_any h HF.out l w3 (by omega)).mono ?_
    rintro e w4 ⟨rfl, hb4⟩
    replace HW := Lib.hid (bthen HW.out hb4)
    replace HO := Lib.hid (HO.out.below hb4)
    replace HB := Lib.hid (HB.out.on hb4)
    replace HX3 := Lib.hid (HX3.out.below hb4)
    clear hb4
    go_wp2_with fail
    refine wp_region_rel (fun A B => A.grownBy B none) (fun A => grown_refl A _) (fun A B C h k => grown_trans h k) (relAt (List.cons (fun v _ => v = .slice A3 n3 c3) (List.cons (fun v _ => v = str (put4 h l).1) (List.cons (fun v _ => v = str (put4 h l).1) (List.cons (fun v _ => v = .bool true) (List.cons (fun v _ => v = .bool true) (List.cons (fun v _ => v = .int .i64 (put4 h l).2) (List.cons (fun v _ => v = .int .i64 (put4 h l).2) (List.cons (fun v _ => v = .bool true) (List.cons (fun v _ => v = .bool true) (List.cons (fun v _ => v = .bool true) (List.cons (fun v _ => v = .agg h.cells.toArray) (List.cons (fun v _ => v = .int .i64 (20 + (h.opt.length : Int))) (List.cons (fun v _ => v = .agg h.cells.toArray) (List.cons (fun v _ => v = .int .i64 (20 + (h.opt.length : Int))) (List.cons (fun v _ => v = .bool true) (List.cons (fun v _ => v = .bool true) (List.cons (fun v _ => v = .bool true) ([]))))))))))))))))))) (MonoL.at_ (.cons (mono_val _) (.cons (mono_val _) (.cons (mono_val _) (.cons (mono_val _) (.cons (mono_val _) (.cons (mono_val _) (.cons (mono_val _) (.cons (mono_val _) (.cons (mono_val _) (.cons (mono_val _) (.cons (mono_val _) (.cons (mono_val _) (.cons (mono_val _) (.cons (mono_val _) (.cons (mono_val _) (.cons (mono_val _) (.cons (mono_val _) .nil)))))))))))))))))) (by kernel_rfl) (by kernel_rfl) ⟨?_, ?_, ?_, ?_, ?_, ?_, ?_, ?_, ?_, ?_, ?_, ?_, ?_, ?_, ?_, ?_, ?_, trivial⟩ ?_
    · intro a vs W hX hR he hf K hK
      rw [if_pos (wanted_none rfl)]
      have e6 : a.eval (.tmp 6) = .slice A3 n3 c3 := hf 6 (by kernel_rfl)
      refine wp_value (v := .slice A3 n3 c3) ?_ (hK _ _ rfl (grown_refl W _))
      simp only [execOp, e6]
      try go_simp
      try (first | rfl | omega | (simp only [IntKind.wrap_i64, IntKind.wrap_u8, IntKind.wrap_u64, IntKind.wrap_u16, IntKind.wrap_u32]; omega) | (rw [Int.tmod_eq_emod_of_nonneg (by omega)]) | (rw [Int.tmod_eq_emod_of_nonneg (by omega)]; omega))
    · intro a vs W hX hR he hf K hK
      rw [if_pos (wanted_none rfl)]
      have e35 : a.eval (.tmp 35) = .slice A3 n3 c3 := (he 0 35 (by kernel_rfl) rfl).trans (hR 0 (by kernel_rfl))
      have hbW := bthen (below_drew _) (grow_below hX)
      exact wp_value (exec_str 22 9 5 _ rfl Try.underlying22 Try.underlying5 Try.underlying9 A3 n3 c3 _ e35 (HX3.out.below hbW)) (hK _ _ rfl (grown_refl W _))
    · intro a vs W hX hR he hf K hK
      rw [if_pos (wanted_none rfl)]
      have e8 : a.eval (.tmp 8) = str (put4 h l).1 := hf 8 (by kernel_rfl)
      refine wp_value (v := str (put4 h l).1) ?_ (hK _ _ rfl (grown_refl W _))
      simp only [execOp, e8]
      try go_simp
      try (first | rfl | omega | (simp only [IntKind.wrap_i64, IntKind.wrap_u8, IntKind.wrap_u64, IntKind.wrap_u16, IntKind.wrap_u32]; omega) | (rw [Int.tmod_eq_emod_of_nonneg (by omega)]) | (rw [Int.tmod_eq_emod_of_nonneg (by omega)]; omega))
    · intro a vs W hX hR he hf K hK
      rw [if_pos (wanted_none rfl)]
      have e36 : a.eval (.tmp 36) = str (put4 h l).1 := (he 1 36 (by kernel_rfl) rfl).trans (hR 1 (by kernel_rfl))
      have e37 : a.eval (.tmp 37) = str (put4 h l).1 := (he 2 37 (by kernel_rfl) rfl).trans (hR 2 (by kernel_rfl))
      refine wp_value (v := .bool true) ?_ (hK _ _ rfl (grown_refl W _))
      simp only [execOp, e36, e37]
      try go_simp
      try (first | rfl | omega | (simp only [IntKind.wrap_i64, IntKind.wrap_u8, IntKind.wrap_u64, IntKind.wrap_u16, IntKind.wrap_u32]; omega) | (rw [Int.tmod_eq_emod_of_nonneg (by omega)]) | (rw [Int.tmod_eq_emod_of_nonneg (by omega)]; omega))
    · intro a vs W hX hR he hf K hK
      rw [if_pos (wanted_none rfl)]
      have e38 : a.eval (.tmp 38) = .bool true := (he 3 38 (by kernel_rfl) rfl).trans (hR 3 (by kernel_rfl))
      refine wp_value (v := .bool true) ?_ (hK _ _ rfl (grown_refl W _))
      simp only [execOp, e38]
      try go_simp
      try (first | rfl | omega | (simp only [IntKind.wrap_i64, IntKind.wrap_u8, IntKind.wrap_u64, IntKind.wrap_u16, IntKind.wrap_u32]; omega) | (rw [Int.tmod_eq_emod_of_nonneg (by omega)]) | (rw [Int.tmod_eq_emod_of_nonneg (by omega)]; omega))
    · intro a vs W hX hR he hf K hK
      have e39 : a.eval (.tmp 39) = .bool true := (he 4 39 (by kernel_rfl) rfl).trans (hR 4 (by kernel_rfl))
      refine Eq.mpr (if_pos (by exact (wanted_some rfl rfl e39).trans rfl)) ?_
      have e7 : a.eval (.tmp 7) = .int .i64 (put4 h l).2 := hf 7 (by kernel_rfl)
      refine wp_value (v := .int .i64 (put4 h l).2) ?_ (hK _ _ rfl (grown_refl W _))
      simp only [execOp, e7]
      try go_simp
      try (first | rfl | omega | (simp only [IntKind.wrap_i64, IntKind.wrap_u8, IntKind.wrap_u64, IntKind.wrap_u16, IntKind.wrap_u32]; omega) | (rw [Int.tmod_eq_emod_of_nonneg (by omega)]) | (rw [Int.tmod_eq_emod_of_nonneg (by omega)]; omega))
    · intro a vs W hX hR he hf K hK
      have e39 : a.eval (.tmp 39) = .bool true := (he 4 39 (by kernel_rfl) rfl).trans (hR 4 (by kernel_rfl))
      refine Eq.mpr (if_pos (by exact (wanted_some rfl rfl e39).trans rfl)) ?_
      have e9 : a.eval (.tmp 9) = .int .i64 (put4 h l).2 := hf 9 (by kernel_rfl)
      refine wp_value (v := .int .i64 (put4 h l).2) ?_ (hK _ _ rfl (grown_refl W _))
      simp only [execOp, e9]
      try go_simp
      try (first | rfl | omega | (simp only [IntKind.wrap_i64, IntKind.wrap_u8, IntKind.wrap_u64, IntKind.wrap_u16, IntKind.wrap_u32]; omega) | (rw [Int.tmod_eq_emod_of_nonneg (by omega)]) | (rw [Int.tmod_eq_emod_of_nonneg (by omega)]; omega))
    · intro a vs W hX hR he hf K hK
      have e39 : a.eval (.tmp 39) = .bool true := (he 4 39 (by kernel_rfl) rfl).trans (hR 4 (by kernel_rfl))
      refine Eq.mpr (if_pos (by exact (wanted_some rfl rfl e39).trans rfl)) ?_
      have e40 : a.eval (.tmp 40) = .int .i64 (put4 h l).2 := (he 5 40 (by kernel_rfl) rfl).trans (hR 5 (by kernel_rfl))
      have e41 : a.eval (.tmp 41) = .int .i64 (put4 h l).2 := (he 6 41 (by kernel_rfl) rfl).trans (hR 6 (by kernel_rfl))
      refine wp_value (v := .bool true) ?_ (hK _ _ rfl (grown_refl W _))
      simp only [execOp, e40, e41]
      try go_simp
      try (first | rfl | omega | (simp only [IntKind.wrap_i64, IntKind.wrap_u8, IntKind.wrap_u64, IntKind.wrap_u16, IntKind.wrap_u32]; omega) | (rw [Int.tmod_eq_emod_of_nonneg (by omega)]) | (rw [Int.tmod_eq_emod_of_nonneg (by omega)]; omega))
    · intro a vs W hX hR he hf K hK
      rw [if_pos (wanted_none rfl)]
      have e39 : a.eval (.tmp 39) = .bool true := (he 4 39 (by kernel_rfl) rfl).trans (hR 4 (by kernel_rfl))
      have e42 : a.eval (.tmp 42) = .bool true := (he 7 42 (by kernel_rfl) rfl).trans (hR 7 (by kernel_rfl))
      refine wp_value (v := .bool true) ?_ (hK _ _ rfl (grown_refl W _))
      simp only [execOp, e39, e42]
      try go_simp
      try (first | rfl | omega | (simp only [IntKind.wrap_i64, IntKind.wrap_u8, IntKind.wrap_u64, IntKind.wrap_u16, IntKind.wrap_u32]; omega) | (rw [Int.tmod_eq_emod_of_nonneg (by omega)]) | (rw [Int.tmod_eq_emod_of_nonneg (by omega)]; omega))
    · intro a vs W hX hR he hf K hK
      rw [if_pos (wanted_none rfl)]
      have e43 : a.eval (.tmp 43) = .bool true := (he 8 43 (by kernel_rfl) rfl).trans (hR 8 (by kernel_rfl))
      refine wp_value (v := .bool true) ?_ (hK _ _ rfl (grown_refl W _))
      simp only [execOp, e43]
      try go_simp
      try (first | rfl | omega | (simp only [IntKind.wrap_i64, IntKind.wrap_u8, IntKind.wrap_u64, IntKind.wrap_u16, IntKind.wrap_u32]; omega) | (rw [Int.tmod_eq_emod_of_nonneg (by omega)]) | (rw [Int.tmod_eq_emod_of_nonneg (by omega)]; omega))
    · intro a vs W hX hR he hf K hK
      have e44 : a.eval (.tmp 44) = .bool true := (he 9 44 (by kernel_rfl) rfl).trans (hR 9 (by kernel_rfl))
      refine Eq.mpr (if_pos (by exact (wanted_some rfl rfl e44).trans rfl)) ?_
      have e2 : a.eval (.tmp 2) = .pointer (some ⟨w.heap.size, 0, none⟩) := hf 2 (by kernel_rfl)
      have hbW := bthen (below_drew _) (grow_below hX)
      exact wp_value (exec_load 27 _ rfl w.heap.size e2 27 h.cells _ (HB.out.on hbW) Try.underlying27 rfl (size4 _ HF.out.ok)) (hK _ _ rfl (grown_refl W _))
    · intro a vs W hX hR he hf K hK
      have e44 : a.eval (.tmp 44) = .bool true := (he 9 44 (by kernel_rfl) rfl).trans (hR 9 (by kernel_rfl))
      refine Eq.mpr (if_pos (by exact (wanted_some rfl rfl e44).trans rfl)) ?_
      have e45 : a.eval (.tmp 45) = .agg h.cells.toArray := (he 10 45 (by kernel_rfl) rfl).trans (hR 10 (by kernel_rfl))
      refine wp_enter (f := 16) (args := #[.agg h.cells.toArray]) (by simp only [execOp, e45]; go_simp; simpa [Act.eval] using e45) ((size4_any h HF.out.ok W hfo).mono ?_)
      rintro e w' ⟨rfl, hb⟩
      exact ⟨_, rfl, hK _ _ rfl (below_grow hb _)⟩
    · intro a vs W hX hR he hf K hK
      have e44 : a.eval (.tmp 44) = .bool true := (he 9 44 (by kernel_rfl) rfl).trans (hR 9 (by kernel_rfl))
      refine Eq.mpr (if_pos (by exact (wanted_some rfl rfl e44).trans rfl)) ?_
      have e2 : a.eval (.tmp 2) = .pointer (some ⟨w.heap.size, 0, none⟩) := hf 2 (by kernel_rfl)
      have hbW := bthen (below_drew _) (grow_below hX)
      exact wp_value (exec_load 27 _ rfl w.heap.size e2 27 h.cells _ (HB.out.on hbW) Try.underlying27 rfl (size4 _ HF.out.ok)) (hK _ _ rfl (grown_refl W _))
    · intro a vs W hX hR he hf K hK
      have e44 : a.eval (.tmp 44) = .bool true := (he 9 44 (by kernel_rfl) rfl).trans (hR 9 (by kernel_rfl))
      refine Eq.mpr (if_pos (by exact (wanted_some rfl rfl e44).trans rfl)) ?_
      have e47 : a.eval (.tmp 47) = .agg h.cells.toArray := (he 12 47 (by kernel_rfl) rfl).trans (hR 12 (by kernel_rfl))
      refine wp_enter (f := 17) (args := #[.agg h.cells.toArray]) (by simp only [execOp, e47]; go_simp; simpa [Act.eval] using e47) ((rsize4_any h HF.out.ok W hfo).mono ?_)
      rintro e w' ⟨rfl, hb⟩
      exact ⟨_, rfl, hK _ _ rfl (below_grow hb _)⟩
    · intro a vs W hX hR he hf K hK
      have e44 : a.eval (.tmp 44) = .bool true := (he 9 44 (by kernel_rfl) rfl).trans (hR 9 (by kernel_rfl))
      refine Eq.mpr (if_pos (by exact (wanted_some rfl rfl e44).trans rfl)) ?_
      have e46 : a.eval (.tmp 46) = .int .i64 (20 + (h.opt.length : Int)) := (he 11 46 (by kernel_rfl) rfl).trans (hR 11 (by kernel_rfl))
      have e48 : a.eval (.tmp 48) = .int .i64 (20 + (h.opt.length : Int)) := (he 13 48 (by kernel_rfl) rfl).trans (hR 13 (by kernel_rfl))
      refine wp_value (v := .bool true) ?_ (hK _ _ rfl (grown_refl W _))
      simp only [execOp, e46, e48]
      try go_simp
      try (first | rfl | omega | (simp only [IntKind.wrap_i64, IntKind.wrap_u8, IntKind.wrap_u64, IntKind.wrap_u16, IntKind.wrap_u32]; omega) | (rw [Int.tmod_eq_emod_of_nonneg (by omega)]) | (rw [Int.tmod_eq_emod_of_nonneg (by omega)]; omega))
    · intro a vs W hX hR he hf K hK
      rw [if_pos (wanted_none rfl)]
      have e44 : a.eval (.tmp 44) = .bool true := (he 9 44 (by kernel_rfl) rfl).trans (hR 9 (by kernel_rfl))
      have e49 : a.eval (.tmp 49) = .bool true := (he 14 49 (by kernel_rfl) rfl).trans (hR 14 (by kernel_rfl))
      refine wp_value (v := .bool true) ?_ (hK _ _ rfl (grown_refl W _))
      simp only [execOp, e44, e49]
      try go_simp
      try (first | rfl | omega | (simp only [IntKind.wrap_i64, IntKind.wrap_u8, IntKind.wrap_u64, IntKind.wrap_u16, IntKind.wrap_u32]; omega) | (rw [Int.tmod_eq_emod_of_nonneg (by omega)]) | (rw [Int.tmod_eq_emod_of_nonneg (by omega)]; omega))
    · intro a vs W hX hR he hf K hK
      rw [if_pos (wanted_none rfl)]
      have e50 : a.eval (.tmp 50) = .bool true := (he 15 50 (by kernel_rfl) rfl).trans (hR 15 (by kernel_rfl))
      refine wp_value (v := .bool true) ?_ (hK _ _ rfl (grown_refl W _))
      simp only [execOp, e50]
      try go_simp
      try (first | rfl | omega | (simp only [IntKind.wrap_i64, IntKind.wrap_u8, IntKind.wrap_u64, IntKind.wrap_u16, IntKind.wrap_u32]; omega) | (rw [Int.tmod_eq_emod_of_nonneg (by omega)]) | (rw [Int.tmod_eq_emod_of_nonneg (by omega)]; omega))
    · intro vs w8 hX8 hR
      have q0 := hR 0 (by decide)
      have q1 := hR 1 (by decide)
      have q2 := hR 2 (by decide)
      have q3 := hR 3 (by decide)
      have q4 := hR 4 (by decide)
      have q5 := hR 5 (by decide)
      have q6 := hR 6 (by decide)
      have q7 := hR 7 (by decide)
      have q8 := hR 8 (by decide)
      have q9 := hR 9 (by decide)
      have q10 := hR 10 (by decide)
      have q11 := hR 11 (by decide)
      have q12 := hR 12 (by decide)
      have q13 := hR 13 (by decide)
      have q14 := hR 14 (by decide)
      have q15 := hR 15 (by decide)
      have q16 := hR 16 (by decide)
      change vs 0 = .slice A3 n3 c3 at q0
      change vs 1 = str (put4 h l).1 at q1
      change vs 2 = str (put4 h l).1 at q2
      change vs 3 = .bool true at q3
      change vs 4 = .bool true at q4
      change vs 5 = .int .i64 (put4 h l).2 at q5
      change vs 6 = .int .i64 (put4 h l).2 at q6
      change vs 7 = .bool true at q7
      change vs 8 = .bool true at q8
      change vs 9 = .bool true at q9
      change vs 10 = .agg h.cells.toArray at q10
      change vs 11 = .int .i64 (20 + (h.opt.length : Int)) at q11
      change vs 12 = .agg h.cells.toArray at q12
      change vs 13 = .int .i64 (20 + (h.opt.length : Int)) at q13
      change vs 14 = .bool true at q14
      change vs 15 = .bool true at q15
      change vs 16 = .bool true at q16
      simp only [putAll, Act.put, List.setIfInBounds_toArray, List.set_cons_zero, List.set_cons_succ, q0, q1, q2, q3, q4, q5, q6, q7, q8, q9, q10, q11, q12, q13, q14, q15, q16]
      clear q0 q1 q2 q3 q4 q5 q6 q7 q8 q9 q10 q11 q12 q13 q14 q15 q16
      clear hR
      go_wp2
      go_ret
      exact ⟨rfl, bthen HW.out (bthen (below_drew _) (grow_below hX8))⟩

set_option maxHeartbeats 4000000 in
theorem walk_Ip4Ttl (w : World) (b : Bs) (hb : b.ok w) (t : Int) (ht : 0 ≤ t ∧ t ≤ 255) : Calls Try.prog 5 #[b.v, .int .u8 t] w fun e w' => e = .returned (.bool true) ∧ Below w.heap.size w w' := by
  obtain ⟨A, n, c, l⟩ := b
  have hll := hb.len
  simp only [Bs.v] at hll ⊢
  have HO := Lib.hid hb
  clear hb
  obtain ⟨t0, t1⟩ := ht
  by_cases hs : n ≤ 2000
  · have hs' : ¬ (2000 : Int) < (n : Int) := by omega
    go_enter Try.func5, Try.ntmps5
    go_wp2_with fail
    refine (awake_any w).mono ?_
    rintro e w1 ⟨rfl, hb1⟩
    have HW := Lib.hid hb1
    replace HO := Lib.hid (HO.out.below hb1)
    clear hb1
    go_wp2_with fail
    refine (ttl4_any A n c l t w1 HO.out.row HO.out.le HO.out.cap (by omega) t0 t1).mono ?_
    rintro e w2 ⟨⟨A2, n2, c2, l2⟩, rfl, hl2, ho2, hb2⟩
    simp only at hl2
    subst hl2
    have HX := Lib.hid ho2.ok
    replace HW := Lib.hid (bthen HW.out hb2)
    replace HO := Lib.hid (HO.out.below hb2)
    clear ho2 hb2
    simp only [Bs.v]
    go_wp2_with (refine wpList_str (by rfl) (.tmp 23) 22 9 5 rfl Try.underlying22 Try.underlying5 Try.underlying9 _ A n c l (by rfl) HO.out.row ?_)
    refine (rttl4_any l t w2 (by omega) t0 t1).mono ?_
    rintro e w3 ⟨rfl, hb3⟩
    replace HW := Lib.hid (bthen HW.out hb3)
    replace HX := Lib.hid (HX.out.below hb3)
    clear hb3
    go_wp2_with (refine wpList_str (by rfl) (.tmp 29) 22 9 5 rfl Try.underlying22 Try.underlying5 Try.underlying9 _ A2 n2 c2 _ (by rfl) HX.out.row ?_)
    go_ret
    exact ⟨rfl, HW.out⟩
  · have hs' : (2000 : Int) < (n : Int) := by omega
    go_enter Try.func5, Try.ntmps5
    go_wp2_with fail
    refine (awake_any w).mono ?_
    rintro e w1 ⟨rfl, hb1⟩
    go_wp2
    go_ret
    exact ⟨rfl, hb1⟩
end Go.Proofs.Ytehidnfkogfaoaa

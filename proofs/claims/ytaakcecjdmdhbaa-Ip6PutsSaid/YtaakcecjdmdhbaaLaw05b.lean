/- The walks of layer 5 (ip6): Parses, Puts. No condition but those of the rows. -/
import Derived.Test.YtaakcecjdmdhbaaLaw05
import Derived.Test.YtaakcecjdmdhbaaOpenH6
namespace Go.Proofs.Ytaakcecjdmdhbaa
open Go.RowKit
set_option linter.unusedVariables false
set_option linter.unusedSimpArgs false

set_option maxHeartbeats 4000000 in
theorem walk_Ip6Parses (w : World) (b : Bs) (hb : b.ok w) : Calls Try.prog 3 #[b.v] w fun e w' => e = .returned (.bool true) ∧ Below w.heap.size w w' := by
  obtain ⟨A, n, c, l⟩ := b
  have hll := hb.len
  simp only [Bs.v] at hll ⊢
  by_cases hs : n ≤ 2000
  · have hs' : ¬ (2000 : Int) < (n : Int) := by omega
    have HO := Lib.hid hb
    clear hb
    go_enter Try.func3, Try.ntmps3
    go_wp2_with fail
    refine (awake_any w).mono ?_
    rintro e w1 ⟨rfl, hb1⟩
    have HW1 := Lib.hid hb1
    have HO1 := Lib.hid (HO.out.below hb1)
    clear hb1
    go_wp2_with fail
    refine (parse6_any A n c l w1 HO1.out.row HO1.out.le HO1.out.cap (by omega)).mono ?_
    rintro e w2 ⟨rfl, hb2⟩
    have HW2 := Lib.hid (bthen HW1.out hb2)
    have HO2 := Lib.hid (HO1.out.below hb2)
    clear hb2
    go_wp2_with (first
    | (refine wpList_alloc_blk rfl 26 rfl H6.zero.cells zero6 ?_; intro w3 hbw3 hBw3 hsw3)
      | (refine wpList_store_all rfl 26 _ _ rfl w2.heap.size (par6 l).1.cells rfl rfl 26 _ hbw3 (size6 _ (par6_ok l)) (H6.cells_same _ _ (par6_ok l) H6.zero_ok) (H6.one _) ?_; intro w4 hbw4 hgw4 hsw4; have hBw4 : Below w2.heap.size w2 w4 := bgrown hBw3 hgw4 (by omega) (by omega)); have HO4 := Lib.hid (HO2.out.below hBw4); have HW4 := Lib.hid (bthen HW2.out hBw4); have HB4 := Lib.hid hbw4
    | (refine wpList_str rfl (.tmp 20) 22 9 5 rfl Try.underlying22 Try.underlying5 Try.underlying9 _ A n c l rfl HO4.out.row ?_))
    clear hBw3 hsw3 hBw4 hgw4 hsw4 hbw4
    refine (rparse6_any l w4 (by omega)).mono ?_
    rintro e w5 ⟨rfl, hb5⟩
    have HW5 := Lib.hid (bthen HW4.out hb5)
    have HO5 := Lib.hid (HO4.out.below hb5)
    have HB5 := Lib.hid (HB4.out.on hb5)
    clear hb5
    go_wp2_with (first
      | (refine wpList_alloc_blk rfl 26 rfl H6.zero.cells zero6 ?_; intro w6 hbw6 hBw6 hsw6)
      | (refine wpList_store_all rfl 26 _ _ rfl w5.heap.size (par6 l).1.cells rfl rfl 26 _ hbw6 (size6 _ (par6_ok l)) (H6.cells_same _ _ (par6_ok l) H6.zero_ok) (H6.one _) ?_; intro w7 hbw7 hgw7 hsw7; have hBw7 : Below w5.heap.size w5 w7 := bgrown hBw6 hgw7 (by omega) (by omega)))
    have HO7 := Lib.hid (HO5.out.below hBw7)
    have HW7 := Lib.hid (bthen HW5.out hBw7)
    have HB8 := Lib.hid (HB5.out.on hBw7)
    have HB7 := Lib.hid hbw7
    clear HB4 HB5 hBw6 hsw6 hBw7 hgw7 hsw7 hbw7
    refine wp_region_rel (fun A B => A.grownBy B none) (fun A => grown_refl A _) (fun A B C h k => grown_trans h k) (relAt (List.cons (fun v _ => v = .agg (par6 l).1.cells.toArray) (List.cons (fun v _ => v = .agg (par6 l).1.cells.toArray) (List.cons (fun v _ => v = .bool true) (List.cons (fun v _ => v = .bool true) (List.cons (fun v _ => v = .int .i64 (par6 l).2) (List.cons (fun v _ => v = .int .i64 (par6 l).2) (List.cons (fun v _ => v = .bool true) (List.cons (fun v _ => v = .bool true) (List.cons (fun v _ => v = .bool true) (List.cons (fun v _ => v = .slice A n c) (List.cons (BsR (body6 l)) (List.cons (fun v _ => v = str (body6 l)) (List.cons (fun v _ => v = .slice A n c) (List.cons (fun v _ => v = str l) (List.cons (fun v _ => v = str (body6 l)) (List.cons (fun v _ => v = .bool true) (List.cons (fun v _ => v = .bool true) (List.cons (fun v _ => v = .bool true) ([])))))))))))))))))))) (MonoL.at_ (.cons (mono_val _) (.cons (mono_val _) (.cons (mono_val _) (.cons (mono_val _) (.cons (mono_val _) (.cons (mono_val _) (.cons (mono_val _) (.cons (mono_val _) (.cons (mono_val _) (.cons (mono_val _) (.cons (mono_bs _) (.cons (mono_val _) (.cons (mono_val _) (.cons (mono_val _) (.cons (mono_val _) (.cons (mono_val _) (.cons (mono_val _) (.cons (mono_val _) .nil))))))))))))))))))) (by kernel_rfl) (by kernel_rfl) ⟨?_, ?_, ?_, ?_, ?_, ?_, ?_, ?_, ?_, ?_, ?_, ?_, ?_, ?_, ?_, ?_, ?_, ?_, trivial⟩ ?_
    · intro a vs W hX hR he hf K hK
      rw [if_pos (wanted_none rfl)]
      have e4 : a.eval (.tmp 4) = .pointer (some ⟨w2.heap.size, 0, none⟩) := hf 4 (by kernel_rfl)
      have hbW := bthen (below_drew _) (grow_below hX)
      exact wp_value (exec_load 26 _ rfl w2.heap.size e4 26 (par6 l).1.cells _ (HB8.out.on hbW) Try.underlying26 rfl (size6 _ (par6_ok l))) (hK _ _ rfl (grown_refl W _))
    · intro a vs W hX hR he hf K hK
      rw [if_pos (wanted_none rfl)]
      have e6 : a.eval (.tmp 6) = .pointer (some ⟨w5.heap.size, 0, none⟩) := hf 6 (by kernel_rfl)
      have hbW := bthen (below_drew _) (grow_below hX)
      exact wp_value (exec_load 26 _ rfl w5.heap.size e6 26 (par6 l).1.cells _ (HB7.out.on hbW) Try.underlying26 rfl (size6 _ (par6_ok l))) (hK _ _ rfl (grown_refl W _))
    · intro a vs W hX hR he hf K hK
      rw [if_pos (wanted_none rfl)]
      have e25 : a.eval (.tmp 25) = .agg (par6 l).1.cells.toArray := (he 0 25 (by kernel_rfl) rfl).trans (hR 0 (by kernel_rfl))
      have e26 : a.eval (.tmp 26) = .agg (par6 l).1.cells.toArray := (he 1 26 (by kernel_rfl) rfl).trans (hR 1 (by kernel_rfl))
      exact wp_value (exec_eq6 _ _ _ rfl (par6 l).1 (par6_ok l) e25 e26) (hK _ _ rfl (grown_refl W _))
    · intro a vs W hX hR he hf K hK
      rw [if_pos (wanted_none rfl)]
      have e27 : a.eval (.tmp 27) = .bool true := (he 2 27 (by kernel_rfl) rfl).trans (hR 2 (by kernel_rfl))
      refine wp_value (v := .bool true) ?_ (hK _ _ rfl (grown_refl W _))
      simp only [execOp, e27]
      try go_simp
      try (first | rfl | omega | (simp only [IntKind.wrap_i64, IntKind.wrap_u8, IntKind.wrap_u64, IntKind.wrap_u16, IntKind.wrap_u32]; omega) | (rw [Int.tmod_eq_emod_of_nonneg (by omega)]) | (rw [Int.tmod_eq_emod_of_nonneg (by omega)]; omega))
    · intro a vs W hX hR he hf K hK
      have e28 : a.eval (.tmp 28) = .bool true := (he 3 28 (by kernel_rfl) rfl).trans (hR 3 (by kernel_rfl))
      refine Eq.mpr (if_pos (by exact (wanted_some rfl rfl e28).trans rfl)) ?_
      have e5 : a.eval (.tmp 5) = .int .i64 (par6 l).2 := hf 5 (by kernel_rfl)
      refine wp_value (v := .int .i64 (par6 l).2) ?_ (hK _ _ rfl (grown_refl W _))
      simp only [execOp, e5]
      try go_simp
      try (first | rfl | omega | (simp only [IntKind.wrap_i64, IntKind.wrap_u8, IntKind.wrap_u64, IntKind.wrap_u16, IntKind.wrap_u32]; omega) | (rw [Int.tmod_eq_emod_of_nonneg (by omega)]) | (rw [Int.tmod_eq_emod_of_nonneg (by omega)]; omega))
    · intro a vs W hX hR he hf K hK
      have e28 : a.eval (.tmp 28) = .bool true := (he 3 28 (by kernel_rfl) rfl).trans (hR 3 (by kernel_rfl))
      refine Eq.mpr (if_pos (by exact (wanted_some rfl rfl e28).trans rfl)) ?_
      have e7 : a.eval (.tmp 7) = .int .i64 (par6 l).2 := hf 7 (by kernel_rfl)
      refine wp_value (v := .int .i64 (par6 l).2) ?_ (hK _ _ rfl (grown_refl W _))
      simp only [execOp, e7]
      try go_simp
      try (first | rfl | omega | (simp only [IntKind.wrap_i64, IntKind.wrap_u8, IntKind.wrap_u64, IntKind.wrap_u16, IntKind.wrap_u32]; omega) | (rw [Int.tmod_eq_emod_of_nonneg (by omega)]) | (rw [Int.tmod_eq_emod_of_nonneg (by omega)]; omega))
    · intro a vs W hX hR he hf K hK
      have e28 : a.eval (.tmp 28) = .bool true := (he 3 28 (by kernel_rfl) rfl).trans (hR 3 (by kernel_rfl))
      refine Eq.mpr (if_pos (by exact (wanted_some rfl rfl e28).trans rfl)) ?_
      have e29 : a.eval (.tmp 29) = .int .i64 (par6 l).2 := (he 4 29 (by kernel_rfl) rfl).trans (hR 4 (by kernel_rfl))
      have e30 : a.eval (.tmp 30) = .int .i64 (par6 l).2 := (he 5 30 (by kernel_rfl) rfl).trans (hR 5 (by kernel_rfl))
      refine wp_value (v := .bool true) ?_ (hK _ _ rfl (grown_refl W _))
      simp only [execOp, e29, e30]
      try go_simp
      try (first | rfl | omega | (simp only [IntKind.wrap_i64, IntKind.wrap_u8, IntKind.wrap_u64, IntKind.wrap_u16, IntKind.wrap_u32]; omega) | (rw [Int.tmod_eq_emod_of_nonneg (by omega)]) | (rw [Int.tmod_eq_emod_of_nonneg (by omega)]; omega))
    · intro a vs W hX hR he hf K hK
      rw [if_pos (wanted_none rfl)]
      have e28 : a.eval (.tmp 28) = .bool true := (he 3 28 (by kernel_rfl) rfl).trans (hR 3 (by kernel_rfl))
      have e31 : a.eval (.tmp 31) = .bool true := (he 6 31 (by kernel_rfl) rfl).trans (hR 6 (by kernel_rfl))
      refine wp_value (v := .bool true) ?_ (hK _ _ rfl (grown_refl W _))
      simp only [execOp, e28, e31]
      try go_simp
      try (first | rfl | omega | (simp only [IntKind.wrap_i64, IntKind.wrap_u8, IntKind.wrap_u64, IntKind.wrap_u16, IntKind.wrap_u32]; omega) | (rw [Int.tmod_eq_emod_of_nonneg (by omega)]) | (rw [Int.tmod_eq_emod_of_nonneg (by omega)]; omega))
    · intro a vs W hX hR he hf K hK
      rw [if_pos (wanted_none rfl)]
      have e32 : a.eval (.tmp 32) = .bool true := (he 7 32 (by kernel_rfl) rfl).trans (hR 7 (by kernel_rfl))
      refine wp_value (v := .bool true) ?_ (hK _ _ rfl (grown_refl W _))
      simp only [execOp, e32]
      try go_simp
      try (first | rfl | omega | (simp only [IntKind.wrap_i64, IntKind.wrap_u8, IntKind.wrap_u64, IntKind.wrap_u16, IntKind.wrap_u32]; omega) | (rw [Int.tmod_eq_emod_of_nonneg (by omega)]) | (rw [Int.tmod_eq_emod_of_nonneg (by omega)]; omega))
    · intro a vs W hX hR he hf K hK
      have e33 : a.eval (.tmp 33) = .bool true := (he 8 33 (by kernel_rfl) rfl).trans (hR 8 (by kernel_rfl))
      refine Eq.mpr (if_pos (by exact (wanted_some rfl rfl e33).trans rfl)) ?_
      have e0 : a.eval (.tmp 0) = .slice A n c := hf 0 (by kernel_rfl)
      refine wp_value (v := .slice A n c) ?_ (hK _ _ rfl (grown_refl W _))
      simp only [execOp, e0]
      try go_simp
      try (first | rfl | omega | (simp only [IntKind.wrap_i64, IntKind.wrap_u8, IntKind.wrap_u64, IntKind.wrap_u16, IntKind.wrap_u32]; omega) | (rw [Int.tmod_eq_emod_of_nonneg (by omega)]) | (rw [Int.tmod_eq_emod_of_nonneg (by omega)]; omega))
    · intro a vs W hX hR he hf K hK
      have e33 : a.eval (.tmp 33) = .bool true := (he 8 33 (by kernel_rfl) rfl).trans (hR 8 (by kernel_rfl))
      refine Eq.mpr (if_pos (by exact (wanted_some rfl rfl e33).trans rfl)) ?_
      have e34 : a.eval (.tmp 34) = .slice A n c := (he 9 34 (by kernel_rfl) rfl).trans (hR 9 (by kernel_rfl))
      have hbW := bthen (below_drew _) (grow_below hX)
      have ho := HO7.out.below hbW
      refine wp_enter (f := 10) (args := #[.slice A n c]) (by simp only [execOp, e34]; go_simp; simpa [Act.eval] using e34) ((body6_any A n c l W ho.row ho.le ho.cap (by omega)).mono ?_)
      rintro e w' ⟨⟨A', n', c', l'⟩, rfl, hl, ho', hb⟩
      simp only at hl
      subst hl
      exact ⟨_, rfl, hK _ _ ⟨_, _, _, rfl, ho'⟩ (below_grow hb _)⟩
    · intro a vs W hX hR he hf K hK
      have e33 : a.eval (.tmp 33) = .bool true := (he 8 33 (by kernel_rfl) rfl).trans (hR 8 (by kernel_rfl))
      refine Eq.mpr (if_pos (by exact (wanted_some rfl rfl e33).trans rfl)) ?_
      have e35 := he 10 35 (by kernel_rfl) rfl
      have p35 := hR 10 (by kernel_rfl)
      obtain ⟨A, n, c, hv, ho⟩ := p35
      rw [hv] at e35
      exact wp_value (exec_str 22 9 5 _ rfl Try.underlying22 Try.underlying5 Try.underlying9 A n c _ e35 ho) (hK _ _ rfl (grown_refl W _))
    · intro a vs W hX hR he hf K hK
      have e33 : a.eval (.tmp 33) = .bool true := (he 8 33 (by kernel_rfl) rfl).trans (hR 8 (by kernel_rfl))
      refine Eq.mpr (if_pos (by exact (wanted_some rfl rfl e33).trans rfl)) ?_
      have e0 : a.eval (.tmp 0) = .slice A n c := hf 0 (by kernel_rfl)
      refine wp_value (v := .slice A n c) ?_ (hK _ _ rfl (grown_refl W _))
      simp only [execOp, e0]
      try go_simp
      try (first | rfl | omega | (simp only [IntKind.wrap_i64, IntKind.wrap_u8, IntKind.wrap_u64, IntKind.wrap_u16, IntKind.wrap_u32]; omega) | (rw [Int.tmod_eq_emod_of_nonneg (by omega)]) | (rw [Int.tmod_eq_emod_of_nonneg (by omega)]; omega))
    · intro a vs W hX hR he hf K hK
      have e33 : a.eval (.tmp 33) = .bool true := (he 8 33 (by kernel_rfl) rfl).trans (hR 8 (by kernel_rfl))
      refine Eq.mpr (if_pos (by exact (wanted_some rfl rfl e33).trans rfl)) ?_
      have e37 : a.eval (.tmp 37) = .slice A n c := (he 12 37 (by kernel_rfl) rfl).trans (hR 12 (by kernel_rfl))
      have hbW := bthen (below_drew _) (grow_below hX)
      exact wp_value (exec_str 22 9 5 _ rfl Try.underlying22 Try.underlying5 Try.underlying9 A n c l e37 (HO7.out.below hbW)) (hK _ _ rfl (grown_refl W _))
    · intro a vs W hX hR he hf K hK
      have e33 : a.eval (.tmp 33) = .bool true := (he 8 33 (by kernel_rfl) rfl).trans (hR 8 (by kernel_rfl))
      refine Eq.mpr (if_pos (by exact (wanted_some rfl rfl e33).trans rfl)) ?_
      have e38 : a.eval (.tmp 38) = str l := (he 13 38 (by kernel_rfl) rfl).trans (hR 13 (by kernel_rfl))
      refine wp_enter (f := 11) (args := #[str l]) (by simp only [execOp, e38]; go_simp; simpa [Act.eval] using e38) ((rbody6_any l W (by omega)).mono ?_)
      rintro e w' ⟨rfl, hb⟩
      exact ⟨_, rfl, hK _ _ rfl (below_grow hb _)⟩
    · intro a vs W hX hR he hf K hK
      have e33 : a.eval (.tmp 33) = .bool true := (he 8 33 (by kernel_rfl) rfl).trans (hR 8 (by kernel_rfl))
      refine Eq.mpr (if_pos (by exact (wanted_some rfl rfl e33).trans rfl)) ?_
      have e36 : a.eval (.tmp 36) = str (body6 l) := (he 11 36 (by kernel_rfl) rfl).trans (hR 11 (by kernel_rfl))
      have e39 : a.eval (.tmp 39) = str (body6 l) := (he 14 39 (by kernel_rfl) rfl).trans (hR 14 (by kernel_rfl))
      refine wp_value (v := .bool true) ?_ (hK _ _ rfl (grown_refl W _))
      simp only [execOp, e36, e39]
      try go_simp
      try (first | rfl | omega | (simp only [IntKind.wrap_i64, IntKind.wrap_u8, IntKind.wrap_u64, IntKind.wrap_u16, IntKind.wrap_u32]; omega) | (rw [Int.tmod_eq_emod_of_nonneg (by omega)]) | (rw [Int.tmod_eq_emod_of_nonneg (by omega)]; omega))
    · intro a vs W hX hR he hf K hK
      rw [if_pos (wanted_none rfl)]
      have e33 : a.eval (.tmp 33) = .bool true := (he 8 33 (by kernel_rfl) rfl).trans (hR 8 (by kernel_rfl))
      have e40 : a.eval (.tmp 40) = .bool true := (he 15 40 (by kernel_rfl) rfl).trans (hR 15 (by kernel_rfl))
      refine wp_value (v := .bool true) ?_ (hK _ _ rfl (grown_refl W _))
      simp only [execOp, e33, e40]
      try go_simp
      try (first | rfl | omega | (simp only [IntKind.wrap_i64, IntKind.wrap_u8, IntKind.wrap_u64, IntKind.wrap_u16, IntKind.wrap_u32]; omega) | (rw [Int.tmod_eq_emod_of_nonneg (by omega)]) | (rw [Int.tmod_eq_emod_of_nonneg (by omega)]; omega))
    · intro a vs W hX hR he hf K hK
      rw [if_pos (wanted_none rfl)]
      have e41 : a.eval (.tmp 41) = .bool true := (he 16 41 (by kernel_rfl) rfl).trans (hR 16 (by kernel_rfl))
      refine wp_value (v := .bool true) ?_ (hK _ _ rfl (grown_refl W _))
      simp only [execOp, e41]
      try go_simp
      try (first | rfl | omega | (simp only [IntKind.wrap_i64, IntKind.wrap_u8, IntKind.wrap_u64, IntKind.wrap_u16, IntKind.wrap_u32]; omega) | (rw [Int.tmod_eq_emod_of_nonneg (by omega)]) | (rw [Int.tmod_eq_emod_of_nonneg (by omega)]; omega))
    · intro vs W hX hR
      have q0 := hR 0 (by decide)
      have q1 := hR 1 (by decide)
      have q2 := hR 2 (by decide)
      have q3 := hR 3 (by decide)
      have q4 := hR 4 (by decide)
      have q5 := hR 5 (by decide)
      have q6 := hR 6 (by decide)
      have q7 := hR 7 (by decide)
      have q8 := hR 8 (by decide)
      have q9 := hR 9 (by decide)
      have q10 := hR 10 (by decide)
      have q11 := hR 11 (by decide)
      have q12 := hR 12 (by decide)
      have q13 := hR 13 (by decide)
      have q14 := hR 14 (by decide)
      have q15 := hR 15 (by decide)
      have q16 := hR 16 (by decide)
      have q17 := hR 17 (by decide)
      change vs 0 = .agg (par6 l).1.cells.toArray at q0
      change vs 1 = .agg (par6 l).1.cells.toArray at q1
      change vs 2 = .bool true at q2
      change vs 3 = .bool true at q3
      change vs 4 = .int .i64 (par6 l).2 at q4
      change vs 5 = .int .i64 (par6 l).2 at q5
      change vs 6 = .bool true at q6
      change vs 7 = .bool true at q7
      change vs 8 = .bool true at q8
      change vs 9 = .slice A n c at q9
      change (BsR (body6 l)) (vs 10) W at q10
      change vs 11 = str (body6 l) at q11
      change vs 12 = .slice A n c at q12
      change vs 13 = str l at q13
      change vs 14 = str (body6 l) at q14
      change vs 15 = .bool true at q15
      change vs 16 = .bool true at q16
      change vs 17 = .bool true at q17
      simp only [putAll, Act.put, List.setIfInBounds_toArray, List.set_cons_zero, List.set_cons_succ, q0, q1, q2, q3, q4, q5, q6, q7, q8, q9, q11, q12, q13, q14, q15, q16, q17]
      clear q0 q1 q2 q3 q4 q5 q6 q7 q8 q9 q11 q12 q13 q14 q15 q16 q17
      clear hR
      go_wp2
      go_ret
      exact ⟨rfl, bthen HW7.out (bthen (below_drew _) (grow_below hX))⟩

  · have hs' : (2000 : Int) < (n : Int) := by omega
    go_enter Try.func3, Try.ntmps3
    go_wp2_with fail
    refine (awake_any w).mono ?_
    rintro e w1 ⟨rfl, hb1⟩
    go_wp2
    go_ret
    exact ⟨rfl, hb1⟩

set_option maxHeartbeats 4000000 in
theorem walk_Ip6Puts (w : World) (h : H6) (hf : h.fit) (b1 : Bs) (hb1 : b1.ok w) (b2 : Bs) (hb2 : b2.ok w) : Calls Try.prog 4 #[.agg h.cells.toArray, b1.v, b2.v] w fun e w' => e = .returned (.bool true) ∧ Below w.heap.size w w' := by
  obtain ⟨A, n, c, l⟩ := b1
  obtain ⟨A', n', c', l'⟩ := b2
  have hll := hb1.len
  have hll' := hb2.len
  have ht := hf.ttl
  simp only [Bs.v] at hll hll' ⊢
  have HO := Lib.hid hb1
  have HP := Lib.hid hb2
  have HF := Lib.hid hf
  have HT := Lib.hid ht
  clear hb1 hb2 hf ht
  by_cases hs : n ≤ 70000
  · have hs1 : ¬ (70000 : Int) < (n : Int) := by omega
    by_cases hs' : n' ≤ 2000
    · have hs2 : ¬ (2000 : Int) < (n' : Int) := by omega
      go_enter Try.func4, Try.ntmps4
      go_wp2_with (refine wpList_box_blk rfl 26 _ rfl h.cells rfl ?_; intro w1 hbb1 hB1 hs1; have HB1 := Lib.hid hbb1; have HW1 := Lib.hid hB1; clear hbb1 hs1)
      refine (awake_any w1).mono ?_
      rintro e w2 ⟨rfl, hb2⟩
      have HW2 := Lib.hid (bthen hB1 hb2)
      have HO2 := Lib.hid (HO.out.below (bthen hB1 hb2))
      have HP2 := Lib.hid (HP.out.below (bthen hB1 hb2))
      have HB2 := Lib.hid (HB1.out.on hb2)
      clear HB1 HW1 HO HP hB1 hb2
      go_wp2_with (refine wpList_load_blk rfl 26 _ rfl w.heap.size rfl 26 _ _ HB2.out Try.underlying26 rfl (size6 _ HF.out.ok) ?_)
      refine (put6_any h HF.out A n c l w2 HO2.out.row HO2.out.le HO2.out.cap).mono ?_
      rintro e w3 ⟨⟨A3, n3, c3, l3⟩, rfl, hl3, ho3, hb3⟩
      simp only at hl3
      subst hl3
      have HW3 := Lib.hid (bthen HW2.out hb3)
      have HO3 := Lib.hid (HO2.out.below hb3)
      have HP3 := Lib.hid (HP2.out.below hb3)
      have HB3 := Lib.hid (HB2.out.on hb3)
      have HX3 := Lib.hid ho3
      clear HB2 HW2 HO2 HP2 ho3 hb3
      simp only [Bs.v]
      go_wp2_with (first
        | (refine wpList_load_blk rfl 26 _ rfl w.heap.size rfl 26 _ _ HB3.out Try.underlying26 rfl (size6 _ HF.out.ok) ?_)
        | (refine wpList_str rfl (.tmp 35) 22 9 5 rfl Try.underlying22 Try.underlying5 Try.underlying9 _ A n c l rfl HO3.out.row ?_))
      refine (rput6_any h HF.out l w3 (by omega)).mono ?_
      rintro e w4 ⟨rfl, hb4⟩
      have HW4 := Lib.hid (bthen HW3.out hb4)
      have HP4 := Lib.hid (HP3.out.below hb4)
      have hb4B := HB3.out.on hb4
      have HX4 := Lib.hid (HX3.out.below hb4)
      clear HB3 HW3 HO3 HP3 HX3 hb4
      have c4 : w4.cell? ⟨w.heap.size, 4, none⟩ = some (.int .u8 h.ttl) := hb4B.cell 4
      have HB4 := Lib.hid hb4B
      clear hb4B
      go_wp2_with fail
      refine (ttl6_any A' n' c' l' h.ttl w4 HP4.out.row HP4.out.le HP4.out.cap (by omega) HT.out.1 HT.out.2).mono ?_
      rintro e w5 ⟨⟨A5, n5, c5, l5⟩, rfl, hl5, ho5, hb5⟩
      simp only at hl5
      subst hl5
      have HW5 := Lib.hid (bthen HW4.out hb5)
      have HP5 := Lib.hid (HP4.out.below hb5)
      have hb5B := HB4.out.on hb5
      have HX5 := Lib.hid (HX4.out.below hb5)
      have HY5 := Lib.hid ho5
      clear HB4 HW4 HP4 HX4 hb5 c4 ho5
      have c5' : w5.cell? ⟨w.heap.size, 4, none⟩ = some (.int .u8 h.ttl) := hb5B.cell 4
      clear hb5B
      simp only [Bs.v]
      go_wp2_with (refine wpList_str rfl (.tmp 48) 22 9 5 rfl Try.underlying22 Try.underlying5 Try.underlying9 _ A' n' c' l' rfl HP5.out.row ?_)
      refine (rttl6_any l' h.ttl w5 (by omega) HT.out.1 HT.out.2).mono ?_
      rintro e w6 ⟨rfl, hb6⟩
      have HW6 := Lib.hid (bthen HW5.out hb6)
      have HX6 := Lib.hid (HX5.out.below hb6)
      have HY6 := Lib.hid (HY5.out.below hb6)
      clear HW5 HP5 HX5 HY5 hb6 c5'
      go_wp2_with (first
        | (refine wpList_str (by rfl) (.tmp 55) 22 9 5 rfl Try.underlying22 Try.underlying5 Try.underlying9 _ A3 n3 c3 _ (by rfl) HX6.out.row ?_)
        | (refine wpList_str (by rfl) (.tmp 65) 22 9 5 rfl Try.underlying22 Try.underlying5 Try.underlying9 _ A5 n5 c5 _ (by rfl) HY6.out.row ?_))
      go_ret
      exact ⟨rfl, HW6.out⟩
    · have hs2 : (2000 : Int) < (n' : Int) := by omega
      go_enter Try.func4, Try.ntmps4
      go_wp2_with (refine wpList_box_blk rfl 26 _ rfl h.cells rfl ?_; intro w1 hbb1 hB1 hs1)
      refine (awake_any w1).mono ?_
      rintro e w2 ⟨rfl, hb2⟩
      go_wp2
      go_ret
      exact ⟨rfl, bthen hB1 hb2⟩
  · have hs1 : (70000 : Int) < (n : Int) := by omega
    go_enter Try.func4, Try.ntmps4
    go_wp2_with (refine wpList_box_blk rfl 26 _ rfl h.cells rfl ?_; intro w1 hbb1 hB1 hs1)
    refine (awake_any w1).mono ?_
    rintro e w2 ⟨rfl, hb2⟩
    go_wp2
    go_ret
    exact ⟨rfl, bthen hB1 hb2⟩

end Go.Proofs.Ytaakcecjdmdhbaa

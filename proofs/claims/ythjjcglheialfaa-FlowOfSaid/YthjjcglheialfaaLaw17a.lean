/- The walk of layer 17 (flow): Of. No condition but those of the rows. -/
import Derived.Test.YthjjcglheialfaaLaw17
import Derived.Test.YthjjcglheialfaaOpen
namespace Go.Proofs.Ythjjcglheialfaa
open Go.RowKit
set_option linter.unusedVariables false
set_option maxRecDepth 20000
set_option linter.unusedSimpArgs false

theorem ofK_ok (l : List UInt8) : (ofK l).1.ok := by
  unfold ofK
  split
  · split
    · exact portsF_ok _ (key4F_ok l) _
    · exact key4F_ok l
  · split
    · exact portsF_ok _ (key6F_ok l) _
    · exact Ky.zero_ok
set_option maxHeartbeats 4000000 in
theorem walk_FlowOf (w : World) (b : Bs) (hb : b.ok w) : Calls Try.prog 3 #[b.v] w fun e w' => e = .returned (.bool true) ∧ Below w.heap.size w w' := by
  obtain ⟨A, n, c, l⟩ := b
  have hll := hb.len
  simp only [Bs.v] at hll ⊢
  by_cases hs : n ≤ 2000
  · have hs' : ¬ (2000 : Int) < (n : Int) := by omega
    have HO := Lib.hid hb
    clear hb
    have hko := ofK_ok l
    have h1 := fun W h => of17_any A n c l W h HO.out.le HO.out.cap (by omega)
    have h2 := fun W => rof17_any l W (by omega)
    cases hok : ofK l with
    | mk K0 B0 =>
    rw [hok] at hko h1 h2
    simp only at hko h1 h2
    have HKO := Lib.hid hko
    have H1 := Lib.hid h1
    have H2 := Lib.hid h2
    clear hko h1 h2 hok
    go_enter Try.func3, Try.ntmps3
    go_wp2_with fail
    refine (awake_any w).mono ?_
    rintro e w1 ⟨rfl, hb1⟩
    have HW := Lib.hid hb1
    replace HO := Lib.hid (HO.out.below hb1)
    clear hb1
    go_wp2_with fail
    refine (H1.out w1 HO.out.row).mono ?_
    rintro e w2 ⟨rfl, hb2⟩
    replace HW := Lib.hid (bthen HW.out hb2)
    replace HO := Lib.hid (HO.out.below hb2)
    clear hb2
    go_wp2_with (first
      | (refine wpList_alloc_blk rfl 26 rfl Ky.zero.cells zeroK ?_; intro w3 hbw3 hBw3 hsw3)
      | (refine wpList_store_all rfl 26 _ _ rfl w2.heap.size K0.cells rfl rfl 26 _ hbw3 (sizeK _ HKO.out) (Ky.cells_same _ _ HKO.out Ky.zero_ok) (Ky.one _) ?_; intro w4 hbw4 hgw4 hsw4; have hBw4 : Below w2.heap.size w2 w4 := bgrown hBw3 hgw4 (by omega) (by omega); replace HO := Lib.hid (HO.out.below hBw4); replace HW := Lib.hid (bthen HW.out hBw4); have HB4 := Lib.hid hbw4)
      | (refine wpList_str (by rfl) (.tmp 20) 22 9 5 rfl Try.underlying22 Try.underlying5 Try.underlying9 _ A n c l (by rfl) HO.out.row ?_))
    clear hBw3 hsw3 hBw4 hgw4 hsw4 hbw4
    refine (H2.out w4).mono ?_
    rintro e w5 ⟨rfl, hb5⟩
    replace HW := Lib.hid (bthen HW.out hb5)
    replace HB4 := Lib.hid (HB4.out.on hb5)
    clear hb5
    go_wp2_with (first
      | (refine wpList_alloc_blk rfl 29 rfl Ky.zero.cells zeroR ?_; intro w6 hbw6 hBw6 hsw6)
      | (refine wpList_store_all rfl 29 _ _ rfl w5.heap.size K0.cells rfl rfl 29 _ hbw6 (sizeR _ HKO.out) (Ky.cells_same _ _ HKO.out Ky.zero_ok) (Ky.one _) ?_; intro w7 hbw7 hgw7 hsw7; have hBw7 : Below w5.heap.size w5 w7 := bgrown hBw6 hgw7 (by omega) (by omega)))
    replace HW := Lib.hid (bthen HW.out hBw7)
    replace HB4 := Lib.hid (HB4.out.on hBw7)
    clear hBw6 hsw6 hBw7 hgw7 hsw7
    refine wp_region_rel (fun A B => A.grownBy B none) (fun A => grown_refl A _) (fun A B C h k => grown_trans h k) (relAt (List.cons (fun v _ => v = .agg K0.cells.toArray) (List.cons (fun v _ => v = .agg K0.cells.toArray) (List.cons (fun v _ => v = .agg K0.cells.toArray) (List.cons (fun v _ => v = .bool true) (List.cons (fun v _ => v = .bool true) (List.cons (fun v _ => v = .bool B0) (List.cons (fun v _ => v = .bool B0) (List.cons (fun v _ => v = .bool true) (List.cons (fun v _ => v = .bool true) (List.cons (fun v _ => v = .bool true) ([])))))))))))) (MonoL.at_ (.cons (mono_val _) (.cons (mono_val _) (.cons (mono_val _) (.cons (mono_val _) (.cons (mono_val _) (.cons (mono_val _) (.cons (mono_val _) (.cons (mono_val _) (.cons (mono_val _) (.cons (mono_val _) .nil))))))))))) (by kernel_rfl) (by kernel_rfl) ⟨?_, ?_, ?_, ?_, ?_, ?_, ?_, ?_, ?_, ?_, trivial⟩ ?_
    · intro a vs W hX hR he hf K hK
      rw [if_pos (wanted_none rfl)]
      have e4 : a.eval (.tmp 4) = .pointer (some ⟨w2.heap.size, 0, none⟩) := hf 4 (by kernel_rfl)
      have hbW := bthen (below_drew _) (grow_below hX)
      exact wp_value (exec_load 26 _ rfl w2.heap.size e4 26 K0.cells _ (HB4.out.on hbW) Try.underlying26 rfl (sizeK _ HKO.out)) (hK _ _ rfl (grown_refl W _))
    · intro a vs W hX hR he hf K hK
      rw [if_pos (wanted_none rfl)]
      have e25 : a.eval (.tmp 25) = .agg K0.cells.toArray := (he 0 25 (by kernel_rfl) rfl).trans (hR 0 (by kernel_rfl))
      refine wp_enter (f := 10) (args := #[.agg K0.cells.toArray]) (by simp only [execOp, e25]; go_simp; simpa [Act.eval] using e25) ((plain_any K0 HKO.out W).mono ?_)
      rintro e w' ⟨rfl, hb⟩
      exact ⟨_, rfl, hK _ _ rfl (below_grow hb _)⟩
    · intro a vs W hX hR he hf K hK
      rw [if_pos (wanted_none rfl)]
      have e6 : a.eval (.tmp 6) = .pointer (some ⟨w5.heap.size, 0, none⟩) := hf 6 (by kernel_rfl)
      have hbW := bthen (below_drew _) (grow_below hX)
      exact wp_value (exec_load 29 _ rfl w5.heap.size e6 29 K0.cells _ (hbw7.on hbW) Try.underlying29 rfl (sizeR _ HKO.out)) (hK _ _ rfl (grown_refl W _))
    · intro a vs W hX hR he hf K hK
      rw [if_pos (wanted_none rfl)]
      have e26 : a.eval (.tmp 26) = .agg K0.cells.toArray := (he 1 26 (by kernel_rfl) rfl).trans (hR 1 (by kernel_rfl))
      have e27 : a.eval (.tmp 27) = .agg K0.cells.toArray := (he 2 27 (by kernel_rfl) rfl).trans (hR 2 (by kernel_rfl))
      exact wp_value (exec_eqR _ _ _ rfl K0 HKO.out e26 e27) (hK _ _ rfl (grown_refl W _))
    · intro a vs W hX hR he hf K hK
      rw [if_pos (wanted_none rfl)]
      have e28 : a.eval (.tmp 28) = .bool true := (he 3 28 (by kernel_rfl) rfl).trans (hR 3 (by kernel_rfl))
      refine wp_value (v := .bool true) ?_ (hK _ _ rfl (grown_refl W _))
      simp only [execOp, e28]
      try go_simp
      try (first | rfl | omega | (simp only [IntKind.wrap_i64, IntKind.wrap_u8, IntKind.wrap_u64, IntKind.wrap_u16, IntKind.wrap_u32]; omega) | (rw [Int.tmod_eq_emod_of_nonneg (by omega)]) | (rw [Int.tmod_eq_emod_of_nonneg (by omega)]; omega))
    · intro a vs W hX hR he hf K hK
      have e29 : a.eval (.tmp 29) = .bool true := (he 4 29 (by kernel_rfl) rfl).trans (hR 4 (by kernel_rfl))
      refine Eq.mpr (if_pos (by exact (wanted_some rfl rfl e29).trans rfl)) ?_
      have e5 : a.eval (.tmp 5) = .bool B0 := hf 5 (by kernel_rfl)
      refine wp_value (v := .bool B0) ?_ (hK _ _ rfl (grown_refl W _))
      simp only [execOp, e5]
      try go_simp
      try (first | rfl | omega | (simp only [IntKind.wrap_i64, IntKind.wrap_u8, IntKind.wrap_u64, IntKind.wrap_u16, IntKind.wrap_u32]; omega) | (rw [Int.tmod_eq_emod_of_nonneg (by omega)]) | (rw [Int.tmod_eq_emod_of_nonneg (by omega)]; omega))
    · intro a vs W hX hR he hf K hK
      have e29 : a.eval (.tmp 29) = .bool true := (he 4 29 (by kernel_rfl) rfl).trans (hR 4 (by kernel_rfl))
      refine Eq.mpr (if_pos (by exact (wanted_some rfl rfl e29).trans rfl)) ?_
      have e7 : a.eval (.tmp 7) = .bool B0 := hf 7 (by kernel_rfl)
      refine wp_value (v := .bool B0) ?_ (hK _ _ rfl (grown_refl W _))
      simp only [execOp, e7]
      try go_simp
      try (first | rfl | omega | (simp only [IntKind.wrap_i64, IntKind.wrap_u8, IntKind.wrap_u64, IntKind.wrap_u16, IntKind.wrap_u32]; omega) | (rw [Int.tmod_eq_emod_of_nonneg (by omega)]) | (rw [Int.tmod_eq_emod_of_nonneg (by omega)]; omega))
    · intro a vs W hX hR he hf K hK
      have e29 : a.eval (.tmp 29) = .bool true := (he 4 29 (by kernel_rfl) rfl).trans (hR 4 (by kernel_rfl))
      refine Eq.mpr (if_pos (by exact (wanted_some rfl rfl e29).trans rfl)) ?_
      have e30 : a.eval (.tmp 30) = .bool B0 := (he 5 30 (by kernel_rfl) rfl).trans (hR 5 (by kernel_rfl))
      have e31 : a.eval (.tmp 31) = .bool B0 := (he 6 31 (by kernel_rfl) rfl).trans (hR 6 (by kernel_rfl))
      refine wp_value (v := .bool true) ?_ (hK _ _ rfl (grown_refl W _))
      simp only [execOp, e30, e31]
      cases B0 <;> go_simp
    · intro a vs W hX hR he hf K hK
      rw [if_pos (wanted_none rfl)]
      have e29 : a.eval (.tmp 29) = .bool true := (he 4 29 (by kernel_rfl) rfl).trans (hR 4 (by kernel_rfl))
      have e32 : a.eval (.tmp 32) = .bool true := (he 7 32 (by kernel_rfl) rfl).trans (hR 7 (by kernel_rfl))
      refine wp_value (v := .bool true) ?_ (hK _ _ rfl (grown_refl W _))
      simp only [execOp, e29, e32]
      try go_simp
      try (first | rfl | omega | (simp only [IntKind.wrap_i64, IntKind.wrap_u8, IntKind.wrap_u64, IntKind.wrap_u16, IntKind.wrap_u32]; omega) | (rw [Int.tmod_eq_emod_of_nonneg (by omega)]) | (rw [Int.tmod_eq_emod_of_nonneg (by omega)]; omega))
    · intro a vs W hX hR he hf K hK
      rw [if_pos (wanted_none rfl)]
      have e33 : a.eval (.tmp 33) = .bool true := (he 8 33 (by kernel_rfl) rfl).trans (hR 8 (by kernel_rfl))
      refine wp_value (v := .bool true) ?_ (hK _ _ rfl (grown_refl W _))
      simp only [execOp, e33]
      try go_simp
      try (first | rfl | omega | (simp only [IntKind.wrap_i64, IntKind.wrap_u8, IntKind.wrap_u64, IntKind.wrap_u16, IntKind.wrap_u32]; omega) | (rw [Int.tmod_eq_emod_of_nonneg (by omega)]) | (rw [Int.tmod_eq_emod_of_nonneg (by omega)]; omega))
    · intro vs w8 hX8 hR
      have q0 := hR 0 (by decide)
      have q1 := hR 1 (by decide)
      have q2 := hR 2 (by decide)
      have q3 := hR 3 (by decide)
      have q4 := hR 4 (by decide)
      have q5 := hR 5 (by decide)
      have q6 := hR 6 (by decide)
      have q7 := hR 7 (by decide)
      have q8 := hR 8 (by decide)
      have q9 := hR 9 (by decide)
      change vs 0 = .agg K0.cells.toArray at q0
      change vs 1 = .agg K0.cells.toArray at q1
      change vs 2 = .agg K0.cells.toArray at q2
      change vs 3 = .bool true at q3
      change vs 4 = .bool true at q4
      change vs 5 = .bool B0 at q5
      change vs 6 = .bool B0 at q6
      change vs 7 = .bool true at q7
      change vs 8 = .bool true at q8
      change vs 9 = .bool true at q9
      simp only [putAll, Act.put, List.setIfInBounds_toArray, List.set_cons_zero, List.set_cons_succ, q0, q1, q2, q3, q4, q5, q6, q7, q8, q9]
      clear q0 q1 q2 q3 q4 q5 q6 q7 q8 q9
      clear hR
      go_wp2
      go_ret
      exact ⟨rfl, bthen HW.out (bthen (below_drew _) (grow_below hX8))⟩
  · have hs' : (2000 : Int) < (n : Int) := by omega
    have HO := Lib.hid hb
    clear hb
    go_enter Try.func3, Try.ntmps3
    go_wp2_with fail
    refine (awake_any w).mono ?_
    rintro e w1 ⟨rfl, hb1⟩
    go_wp2_with fail
    go_ret
    exact ⟨rfl, hb1⟩
end Go.Proofs.Ythjjcglheialfaa

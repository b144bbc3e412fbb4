/- The walk of layer 17 (flow): Mixes. No condition but those of the rows. -/
import Derived.Test.YthjjcglheialfaaLaw17
import Derived.Test.YthjjcglheialfaaOpenEnt
import Derived.Test.YthjjcglheialfaaOpenKey
namespace Go.Proofs.Ythjjcglheialfaa
open Go.RowKit
set_option linter.unusedVariables false
set_option maxRecDepth 20000
set_option linter.unusedSimpArgs false

set_option maxHeartbeats 4000000 in
theorem walk_FlowMixes (w : World) (k : Ky) (hk : k.fit) (A : Option Addr) (n c : Nat) (l : List Ent) (hr : Row w w.heap.size 4 A n (evs l)) (hc : n ≤ c) (hcm : c ≤ maxLen) (hl : ∀ x ∈ l, x.wf) (b : Bs) (hb : b.ok w) :
    Calls Try.prog 4 #[.agg k.cells.toArray, .slice A n c, b.v] w fun e w' => e = .returned (.bool true) ∧ Below w.heap.size w w' := by
  obtain ⟨B, m, d, lb⟩ := b
  have hll := hb.len
  simp only [Bs.v] at hll ⊢
  by_cases h1 : n ≤ 40
  · have h1' : ¬ (40 : Int) < (n : Int) := by omega
    by_cases h2 : m ≤ 500
    · have h2' : ¬ (500 : Int) < (m : Int) := by omega
      have HKF := Lib.hid hk
      have HO := Lib.hid hb
      have HR := Lib.hid hr
      have HL : Hid (∀ x ∈ l, -9223372036854775808 ≤ x.label ∧ x.label ≤ 9223372036854775807) := Lib.hid (fun x hx => bd_i64 (hl x hx).label)
      clear hk hb hr hl
      go_enter Try.func4, Try.ntmps4
      go_wp2_with (refine wpList_box_blk rfl 26 _ rfl k.cells rfl ?_; intro w1 hbb1 hB1 hs1; have HB := Lib.hid hbb1; clear hbb1 hs1)
      refine (awake_any w1).mono ?_
      rintro e w2 ⟨rfl, hb2⟩
      have HW := Lib.hid (bthen hB1 hb2)
      replace HB := Lib.hid (HB.out.on hb2)
      replace HO := Lib.hid (HO.out.below HW.out)
      replace HR := Lib.hid ((HR.out.below HW.out).more HW.out.size)
      clear hB1 hb2
      go_wp2_with fail
      refine wp_region_rel (fun A B => A.grownBy B none) (fun A => grown_refl A _) (fun A B C h k => grown_trans h k) (relAt (List.cons (fun v _ => v = .agg k.cells.toArray) (List.cons (OwnR w2.heap.size (bytesF k)) (List.cons (fun v _ => v = str (bytesF k)) (List.cons (fun v _ => v = .agg k.cells.toArray) (List.cons (fun v _ => v = .agg k.cells.toArray) (List.cons (fun v _ => v = str (bytesF k)) (List.cons (fun v _ => v = .bool true) (List.cons (fun v _ => v = .bool true) (List.cons (fun v _ => v = .slice B m d) (List.cons (fun v _ => v = .int .u32 (mixF lb : Nat)) (List.cons (fun v _ => v = .slice B m d) (List.cons (fun v _ => v = str lb) (List.cons (fun v _ => v = .int .u32 (mixF lb : Nat)) (List.cons (fun v _ => v = .bool true) (List.cons (fun v _ => v = .bool true) (List.cons (fun v _ => v = .bool true) (List.cons (fun v _ => v = .agg k.cells.toArray) (List.cons (fun v _ => v = .slice A n c) (List.cons (fun v _ => v = .int .u32 (hashF k l : Nat)) (List.cons (fun v _ => v = .agg k.cells.toArray) (List.cons (fun v _ => v = .agg k.cells.toArray) (List.cons (fun v _ => v = .slice A n c) (List.cons (fun v _ => v = .int .u32 (hashF k l : Nat)) (List.cons (fun v _ => v = .bool true) (List.cons (fun v _ => v = .bool true) (List.cons (fun v _ => v = .bool true) ([])))))))))))))))))))))))))))) (MonoL.at_ (.cons (mono_val _) (.cons (mono_own _ _) (.cons (mono_val _) (.cons (mono_val _) (.cons (mono_val _) (.cons (mono_val _) (.cons (mono_val _) (.cons (mono_val _) (.cons (mono_val _) (.cons (mono_val _) (.cons (mono_val _) (.cons (mono_val _) (.cons (mono_val _) (.cons (mono_val _) (.cons (mono_val _) (.cons (mono_val _) (.cons (mono_val _) (.cons (mono_val _) (.cons (mono_val _) (.cons (mono_val _) (.cons (mono_val _) (.cons (mono_val _) (.cons (mono_val _) (.cons (mono_val _) (.cons (mono_val _) (.cons (mono_val _) .nil))))))))))))))))))))))))))) (by kernel_rfl) (by kernel_rfl) ⟨?_, ?_, ?_, ?_, ?_, ?_, ?_, ?_, ?_, ?_, ?_, ?_, ?_, ?_, ?_, ?_, ?_, ?_, ?_, ?_, ?_, ?_, ?_, ?_, ?_, ?_, trivial⟩ ?_
      · intro a vs W hX hR he hf K hK
        rw [if_pos (wanted_none rfl)]
        have e3 : a.eval (.tmp 3) = .pointer (some ⟨w.heap.size, 0, none⟩) := hf 3 (by kernel_rfl)
        have hbW := bthen (below_drew _) (grow_below hX)
        exact wp_value (exec_load 26 _ rfl w.heap.size e3 26 k.cells _ (HB.out.on hbW) Try.underlying26 rfl (sizeK _ HKF.out.ok)) (hK _ _ rfl (grown_refl W _))
      · intro a vs W hX hR he hf K hK
        rw [if_pos (wanted_none rfl)]
        have e19 : a.eval (.tmp 19) = .agg k.cells.toArray := (he 0 19 (by kernel_rfl) rfl).trans (hR 0 (by kernel_rfl))
        have hs2 : w2.heap.size ≤ W.heap.size := (grow_below hX).size
        refine wp_enter (f := 11) (args := #[.agg k.cells.toArray]) (by simp only [execOp, e19]; go_simp; simpa [Act.eval] using e19) ((bytes17_any k HKF.out W).mono ?_)
        rintro e w' ⟨A', n', c', rfl, ho, hb⟩
        exact ⟨_, rfl, hK _ _ ⟨A', n', c', rfl, ho.mono hs2⟩ (below_grow hb _)⟩
      · intro a vs W hX hR he hf K hK
        rw [if_pos (wanted_none rfl)]
        have e20 := he 1 20 (by kernel_rfl) rfl
        have p20 := hR 1 (by kernel_rfl)
        change (OwnR w2.heap.size (bytesF k)) (vs 1) W at p20
        obtain ⟨A', n', c', hv, ho⟩ := p20
        rw [hv] at e20
        exact wp_value (exec_str 22 9 5 _ rfl Try.underlying22 Try.underlying5 Try.underlying9 A' n' c' (bytesF k) e20 ho.ok) (hK _ _ rfl (grown_refl W _))
      · intro a vs W hX hR he hf K hK
        rw [if_pos (wanted_none rfl)]
        have e3 : a.eval (.tmp 3) = .pointer (some ⟨w.heap.size, 0, none⟩) := hf 3 (by kernel_rfl)
        have hbW := bthen (below_drew _) (grow_below hX)
        exact wp_value (exec_load 26 _ rfl w.heap.size e3 26 k.cells _ (HB.out.on hbW) Try.underlying26 rfl (sizeK _ HKF.out.ok)) (hK _ _ rfl (grown_refl W _))
      · intro a vs W hX hR he hf K hK
        rw [if_pos (wanted_none rfl)]
        have e22 : a.eval (.tmp 22) = .agg k.cells.toArray := (he 3 22 (by kernel_rfl) rfl).trans (hR 3 (by kernel_rfl))
        refine wp_enter (f := 10) (args := #[.agg k.cells.toArray]) (by simp only [execOp, e22]; go_simp; simpa [Act.eval] using e22) ((plain_any k HKF.out.ok W).mono ?_)
        rintro e w' ⟨rfl, hb⟩
        exact ⟨_, rfl, hK _ _ rfl (below_grow hb _)⟩
      · intro a vs W hX hR he hf K hK
        rw [if_pos (wanted_none rfl)]
        have e23 : a.eval (.tmp 23) = .agg k.cells.toArray := (he 4 23 (by kernel_rfl) rfl).trans (hR 4 (by kernel_rfl))
        refine wp_enter (f := 12) (args := #[.agg k.cells.toArray]) (by simp only [execOp, e23]; go_simp; simpa [Act.eval] using e23) ((rbytes17_any k HKF.out W).mono ?_)
        rintro e w' ⟨rfl, hb⟩
        exact ⟨_, rfl, hK _ _ rfl (below_grow hb _)⟩
      · intro a vs W hX hR he hf K hK
        rw [if_pos (wanted_none rfl)]
        have e21 : a.eval (.tmp 21) = str (bytesF k) := (he 2 21 (by kernel_rfl) rfl).trans (hR 2 (by kernel_rfl))
        have e24 : a.eval (.tmp 24) = str (bytesF k) := (he 5 24 (by kernel_rfl) rfl).trans (hR 5 (by kernel_rfl))
        refine wp_value (v := .bool true) ?_ (hK _ _ rfl (grown_refl W _))
        simp only [execOp, e21, e24]
        try go_simp
        try (first | rfl | omega | (simp only [IntKind.wrap_i64, IntKind.wrap_u8, IntKind.wrap_u64, IntKind.wrap_u16, IntKind.wrap_u32]; omega) | (rw [Int.tmod_eq_emod_of_nonneg (by omega)]) | (rw [Int.tmod_eq_emod_of_nonneg (by omega)]; omega))
      · intro a vs W hX hR he hf K hK
        rw [if_pos (wanted_none rfl)]
        have e25 : a.eval (.tmp 25) = .bool true := (he 6 25 (by kernel_rfl) rfl).trans (hR 6 (by kernel_rfl))
        refine wp_value (v := .bool true) ?_ (hK _ _ rfl (grown_refl W _))
        simp only [execOp, e25]
        try go_simp
        try (first | rfl | omega | (simp only [IntKind.wrap_i64, IntKind.wrap_u8, IntKind.wrap_u64, IntKind.wrap_u16, IntKind.wrap_u32]; omega) | (rw [Int.tmod_eq_emod_of_nonneg (by omega)]) | (rw [Int.tmod_eq_emod_of_nonneg (by omega)]; omega))
      · intro a vs W hX hR he hf K hK
        have e26 : a.eval (.tmp 26) = .bool true := (he 7 26 (by kernel_rfl) rfl).trans (hR 7 (by kernel_rfl))
        refine Eq.mpr (if_pos (by exact (wanted_some rfl rfl e26).trans rfl)) ?_
        have e2 : a.eval (.tmp 2) = .slice B m d := hf 2 (by kernel_rfl)
        refine wp_value (v := .slice B m d) ?_ (hK _ _ rfl (grown_refl W _))
        simp only [execOp, e2]
        try go_simp
        try (first | rfl | omega | (simp only [IntKind.wrap_i64, IntKind.wrap_u8, IntKind.wrap_u64, IntKind.wrap_u16, IntKind.wrap_u32]; omega) | (rw [Int.tmod_eq_emod_of_nonneg (by omega)]) | (rw [Int.tmod_eq_emod_of_nonneg (by omega)]; omega))
      · intro a vs W hX hR he hf K hK
        have e26 : a.eval (.tmp 26) = .bool true := (he 7 26 (by kernel_rfl) rfl).trans (hR 7 (by kernel_rfl))
        refine Eq.mpr (if_pos (by exact (wanted_some rfl rfl e26).trans rfl)) ?_
        have e27 : a.eval (.tmp 27) = .slice B m d := (he 8 27 (by kernel_rfl) rfl).trans (hR 8 (by kernel_rfl))
        have hbW := bthen (below_drew _) (grow_below hX)
        refine wp_enter (f := 13) (args := #[.slice B m d]) (by simp only [execOp, e27]; go_simp; simpa [Act.eval] using e27) ((mix_any B m d lb W (HO.out.below hbW).row (by omega)).mono ?_)
        rintro e w' ⟨rfl, hb⟩
        subst hb
        exact ⟨_, rfl, hK _ _ rfl (grown_refl W _)⟩
      · intro a vs W hX hR he hf K hK
        have e26 : a.eval (.tmp 26) = .bool true := (he 7 26 (by kernel_rfl) rfl).trans (hR 7 (by kernel_rfl))
        refine Eq.mpr (if_pos (by exact (wanted_some rfl rfl e26).trans rfl)) ?_
        have e2 : a.eval (.tmp 2) = .slice B m d := hf 2 (by kernel_rfl)
        refine wp_value (v := .slice B m d) ?_ (hK _ _ rfl (grown_refl W _))
        simp only [execOp, e2]
        try go_simp
        try (first | rfl | omega | (simp only [IntKind.wrap_i64, IntKind.wrap_u8, IntKind.wrap_u64, IntKind.wrap_u16, IntKind.wrap_u32]; omega) | (rw [Int.tmod_eq_emod_of_nonneg (by omega)]) | (rw [Int.tmod_eq_emod_of_nonneg (by omega)]; omega))
      · intro a vs W hX hR he hf K hK
        have e26 : a.eval (.tmp 26) = .bool true := (he 7 26 (by kernel_rfl) rfl).trans (hR 7 (by kernel_rfl))
        refine Eq.mpr (if_pos (by exact (wanted_some rfl rfl e26).trans rfl)) ?_
        have e29 : a.eval (.tmp 29) = .slice B m d := (he 10 29 (by kernel_rfl) rfl).trans (hR 10 (by kernel_rfl))
        have hbW := bthen (below_drew _) (grow_below hX)
        exact wp_value (exec_str 22 9 5 _ rfl Try.underlying22 Try.underlying5 Try.underlying9 B m d lb e29 (HO.out.below hbW)) (hK _ _ rfl (grown_refl W _))
      · intro a vs W hX hR he hf K hK
        have e26 : a.eval (.tmp 26) = .bool true := (he 7 26 (by kernel_rfl) rfl).trans (hR 7 (by kernel_rfl))
        refine Eq.mpr (if_pos (by exact (wanted_some rfl rfl e26).trans rfl)) ?_
        have e30 : a.eval (.tmp 30) = str lb := (he 11 30 (by kernel_rfl) rfl).trans (hR 11 (by kernel_rfl))
        refine wp_enter (f := 14) (args := #[str lb]) (by simp only [execOp, e30]; go_simp; simpa [Act.eval] using e30) ((rmix_any lb W (by omega)).mono ?_)
        rintro e w' ⟨rfl, hb⟩
        subst hb
        exact ⟨_, rfl, hK _ _ rfl (grown_refl W _)⟩
      · intro a vs W hX hR he hf K hK
        have e26 : a.eval (.tmp 26) = .bool true := (he 7 26 (by kernel_rfl) rfl).trans (hR 7 (by kernel_rfl))
        refine Eq.mpr (if_pos (by exact (wanted_some rfl rfl e26).trans rfl)) ?_
        have e28 : a.eval (.tmp 28) = .int .u32 (mixF lb : Nat) := (he 9 28 (by kernel_rfl) rfl).trans (hR 9 (by kernel_rfl))
        have e31 : a.eval (.tmp 31) = .int .u32 (mixF lb : Nat) := (he 12 31 (by kernel_rfl) rfl).trans (hR 12 (by kernel_rfl))
        refine wp_value (v := .bool true) ?_ (hK _ _ rfl (grown_refl W _))
        simp only [execOp, e28, e31]
        try go_simp
        try (first | rfl | omega | (simp only [IntKind.wrap_i64, IntKind.wrap_u8, IntKind.wrap_u64, IntKind.wrap_u16, IntKind.wrap_u32]; omega) | (rw [Int.tmod_eq_emod_of_nonneg (by omega)]) | (rw [Int.tmod_eq_emod_of_nonneg (by omega)]; omega))
      · intro a vs W hX hR he hf K hK
        rw [if_pos (wanted_none rfl)]
        have e26 : a.eval (.tmp 26) = .bool true := (he 7 26 (by kernel_rfl) rfl).trans (hR 7 (by kernel_rfl))
        have e32 : a.eval (.tmp 32) = .bool true := (he 13 32 (by kernel_rfl) rfl).trans (hR 13 (by kernel_rfl))
        refine wp_value (v := .bool true) ?_ (hK _ _ rfl (grown_refl W _))
        simp only [execOp, e26, e32]
        try go_simp
        try (first | rfl | omega | (simp only [IntKind.wrap_i64, IntKind.wrap_u8, IntKind.wrap_u64, IntKind.wrap_u16, IntKind.wrap_u32]; omega) | (rw [Int.tmod_eq_emod_of_nonneg (by omega)]) | (rw [Int.tmod_eq_emod_of_nonneg (by omega)]; omega))
      · intro a vs W hX hR he hf K hK
        rw [if_pos (wanted_none rfl)]
        have e33 : a.eval (.tmp 33) = .bool true := (he 14 33 (by kernel_rfl) rfl).trans (hR 14 (by kernel_rfl))
        refine wp_value (v := .bool true) ?_ (hK _ _ rfl (grown_refl W _))
        simp only [execOp, e33]
        try go_simp
        try (first | rfl | omega | (simp only [IntKind.wrap_i64, IntKind.wrap_u8, IntKind.wrap_u64, IntKind.wrap_u16, IntKind.wrap_u32]; omega) | (rw [Int.tmod_eq_emod_of_nonneg (by omega)]) | (rw [Int.tmod_eq_emod_of_nonneg (by omega)]; omega))
      · intro a vs W hX hR he hf K hK
        have e34 : a.eval (.tmp 34) = .bool true := (he 15 34 (by kernel_rfl) rfl).trans (hR 15 (by kernel_rfl))
        refine Eq.mpr (if_pos (by exact (wanted_some rfl rfl e34).trans rfl)) ?_
        have e3 : a.eval (.tmp 3) = .pointer (some ⟨w.heap.size, 0, none⟩) := hf 3 (by kernel_rfl)
        have hbW := bthen (below_drew _) (grow_below hX)
        exact wp_value (exec_load 26 _ rfl w.heap.size e3 26 k.cells _ (HB.out.on hbW) Try.underlying26 rfl (sizeK _ HKF.out.ok)) (hK _ _ rfl (grown_refl W _))
      · intro a vs W hX hR he hf K hK
        have e34 : a.eval (.tmp 34) = .bool true := (he 15 34 (by kernel_rfl) rfl).trans (hR 15 (by kernel_rfl))
        refine Eq.mpr (if_pos (by exact (wanted_some rfl rfl e34).trans rfl)) ?_
        have e1 : a.eval (.tmp 1) = .slice A n c := hf 1 (by kernel_rfl)
        refine wp_value (v := .slice A n c) ?_ (hK _ _ rfl (grown_refl W _))
        simp only [execOp, e1]
        try go_simp
        try (first | rfl | omega | (simp only [IntKind.wrap_i64, IntKind.wrap_u8, IntKind.wrap_u64, IntKind.wrap_u16, IntKind.wrap_u32]; omega) | (rw [Int.tmod_eq_emod_of_nonneg (by omega)]) | (rw [Int.tmod_eq_emod_of_nonneg (by omega)]; omega))
      · intro a vs W hX hR he hf K hK
        have e34 : a.eval (.tmp 34) = .bool true := (he 15 34 (by kernel_rfl) rfl).trans (hR 15 (by kernel_rfl))
        refine Eq.mpr (if_pos (by exact (wanted_some rfl rfl e34).trans rfl)) ?_
        have e35 : a.eval (.tmp 35) = .agg k.cells.toArray := (he 16 35 (by kernel_rfl) rfl).trans (hR 16 (by kernel_rfl))
        have e36 : a.eval (.tmp 36) = .slice A n c := (he 17 36 (by kernel_rfl) rfl).trans (hR 17 (by kernel_rfl))
        have hbW := bthen (below_drew _) (grow_below hX)
        refine wp_enter (f := 15) (args := #[.agg k.cells.toArray, .slice A n c]) (by simp only [execOp, e35, e36]; go_simp; exact ⟨by simpa [Act.eval] using e35, by simpa [Act.eval] using e36⟩) ((hash_any k HKF.out A n c l W ((HR.out.below hbW).more hbW.size) HL.out (by omega)).mono ?_)
        rintro e w' ⟨rfl, hb⟩
        exact ⟨_, rfl, hK _ _ rfl (below_grow hb _)⟩
      · intro a vs W hX hR he hf K hK
        have e34 : a.eval (.tmp 34) = .bool true := (he 15 34 (by kernel_rfl) rfl).trans (hR 15 (by kernel_rfl))
        refine Eq.mpr (if_pos (by exact (wanted_some rfl rfl e34).trans rfl)) ?_
        have e3 : a.eval (.tmp 3) = .pointer (some ⟨w.heap.size, 0, none⟩) := hf 3 (by kernel_rfl)
        have hbW := bthen (below_drew _) (grow_below hX)
        exact wp_value (exec_load 26 _ rfl w.heap.size e3 26 k.cells _ (HB.out.on hbW) Try.underlying26 rfl (sizeK _ HKF.out.ok)) (hK _ _ rfl (grown_refl W _))
      · intro a vs W hX hR he hf K hK
        have e34 : a.eval (.tmp 34) = .bool true := (he 15 34 (by kernel_rfl) rfl).trans (hR 15 (by kernel_rfl))
        refine Eq.mpr (if_pos (by exact (wanted_some rfl rfl e34).trans rfl)) ?_
        have e38 : a.eval (.tmp 38) = .agg k.cells.toArray := (he 19 38 (by kernel_rfl) rfl).trans (hR 19 (by kernel_rfl))
        refine wp_enter (f := 10) (args := #[.agg k.cells.toArray]) (by simp only [execOp, e38]; go_simp; simpa [Act.eval] using e38) ((plain_any k HKF.out.ok W).mono ?_)
        rintro e w' ⟨rfl, hb⟩
        exact ⟨_, rfl, hK _ _ rfl (below_grow hb _)⟩
      · intro a vs W hX hR he hf K hK
        have e34 : a.eval (.tmp 34) = .bool true := (he 15 34 (by kernel_rfl) rfl).trans (hR 15 (by kernel_rfl))
        refine Eq.mpr (if_pos (by exact (wanted_some rfl rfl e34).trans rfl)) ?_
        have e1 : a.eval (.tmp 1) = .slice A n c := hf 1 (by kernel_rfl)
        refine wp_value (v := .slice A n c) ?_ (hK _ _ rfl (grown_refl W _))
        simp only [execOp, e1]
        try go_simp
        try (first | rfl | omega | (simp only [IntKind.wrap_i64, IntKind.wrap_u8, IntKind.wrap_u64, IntKind.wrap_u16, IntKind.wrap_u32]; omega) | (rw [Int.tmod_eq_emod_of_nonneg (by omega)]) | (rw [Int.tmod_eq_emod_of_nonneg (by omega)]; omega))
      · intro a vs W hX hR he hf K hK
        have e34 : a.eval (.tmp 34) = .bool true := (he 15 34 (by kernel_rfl) rfl).trans (hR 15 (by kernel_rfl))
        refine Eq.mpr (if_pos (by exact (wanted_some rfl rfl e34).trans rfl)) ?_
        have e39 : a.eval (.tmp 39) = .agg k.cells.toArray := (he 20 39 (by kernel_rfl) rfl).trans (hR 20 (by kernel_rfl))
        have e40 : a.eval (.tmp 40) = .slice A n c := (he 21 40 (by kernel_rfl) rfl).trans (hR 21 (by kernel_rfl))
        have hbW := bthen (below_drew _) (grow_below hX)
        refine wp_enter (f := 16) (args := #[.agg k.cells.toArray, .slice A n c]) (by simp only [execOp, e39, e40]; go_simp; exact ⟨by simpa [Act.eval] using e39, by simpa [Act.eval] using e40⟩) ((rhash_any k HKF.out A n c l W ((HR.out.below hbW).more hbW.size) HL.out (by omega)).mono ?_)
        rintro e w' ⟨rfl, hb⟩
        exact ⟨_, rfl, hK _ _ rfl (below_grow hb _)⟩
      · intro a vs W hX hR he hf K hK
        have e34 : a.eval (.tmp 34) = .bool true := (he 15 34 (by kernel_rfl) rfl).trans (hR 15 (by kernel_rfl))
        refine Eq.mpr (if_pos (by exact (wanted_some rfl rfl e34).trans rfl)) ?_
        have e37 : a.eval (.tmp 37) = .int .u32 (hashF k l : Nat) := (he 18 37 (by kernel_rfl) rfl).trans (hR 18 (by kernel_rfl))
        have e41 : a.eval (.tmp 41) = .int .u32 (hashF k l : Nat) := (he 22 41 (by kernel_rfl) rfl).trans (hR 22 (by kernel_rfl))
        refine wp_value (v := .bool true) ?_ (hK _ _ rfl (grown_refl W _))
        simp only [execOp, e37, e41]
        try go_simp
        try (first | rfl | omega | (simp only [IntKind.wrap_i64, IntKind.wrap_u8, IntKind.wrap_u64, IntKind.wrap_u16, IntKind.wrap_u32]; omega) | (rw [Int.tmod_eq_emod_of_nonneg (by omega)]) | (rw [Int.tmod_eq_emod_of_nonneg (by omega)]; omega))
      · intro a vs W hX hR he hf K hK
        rw [if_pos (wanted_none rfl)]
        have e34 : a.eval (.tmp 34) = .bool true := (he 15 34 (by kernel_rfl) rfl).trans (hR 15 (by kernel_rfl))
        have e42 : a.eval (.tmp 42) = .bool true := (he 23 42 (by kernel_rfl) rfl).trans (hR 23 (by kernel_rfl))
        refine wp_value (v := .bool true) ?_ (hK _ _ rfl (grown_refl W _))
        simp only [execOp, e34, e42]
        try go_simp
        try (first | rfl | omega | (simp only [IntKind.wrap_i64, IntKind.wrap_u8, IntKind.wrap_u64, IntKind.wrap_u16, IntKind.wrap_u32]; omega) | (rw [Int.tmod_eq_emod_of_nonneg (by omega)]) | (rw [Int.tmod_eq_emod_of_nonneg (by omega)]; omega))
      · intro a vs W hX hR he hf K hK
        rw [if_pos (wanted_none rfl)]
        have e43 : a.eval (.tmp 43) = .bool true := (he 24 43 (by kernel_rfl) rfl).trans (hR 24 (by kernel_rfl))
        refine wp_value (v := .bool true) ?_ (hK _ _ rfl (grown_refl W _))
        simp only [execOp, e43]
        try go_simp
        try (first | rfl | omega | (simp only [IntKind.wrap_i64, IntKind.wrap_u8, IntKind.wrap_u64, IntKind.wrap_u16, IntKind.wrap_u32]; omega) | (rw [Int.tmod_eq_emod_of_nonneg (by omega)]) | (rw [Int.tmod_eq_emod_of_nonneg (by omega)]; omega))
      · intro vs w3 hX3 hR
        have q0 := hR 0 (by decide)
        have q1 := hR 1 (by decide)
        have q2 := hR 2 (by decide)
        have q3 := hR 3 (by decide)
        have q4 := hR 4 (by decide)
        have q5 := hR 5 (by decide)
        have q6 := hR 6 (by decide)
        have q7 := hR 7 (by decide)
        have q8 := hR 8 (by decide)
        have q9 := hR 9 (by decide)
        have q10 := hR 10 (by decide)
        have q11 := hR 11 (by decide)
        have q12 := hR 12 (by decide)
        have q13 := hR 13 (by decide)
        have q14 := hR 14 (by decide)
        have q15 := hR 15 (by decide)
        have q16 := hR 16 (by decide)
        have q17 := hR 17 (by decide)
        have q18 := hR 18 (by decide)
        have q19 := hR 19 (by decide)
        have q20 := hR 20 (by decide)
        have q21 := hR 21 (by decide)
        have q22 := hR 22 (by decide)
        have q23 := hR 23 (by decide)
        have q24 := hR 24 (by decide)
        have q25 := hR 25 (by decide)
        change vs 0 = .agg k.cells.toArray at q0
        change (OwnR w2.heap.size (bytesF k)) (vs 1) w3 at q1
        change vs 2 = str (bytesF k) at q2
        change vs 3 = .agg k.cells.toArray at q3
        change vs 4 = .agg k.cells.toArray at q4
        change vs 5 = str (bytesF k) at q5
        change vs 6 = .bool true at q6
        change vs 7 = .bool true at q7
        change vs 8 = .slice B m d at q8
        change vs 9 = .int .u32 (mixF lb : Nat) at q9
        change vs 10 = .slice B m d at q10
        change vs 11 = str lb at q11
        change vs 12 = .int .u32 (mixF lb : Nat) at q12
        change vs 13 = .bool true at q13
        change vs 14 = .bool true at q14
        change vs 15 = .bool true at q15
        change vs 16 = .agg k.cells.toArray at q16
        change vs 17 = .slice A n c at q17
        change vs 18 = .int .u32 (hashF k l : Nat) at q18
        change vs 19 = .agg k.cells.toArray at q19
        change vs 20 = .agg k.cells.toArray at q20
        change vs 21 = .slice A n c at q21
        change vs 22 = .int .u32 (hashF k l : Nat) at q22
        change vs 23 = .bool true at q23
        change vs 24 = .bool true at q24
        change vs 25 = .bool true at q25
        simp only [putAll, Act.put, List.setIfInBounds_toArray, List.set_cons_zero, List.set_cons_succ, q0, q2, q3, q4, q5, q6, q7, q8, q9, q10, q11, q12, q13, q14, q15, q16, q17, q18, q19, q20, q21, q22, q23, q24, q25]
        clear q0 q2 q3 q4 q5 q6 q7 q8 q9 q10 q11 q12 q13 q14 q15 q16 q17 q18 q19 q20 q21 q22 q23 q24 q25
        clear hR
        go_wp2
        go_ret
        exact ⟨rfl, bthen HW.out (bthen (below_drew _) (grow_below hX3))⟩
    · have h2' : (500 : Int) < (m : Int) := by omega
      have HKF := Lib.hid hk
      have HO := Lib.hid hb
      have HR := Lib.hid hr
      have HL : Hid (∀ x ∈ l, -9223372036854775808 ≤ x.label ∧ x.label ≤ 9223372036854775807) := Lib.hid (fun x hx => bd_i64 (hl x hx).label)
      clear hk hb hr hl
      go_enter Try.func4, Try.ntmps4
      go_wp2_with (refine wpList_box_blk rfl 26 _ rfl k.cells rfl ?_; intro w1 hbb1 hB1 hs1; have HB := Lib.hid hbb1; clear hbb1 hs1)
      refine (awake_any w1).mono ?_
      rintro e w2 ⟨rfl, hb2⟩
      have HW := Lib.hid (bthen hB1 hb2)
      replace HB := Lib.hid (HB.out.on hb2)
      replace HO := Lib.hid (HO.out.below HW.out)
      replace HR := Lib.hid ((HR.out.below HW.out).more HW.out.size)
      clear hB1 hb2
      go_wp2_with fail
      go_ret
      exact ⟨rfl, HW.out⟩
  · have h1' : (40 : Int) < (n : Int) := by omega
    have HKF := Lib.hid hk
    have HO := Lib.hid hb
    have HR := Lib.hid hr
    have HL : Hid (∀ x ∈ l, -9223372036854775808 ≤ x.label ∧ x.label ≤ 9223372036854775807) := Lib.hid (fun x hx => bd_i64 (hl x hx).label)
    clear hk hb hr hl
    go_enter Try.func4, Try.ntmps4
    go_wp2_with (refine wpList_box_blk rfl 26 _ rfl k.cells rfl ?_; intro w1 hbb1 hB1 hs1; have HB := Lib.hid hbb1; clear hbb1 hs1)
    refine (awake_any w1).mono ?_
    rintro e w2 ⟨rfl, hb2⟩
    have HW := Lib.hid (bthen hB1 hb2)
    replace HB := Lib.hid (HB.out.on hb2)
    replace HO := Lib.hid (HO.out.below HW.out)
    replace HR := Lib.hid ((HR.out.below HW.out).more HW.out.size)
    clear hB1 hb2
    go_wp2_with fail
    go_ret
    exact ⟨rfl, HW.out⟩
end Go.Proofs.Ythjjcglheialfaa

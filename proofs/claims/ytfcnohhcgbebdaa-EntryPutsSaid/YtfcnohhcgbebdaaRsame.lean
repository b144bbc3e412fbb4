/- What the reference's Same computes. No condition but sizes. -/
import Derived.Test.YtfcnohhcgbebdaaSame
import Derived.Test.YtfcnohhcgbebdaaRel
namespace Go.Proofs.Ytfcnohhcgbebdaa
open Go.RowKit
set_option linter.unusedVariables false
set_option linter.unusedSimpArgs false

set_option maxHeartbeats 4000000 in
theorem rsame_any (A A2 : Option Addr) (n n2 c c2 : Nat) (l l2 : List Ent) (w : World) (h1 : Row w w.heap.size 4 A n (evs l)) (h2 : Row w w.heap.size 4 A2 n2 (evs l2)) (hn : n ≤ 1099511627776) (hn2 : n2 ≤ 1099511627776) :
    Calls Try.prog 19 #[.slice A n c, .slice A2 n2 c2] w fun e w' => e = .returned (.bool (sameF l l2)) ∧ Below w.heap.size w w' := by
  have hl1 := ent_len h1
  have hl2 := ent_len h2
  by_cases hne : n = n2
  · subst hne
    have HR1 := Lib.hid h1
    have HR2 := Lib.hid h2
    have HL1 := Lib.hid hl1
    have HL2 := Lib.hid hl2
    clear h1 h2 hl1 hl2
    go_enter Try.func19, Try.ntmps19
    go_wp2_with fail
    go_loopw [5] (fun i wr => ∃ (k : Nat), k ≤ n ∧ i = .int .i64 k ∧ sameF l l2 = sameF (l.drop k) (l2.drop k) ∧ Below w.heap.size w wr) (fun i _ => n - (intOf i).toNat)
    case atStart => exact ⟨0, by omega, rfl, rfl, Below.refl _ _⟩
    case round =>
      obtain ⟨k, hk, rfl, hs, hbr⟩ := hrel
      by_cases hlt : k < n
      · obtain ⟨x, hx⟩ : ∃ x, l[k]? = some x := ⟨_, List.getElem?_eq_getElem (by have := HL1.out; omega)⟩
        obtain ⟨y, hy⟩ : ∃ y, l2[k]? = some y := ⟨_, List.getElem?_eq_getElem (by have := HL2.out; omega)⟩
        rw [sameF_drop l l2 k x y hx hy] at hs
        obtain ⟨b, o, rfl, hb, a0, a1, a2, a3⟩ := ent_row (HR1.out.below hbr) k x hx
        obtain ⟨b2, o2, rfl, hb2, b0, b1, b2', b3⟩ := ent_row (HR2.out.below hbr) k y hy
        have hsz := hbr.size
        have hlt1 : b < wr.heap.size := by omega
        have hlt2 : b2 < wr.heap.size := by omega
        have HB := Lib.hid hbr
        have KA0 := Lib.hid (fun W (h : Below wr.heap.size wr W) => (h.cell (p := ⟨b, o + k * 4, none⟩) hlt1).trans a0)
        have KA1 := Lib.hid (fun W (h : Below wr.heap.size wr W) => (h.cell (p := ⟨b, o + k * 4 + 1, none⟩) hlt1).trans a1)
        have KA3 := Lib.hid (fun W (h : Below wr.heap.size wr W) => (h.cell (p := ⟨b, o + k * 4 + 3, none⟩) hlt1).trans a3)
        have KB0 := Lib.hid (fun W (h : Below wr.heap.size wr W) => (h.cell (p := ⟨b2, o2 + k * 4, none⟩) hlt2).trans b0)
        have KB1 := Lib.hid (fun W (h : Below wr.heap.size wr W) => (h.cell (p := ⟨b2, o2 + k * 4 + 1, none⟩) hlt2).trans b1)
        have KB3 := Lib.hid (fun W (h : Below wr.heap.size wr W) => (h.cell (p := ⟨b2, o2 + k * 4 + 3, none⟩) hlt2).trans b3)
        clear hx hy a0 a1 a2 a3 b0 b1 b2' b3 hbr
        by_cases q0 : x.label = y.label
        · by_cases q1 : x.cls = y.cls
          · by_cases q2 : x.ttl = y.ttl
            · rw [show sameE x y = true by simp [sameE, q0, q1, q2], Bool.true_and] at hs
              have HS := Lib.hid hs
              clear hs
              go_wp2_with fail
              refine wp_region_rel (fun A B => A.grownBy B none) (fun A => grown_refl A _) (fun A B C h k => grown_trans h k) (relAt (List.cons (fun v _ => v = .slice (some ⟨b, o, none⟩) n c) (List.cons (fun v _ => v = .int .i64 (k : Int)) (List.cons (fun v _ => v = .pointer (some ⟨b, o + k * 4, none⟩)) (List.cons (fun v _ => v = .pointer (some ⟨b, o + k * 4, none⟩)) (List.cons (fun v _ => v = .int .i64 x.label) (List.cons (fun v _ => v = .slice (some ⟨b2, o2, none⟩) n c2) (List.cons (fun v _ => v = .int .i64 (k : Int)) (List.cons (fun v _ => v = .pointer (some ⟨b2, o2 + k * 4, none⟩)) (List.cons (fun v _ => v = .pointer (some ⟨b2, o2 + k * 4, none⟩)) (List.cons (fun v _ => v = .int .i64 y.label) (List.cons (fun v _ => v = .bool false) (List.cons (fun v _ => v = .bool false) (List.cons (fun v _ => v = .slice (some ⟨b, o, none⟩) n c) (List.cons (fun v _ => v = .int .i64 (k : Int)) (List.cons (fun v _ => v = .pointer (some ⟨b, o + k * 4, none⟩)) (List.cons (fun v _ => v = .pointer (some ⟨b, o + k * 4 + 1, none⟩)) (List.cons (fun v _ => v = .int .u8 x.cls) (List.cons (fun v _ => v = .slice (some ⟨b2, o2, none⟩) n c2) (List.cons (fun v _ => v = .int .i64 (k : Int)) (List.cons (fun v _ => v = .pointer (some ⟨b2, o2 + k * 4, none⟩)) (List.cons (fun v _ => v = .pointer (some ⟨b2, o2 + k * 4 + 1, none⟩)) (List.cons (fun v _ => v = .int .u8 y.cls) (List.cons (fun v _ => v = .bool false) (List.cons (fun v _ => v = .bool false) (List.cons (fun v _ => v = .bool false) (List.cons (fun v _ => v = .slice (some ⟨b, o, none⟩) n c) (List.cons (fun v _ => v = .int .i64 (k : Int)) (List.cons (fun v _ => v = .pointer (some ⟨b, o + k * 4, none⟩)) (List.cons (fun v _ => v = .pointer (some ⟨b, o + k * 4 + 3, none⟩)) (List.cons (fun v _ => v = .int .u8 x.ttl) (List.cons (fun v _ => v = .slice (some ⟨b2, o2, none⟩) n c2) (List.cons (fun v _ => v = .int .i64 (k : Int)) (List.cons (fun v _ => v = .pointer (some ⟨b2, o2 + k * 4, none⟩)) (List.cons (fun v _ => v = .pointer (some ⟨b2, o2 + k * 4 + 3, none⟩)) (List.cons (fun v _ => v = .int .u8 y.ttl) (List.cons (fun v _ => v = .bool false) (List.cons (fun v _ => v = .bool false) ([]))))))))))))))))))))))))))))))))))))))) (MonoL.at_ (.cons (mono_val _) (.cons (mono_val _) (.cons (mono_val _) (.cons (mono_val _) (.cons (mono_val _) (.cons (mono_val _) (.cons (mono_val _) (.cons (mono_val _) (.cons (mono_val _) (.cons (mono_val _) (.cons (mono_val _) (.cons (mono_val _) (.cons (mono_val _) (.cons (mono_val _) (.cons (mono_val _) (.cons (mono_val _) (.cons (mono_val _) (.cons (mono_val _) (.cons (mono_val _) (.cons (mono_val _) (.cons (mono_val _) (.cons (mono_val _) (.cons (mono_val _) (.cons (mono_val _) (.cons (mono_val _) (.cons (mono_val _) (.cons (mono_val _) (.cons (mono_val _) (.cons (mono_val _) (.cons (mono_val _) (.cons (mono_val _) (.cons (mono_val _) (.cons (mono_val _) (.cons (mono_val _) (.cons (mono_val _) (.cons (mono_val _) (.cons (mono_val _) .nil)))))))))))))))))))))))))))))))))))))) (by kernel_rfl) (by kernel_rfl) ⟨?_, ?_, ?_, ?_, ?_, ?_, ?_, ?_, ?_, ?_, ?_, ?_, ?_, ?_, ?_, ?_, ?_, ?_, ?_, ?_, ?_, ?_, ?_, ?_, ?_, ?_, ?_, ?_, ?_, ?_, ?_, ?_, ?_, ?_, ?_, ?_, ?_, trivial⟩ ?_
              · intro a vs W hX hR he hf K hK
                rw [if_pos (wanted_none rfl)]
                have e0 : a.eval (.tmp 0) = .slice (some ⟨b, o, none⟩) n c := hf 0 (by kernel_rfl)
                refine wp_value (v := .slice (some ⟨b, o, none⟩) n c) ?_ (hK _ _ rfl (grown_refl W _))
                simp only [execOp, e0]
                try go_simp
                try (first | rfl | omega | (simp only [IntKind.wrap_i64, IntKind.wrap_u8, IntKind.wrap_u64, IntKind.wrap_u16, IntKind.wrap_u32]; omega) | (rw [Int.tmod_eq_emod_of_nonneg (by omega)]) | (rw [Int.tmod_eq_emod_of_nonneg (by omega)]; omega))
              · intro a vs W hX hR he hf K hK
                rw [if_pos (wanted_none rfl)]
                have e5 : a.eval (.tmp 5) = .int .i64 (k : Int) := hf 5 (by kernel_rfl)
                refine wp_value (v := .int .i64 (k : Int)) ?_ (hK _ _ rfl (grown_refl W _))
                simp only [execOp, e5]
                try go_simp
                try (first | rfl | omega | (simp only [IntKind.wrap_i64, IntKind.wrap_u8, IntKind.wrap_u64, IntKind.wrap_u16, IntKind.wrap_u32]; omega) | (rw [Int.tmod_eq_emod_of_nonneg (by omega)]) | (rw [Int.tmod_eq_emod_of_nonneg (by omega)]; omega))
              · intro a vs W hX hR he hf K hK
                rw [if_pos (wanted_none rfl)]
                have e17 : a.eval (.tmp 17) = .slice (some ⟨b, o, none⟩) n c := (he 0 17 (by kernel_rfl) rfl).trans (hR 0 (by kernel_rfl))
                have e18 : a.eval (.tmp 18) = .int .i64 (k : Int) := (he 1 18 (by kernel_rfl) rfl).trans (hR 1 (by kernel_rfl))
                refine wp_value (v := _) ?_ (hK _ _ rfl (grown_refl W _))
                simp only [execOp, e17, e18]
                go_simp
              · intro a vs W hX hR he hf K hK
                rw [if_pos (wanted_none rfl)]
                have e19 : a.eval (.tmp 19) = .pointer (some ⟨b, o + k * 4, none⟩) := (he 2 19 (by kernel_rfl) rfl).trans (hR 2 (by kernel_rfl))
                refine wp_value (v := .pointer (some ⟨b, o + k * 4, none⟩)) ?_ (hK _ _ rfl (grown_refl W _))
                simp only [execOp, e19]
                try go_simp
                try (first | rfl | omega | (simp only [IntKind.wrap_i64, IntKind.wrap_u8, IntKind.wrap_u64, IntKind.wrap_u16, IntKind.wrap_u32]; omega) | (rw [Int.tmod_eq_emod_of_nonneg (by omega)]) | (rw [Int.tmod_eq_emod_of_nonneg (by omega)]; omega))
              · intro a vs W hX hR he hf K hK
                rw [if_pos (wanted_none rfl)]
                have e20 : a.eval (.tmp 20) = .pointer (some ⟨b, o + k * 4, none⟩) := (he 3 20 (by kernel_rfl) rfl).trans (hR 3 (by kernel_rfl))
                have hbW := bthen (below_drewN (Below.refl _ _) 1) (grow_below hX)
                have hc := (KA0.out W hbW)
                refine wp_value (v := _) ?_ (hK _ _ rfl (grown_refl W _))
                simp only [execOp, e20]
                go_simp
              · intro a vs W hX hR he hf K hK
                rw [if_pos (wanted_none rfl)]
                have e1 : a.eval (.tmp 1) = .slice (some ⟨b2, o2, none⟩) n c2 := hf 1 (by kernel_rfl)
                refine wp_value (v := .slice (some ⟨b2, o2, none⟩) n c2) ?_ (hK _ _ rfl (grown_refl W _))
                simp only [execOp, e1]
                try go_simp
                try (first | rfl | omega | (simp only [IntKind.wrap_i64, IntKind.wrap_u8, IntKind.wrap_u64, IntKind.wrap_u16, IntKind.wrap_u32]; omega) | (rw [Int.tmod_eq_emod_of_nonneg (by omega)]) | (rw [Int.tmod_eq_emod_of_nonneg (by omega)]; omega))
              · intro a vs W hX hR he hf K hK
                rw [if_pos (wanted_none rfl)]
                have e5 : a.eval (.tmp 5) = .int .i64 (k : Int) := hf 5 (by kernel_rfl)
                refine wp_value (v := .int .i64 (k : Int)) ?_ (hK _ _ rfl (grown_refl W _))
                simp only [execOp, e5]
                try go_simp
                try (first | rfl | omega | (simp only [IntKind.wrap_i64, IntKind.wrap_u8, IntKind.wrap_u64, IntKind.wrap_u16, IntKind.wrap_u32]; omega) | (rw [Int.tmod_eq_emod_of_nonneg (by omega)]) | (rw [Int.tmod_eq_emod_of_nonneg (by omega)]; omega))
              · intro a vs W hX hR he hf K hK
                rw [if_pos (wanted_none rfl)]
                have e22 : a.eval (.tmp 22) = .slice (some ⟨b2, o2, none⟩) n c2 := (he 5 22 (by kernel_rfl) rfl).trans (hR 5 (by kernel_rfl))
                have e23 : a.eval (.tmp 23) = .int .i64 (k : Int) := (he 6 23 (by kernel_rfl) rfl).trans (hR 6 (by kernel_rfl))
                refine wp_value (v := _) ?_ (hK _ _ rfl (grown_refl W _))
                simp only [execOp, e22, e23]
                go_simp
              · intro a vs W hX hR he hf K hK
                rw [if_pos (wanted_none rfl)]
                have e24 : a.eval (.tmp 24) = .pointer (some ⟨b2, o2 + k * 4, none⟩) := (he 7 24 (by kernel_rfl) rfl).trans (hR 7 (by kernel_rfl))
                refine wp_value (v := .pointer (some ⟨b2, o2 + k * 4, none⟩)) ?_ (hK _ _ rfl (grown_refl W _))
                simp only [execOp, e24]
                try go_simp
                try (first | rfl | omega | (simp only [IntKind.wrap_i64, IntKind.wrap_u8, IntKind.wrap_u64, IntKind.wrap_u16, IntKind.wrap_u32]; omega) | (rw [Int.tmod_eq_emod_of_nonneg (by omega)]) | (rw [Int.tmod_eq_emod_of_nonneg (by omega)]; omega))
              · intro a vs W hX hR he hf K hK
                rw [if_pos (wanted_none rfl)]
                have e25 : a.eval (.tmp 25) = .pointer (some ⟨b2, o2 + k * 4, none⟩) := (he 8 25 (by kernel_rfl) rfl).trans (hR 8 (by kernel_rfl))
                have hbW := bthen (below_drewN (Below.refl _ _) 1) (grow_below hX)
                have hc := (KB0.out W hbW)
                refine wp_value (v := _) ?_ (hK _ _ rfl (grown_refl W _))
                simp only [execOp, e25]
                go_simp
              · intro a vs W hX hR he hf K hK
                rw [if_pos (wanted_none rfl)]
                have e21 : a.eval (.tmp 21) = .int .i64 x.label := (he 4 21 (by kernel_rfl) rfl).trans (hR 4 (by kernel_rfl))
                have e26 : a.eval (.tmp 26) = .int .i64 y.label := (he 9 26 (by kernel_rfl) rfl).trans (hR 9 (by kernel_rfl))
                refine wp_value (v := _) ?_ (hK _ _ rfl (grown_refl W _))
                simp only [execOp, e21, e26]
                go_simp
                try simp [q0]
              · intro a vs W hX hR he hf K hK
                rw [if_pos (wanted_none rfl)]
                have e27 : a.eval (.tmp 27) = .bool false := (he 10 27 (by kernel_rfl) rfl).trans (hR 10 (by kernel_rfl))
                refine wp_value (v := .bool false) ?_ (hK _ _ rfl (grown_refl W _))
                simp only [execOp, e27]
                try go_simp
                try (first | rfl | omega | (simp only [IntKind.wrap_i64, IntKind.wrap_u8, IntKind.wrap_u64, IntKind.wrap_u16, IntKind.wrap_u32]; omega) | (rw [Int.tmod_eq_emod_of_nonneg (by omega)]) | (rw [Int.tmod_eq_emod_of_nonneg (by omega)]; omega))
              · intro a vs W hX hR he hf K hK
                have e28 : a.eval (.tmp 28) = .bool false := (he 11 28 (by kernel_rfl) rfl).trans (hR 11 (by kernel_rfl))
                refine Eq.mpr (if_pos (by exact (wanted_some rfl rfl e28).trans rfl)) ?_
                have e0 : a.eval (.tmp 0) = .slice (some ⟨b, o, none⟩) n c := hf 0 (by kernel_rfl)
                refine wp_value (v := .slice (some ⟨b, o, none⟩) n c) ?_ (hK _ _ rfl (grown_refl W _))
                simp only [execOp, e0]
                try go_simp
                try (first | rfl | omega | (simp only [IntKind.wrap_i64, IntKind.wrap_u8, IntKind.wrap_u64, IntKind.wrap_u16, IntKind.wrap_u32]; omega) | (rw [Int.tmod_eq_emod_of_nonneg (by omega)]) | (rw [Int.tmod_eq_emod_of_nonneg (by omega)]; omega))
              · intro a vs W hX hR he hf K hK
                have e28 : a.eval (.tmp 28) = .bool false := (he 11 28 (by kernel_rfl) rfl).trans (hR 11 (by kernel_rfl))
                refine Eq.mpr (if_pos (by exact (wanted_some rfl rfl e28).trans rfl)) ?_
                have e5 : a.eval (.tmp 5) = .int .i64 (k : Int) := hf 5 (by kernel_rfl)
                refine wp_value (v := .int .i64 (k : Int)) ?_ (hK _ _ rfl (grown_refl W _))
                simp only [execOp, e5]
                try go_simp
                try (first | rfl | omega | (simp only [IntKind.wrap_i64, IntKind.wrap_u8, IntKind.wrap_u64, IntKind.wrap_u16, IntKind.wrap_u32]; omega) | (rw [Int.tmod_eq_emod_of_nonneg (by omega)]) | (rw [Int.tmod_eq_emod_of_nonneg (by omega)]; omega))
              · intro a vs W hX hR he hf K hK
                have e28 : a.eval (.tmp 28) = .bool false := (he 11 28 (by kernel_rfl) rfl).trans (hR 11 (by kernel_rfl))
                refine Eq.mpr (if_pos (by exact (wanted_some rfl rfl e28).trans rfl)) ?_
                have e29 : a.eval (.tmp 29) = .slice (some ⟨b, o, none⟩) n c := (he 12 29 (by kernel_rfl) rfl).trans (hR 12 (by kernel_rfl))
                have e30 : a.eval (.tmp 30) = .int .i64 (k : Int) := (he 13 30 (by kernel_rfl) rfl).trans (hR 13 (by kernel_rfl))
                refine wp_value (v := _) ?_ (hK _ _ rfl (grown_refl W _))
                simp only [execOp, e29, e30]
                go_simp
              · intro a vs W hX hR he hf K hK
                have e28 : a.eval (.tmp 28) = .bool false := (he 11 28 (by kernel_rfl) rfl).trans (hR 11 (by kernel_rfl))
                refine Eq.mpr (if_pos (by exact (wanted_some rfl rfl e28).trans rfl)) ?_
                have e31 : a.eval (.tmp 31) = .pointer (some ⟨b, o + k * 4, none⟩) := (he 14 31 (by kernel_rfl) rfl).trans (hR 14 (by kernel_rfl))
                refine wp_value (v := .pointer (some ⟨b, o + k * 4 + 1, none⟩)) ?_ (hK _ _ rfl (grown_refl W _))
                simp only [execOp, e31]
                try go_simp
                try (first | rfl | omega | (simp only [IntKind.wrap_i64, IntKind.wrap_u8, IntKind.wrap_u64, IntKind.wrap_u16, IntKind.wrap_u32]; omega) | (rw [Int.tmod_eq_emod_of_nonneg (by omega)]) | (rw [Int.tmod_eq_emod_of_nonneg (by omega)]; omega))
              · intro a vs W hX hR he hf K hK
                have e28 : a.eval (.tmp 28) = .bool false := (he 11 28 (by kernel_rfl) rfl).trans (hR 11 (by kernel_rfl))
                refine Eq.mpr (if_pos (by exact (wanted_some rfl rfl e28).trans rfl)) ?_
                have e32 : a.eval (.tmp 32) = .pointer (some ⟨b, o + k * 4 + 1, none⟩) := (he 15 32 (by kernel_rfl) rfl).trans (hR 15 (by kernel_rfl))
                have hbW := bthen (below_drewN (Below.refl _ _) 1) (grow_below hX)
                have hc := (KA1.out W hbW)
                refine wp_value (v := _) ?_ (hK _ _ rfl (grown_refl W _))
                simp only [execOp, e32]
                go_simp
              · intro a vs W hX hR he hf K hK
                have e28 : a.eval (.tmp 28) = .bool false := (he 11 28 (by kernel_rfl) rfl).trans (hR 11 (by kernel_rfl))
                refine Eq.mpr (if_pos (by exact (wanted_some rfl rfl e28).trans rfl)) ?_
                have e1 : a.eval (.tmp 1) = .slice (some ⟨b2, o2, none⟩) n c2 := hf 1 (by kernel_rfl)
                refine wp_value (v := .slice (some ⟨b2, o2, none⟩) n c2) ?_ (hK _ _ rfl (grown_refl W _))
                simp only [execOp, e1]
                try go_simp
                try (first | rfl | omega | (simp only [IntKind.wrap_i64, IntKind.wrap_u8, IntKind.wrap_u64, IntKind.wrap_u16, IntKind.wrap_u32]; omega) | (rw [Int.tmod_eq_emod_of_nonneg (by omega)]) | (rw [Int.tmod_eq_emod_of_nonneg (by omega)]; omega))
              · intro a vs W hX hR he hf K hK
                have e28 : a.eval (.tmp 28) = .bool false := (he 11 28 (by kernel_rfl) rfl).trans (hR 11 (by kernel_rfl))
                refine Eq.mpr (if_pos (by exact (wanted_some rfl rfl e28).trans rfl)) ?_
                have e5 : a.eval (.tmp 5) = .int .i64 (k : Int) := hf 5 (by kernel_rfl)
                refine wp_value (v := .int .i64 (k : Int)) ?_ (hK _ _ rfl (grown_refl W _))
                simp only [execOp, e5]
                try go_simp
                try (first | rfl | omega | (simp only [IntKind.wrap_i64, IntKind.wrap_u8, IntKind.wrap_u64, IntKind.wrap_u16, IntKind.wrap_u32]; omega) | (rw [Int.tmod_eq_emod_of_nonneg (by omega)]) | (rw [Int.tmod_eq_emod_of_nonneg (by omega)]; omega))
              · intro a vs W hX hR he hf K hK
                have e28 : a.eval (.tmp 28) = .bool false := (he 11 28 (by kernel_rfl) rfl).trans (hR 11 (by kernel_rfl))
                refine Eq.mpr (if_pos (by exact (wanted_some rfl rfl e28).trans rfl)) ?_
                have e34 : a.eval (.tmp 34) = .slice (some ⟨b2, o2, none⟩) n c2 := (he 17 34 (by kernel_rfl) rfl).trans (hR 17 (by kernel_rfl))
                have e35 : a.eval (.tmp 35) = .int .i64 (k : Int) := (he 18 35 (by kernel_rfl) rfl).trans (hR 18 (by kernel_rfl))
                refine wp_value (v := _) ?_ (hK _ _ rfl (grown_refl W _))
                simp only [execOp, e34, e35]
                go_simp
              · intro a vs W hX hR he hf K hK
                have e28 : a.eval (.tmp 28) = .bool false := (he 11 28 (by kernel_rfl) rfl).trans (hR 11 (by kernel_rfl))
                refine Eq.mpr (if_pos (by exact (wanted_some rfl rfl e28).trans rfl)) ?_
                have e36 : a.eval (.tmp 36) = .pointer (some ⟨b2, o2 + k * 4, none⟩) := (he 19 36 (by kernel_rfl) rfl).trans (hR 19 (by kernel_rfl))
                refine wp_value (v := .pointer (some ⟨b2, o2 + k * 4 + 1, none⟩)) ?_ (hK _ _ rfl (grown_refl W _))
                simp only [execOp, e36]
                try go_simp
                try (first | rfl | omega | (simp only [IntKind.wrap_i64, IntKind.wrap_u8, IntKind.wrap_u64, IntKind.wrap_u16, IntKind.wrap_u32]; omega) | (rw [Int.tmod_eq_emod_of_nonneg (by omega)]) | (rw [Int.tmod_eq_emod_of_nonneg (by omega)]; omega))
              · intro a vs W hX hR he hf K hK
                have e28 : a.eval (.tmp 28) = .bool false := (he 11 28 (by kernel_rfl) rfl).trans (hR 11 (by kernel_rfl))
                refine Eq.mpr (if_pos (by exact (wanted_some rfl rfl e28).trans rfl)) ?_
                have e37 : a.eval (.tmp 37) = .pointer (some ⟨b2, o2 + k * 4 + 1, none⟩) := (he 20 37 (by kernel_rfl) rfl).trans (hR 20 (by kernel_rfl))
                have hbW := bthen (below_drewN (Below.refl _ _) 1) (grow_below hX)
                have hc := (KB1.out W hbW)
                refine wp_value (v := _) ?_ (hK _ _ rfl (grown_refl W _))
                simp only [execOp, e37]
                go_simp
              · intro a vs W hX hR he hf K hK
                have e28 : a.eval (.tmp 28) = .bool false := (he 11 28 (by kernel_rfl) rfl).trans (hR 11 (by kernel_rfl))
                refine Eq.mpr (if_pos (by exact (wanted_some rfl rfl e28).trans rfl)) ?_
                have e33 : a.eval (.tmp 33) = .int .u8 x.cls := (he 16 33 (by kernel_rfl) rfl).trans (hR 16 (by kernel_rfl))
                have e38 : a.eval (.tmp 38) = .int .u8 y.cls := (he 21 38 (by kernel_rfl) rfl).trans (hR 21 (by kernel_rfl))
                refine wp_value (v := _) ?_ (hK _ _ rfl (grown_refl W _))
                simp only [execOp, e33, e38]
                go_simp
                try simp [q1]
              · intro a vs W hX hR he hf K hK
                rw [if_pos (wanted_none rfl)]
                have e28 : a.eval (.tmp 28) = .bool false := (he 11 28 (by kernel_rfl) rfl).trans (hR 11 (by kernel_rfl))
                have e39 : a.eval (.tmp 39) = .bool false := (he 22 39 (by kernel_rfl) rfl).trans (hR 22 (by kernel_rfl))
                refine wp_value (v := .bool false) ?_ (hK _ _ rfl (grown_refl W _))
                simp only [execOp, e28, e39]
                try go_simp
                try (first | rfl | omega | (simp only [IntKind.wrap_i64, IntKind.wrap_u8, IntKind.wrap_u64, IntKind.wrap_u16, IntKind.wrap_u32]; omega) | (rw [Int.tmod_eq_emod_of_nonneg (by omega)]) | (rw [Int.tmod_eq_emod_of_nonneg (by omega)]; omega))
              · intro a vs W hX hR he hf K hK
                rw [if_pos (wanted_none rfl)]
                have e40 : a.eval (.tmp 40) = .bool false := (he 23 40 (by kernel_rfl) rfl).trans (hR 23 (by kernel_rfl))
                refine wp_value (v := .bool false) ?_ (hK _ _ rfl (grown_refl W _))
                simp only [execOp, e40]
                try go_simp
                try (first | rfl | omega | (simp only [IntKind.wrap_i64, IntKind.wrap_u8, IntKind.wrap_u64, IntKind.wrap_u16, IntKind.wrap_u32]; omega) | (rw [Int.tmod_eq_emod_of_nonneg (by omega)]) | (rw [Int.tmod_eq_emod_of_nonneg (by omega)]; omega))
              · intro a vs W hX hR he hf K hK
                have e41 : a.eval (.tmp 41) = .bool false := (he 24 41 (by kernel_rfl) rfl).trans (hR 24 (by kernel_rfl))
                refine Eq.mpr (if_pos (by exact (wanted_some rfl rfl e41).trans rfl)) ?_
                have e0 : a.eval (.tmp 0) = .slice (some ⟨b, o, none⟩) n c := hf 0 (by kernel_rfl)
                refine wp_value (v := .slice (some ⟨b, o, none⟩) n c) ?_ (hK _ _ rfl (grown_refl W _))
                simp only [execOp, e0]
                try go_simp
                try (first | rfl | omega | (simp only [IntKind.wrap_i64, IntKind.wrap_u8, IntKind.wrap_u64, IntKind.wrap_u16, IntKind.wrap_u32]; omega) | (rw [Int.tmod_eq_emod_of_nonneg (by omega)]) | (rw [Int.tmod_eq_emod_of_nonneg (by omega)]; omega))
              · intro a vs W hX hR he hf K hK
                have e41 : a.eval (.tmp 41) = .bool false := (he 24 41 (by kernel_rfl) rfl).trans (hR 24 (by kernel_rfl))
                refine Eq.mpr (if_pos (by exact (wanted_some rfl rfl e41).trans rfl)) ?_
                have e5 : a.eval (.tmp 5) = .int .i64 (k : Int) := hf 5 (by kernel_rfl)
                refine wp_value (v := .int .i64 (k : Int)) ?_ (hK _ _ rfl (grown_refl W _))
                simp only [execOp, e5]
                try go_simp
                try (first | rfl | omega | (simp only [IntKind.wrap_i64, IntKind.wrap_u8, IntKind.wrap_u64, IntKind.wrap_u16, IntKind.wrap_u32]; omega) | (rw [Int.tmod_eq_emod_of_nonneg (by omega)]) | (rw [Int.tmod_eq_emod_of_nonneg (by omega)]; omega))
              · intro a vs W hX hR he hf K hK
                have e41 : a.eval (.tmp 41) = .bool false := (he 24 41 (by kernel_rfl) rfl).trans (hR 24 (by kernel_rfl))
                refine Eq.mpr (if_pos (by exact (wanted_some rfl rfl e41).trans rfl)) ?_
                have e42 : a.eval (.tmp 42) = .slice (some ⟨b, o, none⟩) n c := (he 25 42 (by kernel_rfl) rfl).trans (hR 25 (by kernel_rfl))
                have e43 : a.eval (.tmp 43) = .int .i64 (k : Int) := (he 26 43 (by kernel_rfl) rfl).trans (hR 26 (by kernel_rfl))
                refine wp_value (v := _) ?_ (hK _ _ rfl (grown_refl W _))
                simp only [execOp, e42, e43]
                go_simp
              · intro a vs W hX hR he hf K hK
                have e41 : a.eval (.tmp 41) = .bool false := (he 24 41 (by kernel_rfl) rfl).trans (hR 24 (by kernel_rfl))
                refine Eq.mpr (if_pos (by exact (wanted_some rfl rfl e41).trans rfl)) ?_
                have e44 : a.eval (.tmp 44) = .pointer (some ⟨b, o + k * 4, none⟩) := (he 27 44 (by kernel_rfl) rfl).trans (hR 27 (by kernel_rfl))
                refine wp_value (v := .pointer (some ⟨b, o + k * 4 + 3, none⟩)) ?_ (hK _ _ rfl (grown_refl W _))
                simp only [execOp, e44]
                try go_simp
                try (first | rfl | omega | (simp only [IntKind.wrap_i64, IntKind.wrap_u8, IntKind.wrap_u64, IntKind.wrap_u16, IntKind.wrap_u32]; omega) | (rw [Int.tmod_eq_emod_of_nonneg (by omega)]) | (rw [Int.tmod_eq_emod_of_nonneg (by omega)]; omega))
              · intro a vs W hX hR he hf K hK
                have e41 : a.eval (.tmp 41) = .bool false := (he 24 41 (by kernel_rfl) rfl).trans (hR 24 (by kernel_rfl))
                refine Eq.mpr (if_pos (by exact (wanted_some rfl rfl e41).trans rfl)) ?_
                have e45 : a.eval (.tmp 45) = .pointer (some ⟨b, o + k * 4 + 3, none⟩) := (he 28 45 (by kernel_rfl) rfl).trans (hR 28 (by kernel_rfl))
                have hbW := bthen (below_drewN (Below.refl _ _) 1) (grow_below hX)
                have hc := (KA3.out W hbW)
                refine wp_value (v := _) ?_ (hK _ _ rfl (grown_refl W _))
                simp only [execOp, e45]
                go_simp
              · intro a vs W hX hR he hf K hK
                have e41 : a.eval (.tmp 41) = .bool false := (he 24 41 (by kernel_rfl) rfl).trans (hR 24 (by kernel_rfl))
                refine Eq.mpr (if_pos (by exact (wanted_some rfl rfl e41).trans rfl)) ?_
                have e1 : a.eval (.tmp 1) = .slice (some ⟨b2, o2, none⟩) n c2 := hf 1 (by kernel_rfl)
                refine wp_value (v := .slice (some ⟨b2, o2, none⟩) n c2) ?_ (hK _ _ rfl (grown_refl W _))
                simp only [execOp, e1]
                try go_simp
                try (first | rfl | omega | (simp only [IntKind.wrap_i64, IntKind.wrap_u8, IntKind.wrap_u64, IntKind.wrap_u16, IntKind.wrap_u32]; omega) | (rw [Int.tmod_eq_emod_of_nonneg (by omega)]) | (rw [Int.tmod_eq_emod_of_nonneg (by omega)]; omega))
              · intro a vs W hX hR he hf K hK
                have e41 : a.eval (.tmp 41) = .bool false := (he 24 41 (by kernel_rfl) rfl).trans (hR 24 (by kernel_rfl))
                refine Eq.mpr (if_pos (by exact (wanted_some rfl rfl e41).trans rfl)) ?_
                have e5 : a.eval (.tmp 5) = .int .i64 (k : Int) := hf 5 (by kernel_rfl)
                refine wp_value (v := .int .i64 (k : Int)) ?_ (hK _ _ rfl (grown_refl W _))
                simp only [execOp, e5]
                try go_simp
                try (first | rfl | omega | (simp only [IntKind.wrap_i64, IntKind.wrap_u8, IntKind.wrap_u64, IntKind.wrap_u16, IntKind.wrap_u32]; omega) | (rw [Int.tmod_eq_emod_of_nonneg (by omega)]) | (rw [Int.tmod_eq_emod_of_nonneg (by omega)]; omega))
              · intro a vs W hX hR he hf K hK
                have e41 : a.eval (.tmp 41) = .bool false := (he 24 41 (by kernel_rfl) rfl).trans (hR 24 (by kernel_rfl))
                refine Eq.mpr (if_pos (by exact (wanted_some rfl rfl e41).trans rfl)) ?_
                have e47 : a.eval (.tmp 47) = .slice (some ⟨b2, o2, none⟩) n c2 := (he 30 47 (by kernel_rfl) rfl).trans (hR 30 (by kernel_rfl))
                have e48 : a.eval (.tmp 48) = .int .i64 (k : Int) := (he 31 48 (by kernel_rfl) rfl).trans (hR 31 (by kernel_rfl))
                refine wp_value (v := _) ?_ (hK _ _ rfl (grown_refl W _))
                simp only [execOp, e47, e48]
                go_simp
              · intro a vs W hX hR he hf K hK
                have e41 : a.eval (.tmp 41) = .bool false := (he 24 41 (by kernel_rfl) rfl).trans (hR 24 (by kernel_rfl))
                refine Eq.mpr (if_pos (by exact (wanted_some rfl rfl e41).trans rfl)) ?_
                have e49 : a.eval (.tmp 49) = .pointer (some ⟨b2, o2 + k * 4, none⟩) := (he 32 49 (by kernel_rfl) rfl).trans (hR 32 (by kernel_rfl))
                refine wp_value (v := .pointer (some ⟨b2, o2 + k * 4 + 3, none⟩)) ?_ (hK _ _ rfl (grown_refl W _))
                simp only [execOp, e49]
                try go_simp
                try (first | rfl | omega | (simp only [IntKind.wrap_i64, IntKind.wrap_u8, IntKind.wrap_u64, IntKind.wrap_u16, IntKind.wrap_u32]; omega) | (rw [Int.tmod_eq_emod_of_nonneg (by omega)]) | (rw [Int.tmod_eq_emod_of_nonneg (by omega)]; omega))
              · intro a vs W hX hR he hf K hK
                have e41 : a.eval (.tmp 41) = .bool false := (he 24 41 (by kernel_rfl) rfl).trans (hR 24 (by kernel_rfl))
                refine Eq.mpr (if_pos (by exact (wanted_some rfl rfl e41).trans rfl)) ?_
                have e50 : a.eval (.tmp 50) = .pointer (some ⟨b2, o2 + k * 4 + 3, none⟩) := (he 33 50 (by kernel_rfl) rfl).trans (hR 33 (by kernel_rfl))
                have hbW := bthen (below_drewN (Below.refl _ _) 1) (grow_below hX)
                have hc := (KB3.out W hbW)
                refine wp_value (v := _) ?_ (hK _ _ rfl (grown_refl W _))
                simp only [execOp, e50]
                go_simp
              · intro a vs W hX hR he hf K hK
                have e41 : a.eval (.tmp 41) = .bool false := (he 24 41 (by kernel_rfl) rfl).trans (hR 24 (by kernel_rfl))
                refine Eq.mpr (if_pos (by exact (wanted_some rfl rfl e41).trans rfl)) ?_
                have e46 : a.eval (.tmp 46) = .int .u8 x.ttl := (he 29 46 (by kernel_rfl) rfl).trans (hR 29 (by kernel_rfl))
                have e51 : a.eval (.tmp 51) = .int .u8 y.ttl := (he 34 51 (by kernel_rfl) rfl).trans (hR 34 (by kernel_rfl))
                refine wp_value (v := _) ?_ (hK _ _ rfl (grown_refl W _))
                simp only [execOp, e46, e51]
                go_simp
                try simp [q2]
              · intro a vs W hX hR he hf K hK
                rw [if_pos (wanted_none rfl)]
                have e41 : a.eval (.tmp 41) = .bool false := (he 24 41 (by kernel_rfl) rfl).trans (hR 24 (by kernel_rfl))
                have e52 : a.eval (.tmp 52) = .bool false := (he 35 52 (by kernel_rfl) rfl).trans (hR 35 (by kernel_rfl))
                refine wp_value (v := .bool false) ?_ (hK _ _ rfl (grown_refl W _))
                simp only [execOp, e41, e52]
                try go_simp
                try (first | rfl | omega | (simp only [IntKind.wrap_i64, IntKind.wrap_u8, IntKind.wrap_u64, IntKind.wrap_u16, IntKind.wrap_u32]; omega) | (rw [Int.tmod_eq_emod_of_nonneg (by omega)]) | (rw [Int.tmod_eq_emod_of_nonneg (by omega)]; omega))
              · intro vs W hX hR
                have q0 := hR 0 (by decide)
                have q1 := hR 1 (by decide)
                have q2 := hR 2 (by decide)
                have q3 := hR 3 (by decide)
                have q4 := hR 4 (by decide)
                have q5 := hR 5 (by decide)
                have q6 := hR 6 (by decide)
                have q7 := hR 7 (by decide)
                have q8 := hR 8 (by decide)
                have q9 := hR 9 (by decide)
                have q10 := hR 10 (by decide)
                have q11 := hR 11 (by decide)
                have q12 := hR 12 (by decide)
                have q13 := hR 13 (by decide)
                have q14 := hR 14 (by decide)
                have q15 := hR 15 (by decide)
                have q16 := hR 16 (by decide)
                have q17 := hR 17 (by decide)
                have q18 := hR 18 (by decide)
                have q19 := hR 19 (by decide)
                have q20 := hR 20 (by decide)
                have q21 := hR 21 (by decide)
                have q22 := hR 22 (by decide)
                have q23 := hR 23 (by decide)
                have q24 := hR 24 (by decide)
                have q25 := hR 25 (by decide)
                have q26 := hR 26 (by decide)
                have q27 := hR 27 (by decide)
                have q28 := hR 28 (by decide)
                have q29 := hR 29 (by decide)
                have q30 := hR 30 (by decide)
                have q31 := hR 31 (by decide)
                have q32 := hR 32 (by decide)
                have q33 := hR 33 (by decide)
                have q34 := hR 34 (by decide)
                have q35 := hR 35 (by decide)
                have q36 := hR 36 (by decide)
                change vs 0 = .slice (some ⟨b, o, none⟩) n c at q0
                change vs 1 = .int .i64 (k : Int) at q1
                change vs 2 = .pointer (some ⟨b, o + k * 4, none⟩) at q2
                change vs 3 = .pointer (some ⟨b, o + k * 4, none⟩) at q3
                change vs 4 = .int .i64 x.label at q4
                change vs 5 = .slice (some ⟨b2, o2, none⟩) n c2 at q5
                change vs 6 = .int .i64 (k : Int) at q6
                change vs 7 = .pointer (some ⟨b2, o2 + k * 4, none⟩) at q7
                change vs 8 = .pointer (some ⟨b2, o2 + k * 4, none⟩) at q8
                change vs 9 = .int .i64 y.label at q9
                change vs 10 = .bool false at q10
                change vs 11 = .bool false at q11
                change vs 12 = .slice (some ⟨b, o, none⟩) n c at q12
                change vs 13 = .int .i64 (k : Int) at q13
                change vs 14 = .pointer (some ⟨b, o + k * 4, none⟩) at q14
                change vs 15 = .pointer (some ⟨b, o + k * 4 + 1, none⟩) at q15
                change vs 16 = .int .u8 x.cls at q16
                change vs 17 = .slice (some ⟨b2, o2, none⟩) n c2 at q17
                change vs 18 = .int .i64 (k : Int) at q18
                change vs 19 = .pointer (some ⟨b2, o2 + k * 4, none⟩) at q19
                change vs 20 = .pointer (some ⟨b2, o2 + k * 4 + 1, none⟩) at q20
                change vs 21 = .int .u8 y.cls at q21
                change vs 22 = .bool false at q22
                change vs 23 = .bool false at q23
                change vs 24 = .bool false at q24
                change vs 25 = .slice (some ⟨b, o, none⟩) n c at q25
                change vs 26 = .int .i64 (k : Int) at q26
                change vs 27 = .pointer (some ⟨b, o + k * 4, none⟩) at q27
                change vs 28 = .pointer (some ⟨b, o + k * 4 + 3, none⟩) at q28
                change vs 29 = .int .u8 x.ttl at q29
                change vs 30 = .slice (some ⟨b2, o2, none⟩) n c2 at q30
                change vs 31 = .int .i64 (k : Int) at q31
                change vs 32 = .pointer (some ⟨b2, o2 + k * 4, none⟩) at q32
                change vs 33 = .pointer (some ⟨b2, o2 + k * 4 + 3, none⟩) at q33
                change vs 34 = .int .u8 y.ttl at q34
                change vs 35 = .bool false at q35
                change vs 36 = .bool false at q36
                simp only [putAll, Act.put, List.setIfInBounds_toArray, List.set_cons_zero, List.set_cons_succ, q0, q1, q2, q3, q4, q5, q6, q7, q8, q9, q10, q11, q12, q13, q14, q15, q16, q17, q18, q19, q20, q21, q22, q23, q24, q25, q26, q27, q28, q29, q30, q31, q32, q33, q34, q35, q36]
                clear q0 q1 q2 q3 q4 q5 q6 q7 q8 q9 q10 q11 q12 q13 q14 q15 q16 q17 q18 q19 q20 q21 q22 q23 q24 q25 q26 q27 q28 q29 q30 q31 q32 q33 q34 q35 q36
                clear hR
                have hbW := HB.out.trans ((bthen (below_drewN (Below.refl _ _) 1) (grow_below hX)).mono HB.out.size)
                clear KA0 KA1 KA3 KB0 KB1 KB3
                go_wp2_with fail
                go_roundw
                case rel => exact ⟨k + 1, by omega, by simp, HS.out, hbW⟩
                case measure => simp [intOf]; omega
            · rw [show sameE x y = false by simp [sameE, q2], Bool.false_and] at hs
              have HS := Lib.hid hs
              clear hs
              go_wp2_with fail
              refine wp_region_rel (fun A B => A.grownBy B none) (fun A => grown_refl A _) (fun A B C h k => grown_trans h k) (relAt (List.cons (fun v _ => v = .slice (some ⟨b, o, none⟩) n c) (List.cons (fun v _ => v = .int .i64 (k : Int)) (List.cons (fun v _ => v = .pointer (some ⟨b, o + k * 4, none⟩)) (List.cons (fun v _ => v = .pointer (some ⟨b, o + k * 4, none⟩)) (List.cons (fun v _ => v = .int .i64 x.label) (List.cons (fun v _ => v = .slice (some ⟨b2, o2, none⟩) n c2) (List.cons (fun v _ => v = .int .i64 (k : Int)) (List.cons (fun v _ => v = .pointer (some ⟨b2, o2 + k * 4, none⟩)) (List.cons (fun v _ => v = .pointer (some ⟨b2, o2 + k * 4, none⟩)) (List.cons (fun v _ => v = .int .i64 y.label) (List.cons (fun v _ => v = .bool false) (List.cons (fun v _ => v = .bool false) (List.cons (fun v _ => v = .slice (some ⟨b, o, none⟩) n c) (List.cons (fun v _ => v = .int .i64 (k : Int)) (List.cons (fun v _ => v = .pointer (some ⟨b, o + k * 4, none⟩)) (List.cons (fun v _ => v = .pointer (some ⟨b, o + k * 4 + 1, none⟩)) (List.cons (fun v _ => v = .int .u8 x.cls) (List.cons (fun v _ => v = .slice (some ⟨b2, o2, none⟩) n c2) (List.cons (fun v _ => v = .int .i64 (k : Int)) (List.cons (fun v _ => v = .pointer (some ⟨b2, o2 + k * 4, none⟩)) (List.cons (fun v _ => v = .pointer (some ⟨b2, o2 + k * 4 + 1, none⟩)) (List.cons (fun v _ => v = .int .u8 y.cls) (List.cons (fun v _ => v = .bool false) (List.cons (fun v _ => v = .bool false) (List.cons (fun v _ => v = .bool false) (List.cons (fun v _ => v = .slice (some ⟨b, o, none⟩) n c) (List.cons (fun v _ => v = .int .i64 (k : Int)) (List.cons (fun v _ => v = .pointer (some ⟨b, o + k * 4, none⟩)) (List.cons (fun v _ => v = .pointer (some ⟨b, o + k * 4 + 3, none⟩)) (List.cons (fun v _ => v = .int .u8 x.ttl) (List.cons (fun v _ => v = .slice (some ⟨b2, o2, none⟩) n c2) (List.cons (fun v _ => v = .int .i64 (k : Int)) (List.cons (fun v _ => v = .pointer (some ⟨b2, o2 + k * 4, none⟩)) (List.cons (fun v _ => v = .pointer (some ⟨b2, o2 + k * 4 + 3, none⟩)) (List.cons (fun v _ => v = .int .u8 y.ttl) (List.cons (fun v _ => v = .bool true) (List.cons (fun v _ => v = .bool true) ([]))))))))))))))))))))))))))))))))))))))) (MonoL.at_ (.cons (mono_val _) (.cons (mono_val _) (.cons (mono_val _) (.cons (mono_val _) (.cons (mono_val _) (.cons (mono_val _) (.cons (mono_val _) (.cons (mono_val _) (.cons (mono_val _) (.cons (mono_val _) (.cons (mono_val _) (.cons (mono_val _) (.cons (mono_val _) (.cons (mono_val _) (.cons (mono_val _) (.cons (mono_val _) (.cons (mono_val _) (.cons (mono_val _) (.cons (mono_val _) (.cons (mono_val _) (.cons (mono_val _) (.cons (mono_val _) (.cons (mono_val _) (.cons (mono_val _) (.cons (mono_val _) (.cons (mono_val _) (.cons (mono_val _) (.cons (mono_val _) (.cons (mono_val _) (.cons (mono_val _) (.cons (mono_val _) (.cons (mono_val _) (.cons (mono_val _) (.cons (mono_val _) (.cons (mono_val _) (.cons (mono_val _) (.cons (mono_val _) .nil)))))))))))))))))))))))))))))))))))))) (by kernel_rfl) (by kernel_rfl) ⟨?_, ?_, ?_, ?_, ?_, ?_, ?_, ?_, ?_, ?_, ?_, ?_, ?_, ?_, ?_, ?_, ?_, ?_, ?_, ?_, ?_, ?_, ?_, ?_, ?_, ?_, ?_, ?_, ?_, ?_, ?_, ?_, ?_, ?_, ?_, ?_, ?_, trivial⟩ ?_
              · intro a vs W hX hR he hf K hK
                rw [if_pos (wanted_none rfl)]
                have e0 : a.eval (.tmp 0) = .slice (some ⟨b, o, none⟩) n c := hf 0 (by kernel_rfl)
                refine wp_value (v := .slice (some ⟨b, o, none⟩) n c) ?_ (hK _ _ rfl (grown_refl W _))
                simp only [execOp, e0]
                try go_simp
                try (first | rfl | omega | (simp only [IntKind.wrap_i64, IntKind.wrap_u8, IntKind.wrap_u64, IntKind.wrap_u16, IntKind.wrap_u32]; omega) | (rw [Int.tmod_eq_emod_of_nonneg (by omega)]) | (rw [Int.tmod_eq_emod_of_nonneg (by omega)]; omega))
              · intro a vs W hX hR he hf K hK
                rw [if_pos (wanted_none rfl)]
                have e5 : a.eval (.tmp 5) = .int .i64 (k : Int) := hf 5 (by kernel_rfl)
                refine wp_value (v := .int .i64 (k : Int)) ?_ (hK _ _ rfl (grown_refl W _))
                simp only [execOp, e5]
                try go_simp
                try (first | rfl | omega | (simp only [IntKind.wrap_i64, IntKind.wrap_u8, IntKind.wrap_u64, IntKind.wrap_u16, IntKind.wrap_u32]; omega) | (rw [Int.tmod_eq_emod_of_nonneg (by omega)]) | (rw [Int.tmod_eq_emod_of_nonneg (by omega)]; omega))
              · intro a vs W hX hR he hf K hK
                rw [if_pos (wanted_none rfl)]
                have e17 : a.eval (.tmp 17) = .slice (some ⟨b, o, none⟩) n c := (he 0 17 (by kernel_rfl) rfl).trans (hR 0 (by kernel_rfl))
                have e18 : a.eval (.tmp 18) = .int .i64 (k : Int) := (he 1 18 (by kernel_rfl) rfl).trans (hR 1 (by kernel_rfl))
                refine wp_value (v := _) ?_ (hK _ _ rfl (grown_refl W _))
                simp only [execOp, e17, e18]
                go_simp
              · intro a vs W hX hR he hf K hK
                rw [if_pos (wanted_none rfl)]
                have e19 : a.eval (.tmp 19) = .pointer (some ⟨b, o + k * 4, none⟩) := (he 2 19 (by kernel_rfl) rfl).trans (hR 2 (by kernel_rfl))
                refine wp_value (v := .pointer (some ⟨b, o + k * 4, none⟩)) ?_ (hK _ _ rfl (grown_refl W _))
                simp only [execOp, e19]
                try go_simp
                try (first | rfl | omega | (simp only [IntKind.wrap_i64, IntKind.wrap_u8, IntKind.wrap_u64, IntKind.wrap_u16, IntKind.wrap_u32]; omega) | (rw [Int.tmod_eq_emod_of_nonneg (by omega)]) | (rw [Int.tmod_eq_emod_of_nonneg (by omega)]; omega))
              · intro a vs W hX hR he hf K hK
                rw [if_pos (wanted_none rfl)]
                have e20 : a.eval (.tmp 20) = .pointer (some ⟨b, o + k * 4, none⟩) := (he 3 20 (by kernel_rfl) rfl).trans (hR 3 (by kernel_rfl))
                have hbW := bthen (below_drewN (Below.refl _ _) 1) (grow_below hX)
                have hc := (KA0.out W hbW)
                refine wp_value (v := _) ?_ (hK _ _ rfl (grown_refl W _))
                simp only [execOp, e20]
                go_simp
              · intro a vs W hX hR he hf K hK
                rw [if_pos (wanted_none rfl)]
                have e1 : a.eval (.tmp 1) = .slice (some ⟨b2, o2, none⟩) n c2 := hf 1 (by kernel_rfl)
                refine wp_value (v := .slice (some ⟨b2, o2, none⟩) n c2) ?_ (hK _ _ rfl (grown_refl W _))
                simp only [execOp, e1]
                try go_simp
                try (first | rfl | omega | (simp only [IntKind.wrap_i64, IntKind.wrap_u8, IntKind.wrap_u64, IntKind.wrap_u16, IntKind.wrap_u32]; omega) | (rw [Int.tmod_eq_emod_of_nonneg (by omega)]) | (rw [Int.tmod_eq_emod_of_nonneg (by omega)]; omega))
              · intro a vs W hX hR he hf K hK
                rw [if_pos (wanted_none rfl)]
                have e5 : a.eval (.tmp 5) = .int .i64 (k : Int) := hf 5 (by kernel_rfl)
                refine wp_value (v := .int .i64 (k : Int)) ?_ (hK _ _ rfl (grown_refl W _))
                simp only [execOp, e5]
                try go_simp
                try (first | rfl | omega | (simp only [IntKind.wrap_i64, IntKind.wrap_u8, IntKind.wrap_u64, IntKind.wrap_u16, IntKind.wrap_u32]; omega) | (rw [Int.tmod_eq_emod_of_nonneg (by omega)]) | (rw [Int.tmod_eq_emod_of_nonneg (by omega)]; omega))
              · intro a vs W hX hR he hf K hK
                rw [if_pos (wanted_none rfl)]
                have e22 : a.eval (.tmp 22) = .slice (some ⟨b2, o2, none⟩) n c2 := (he 5 22 (by kernel_rfl) rfl).trans (hR 5 (by kernel_rfl))
                have e23 : a.eval (.tmp 23) = .int .i64 (k : Int) := (he 6 23 (by kernel_rfl) rfl).trans (hR 6 (by kernel_rfl))
                refine wp_value (v := _) ?_ (hK _ _ rfl (grown_refl W _))
                simp only [execOp, e22, e23]
                go_simp
              · intro a vs W hX hR he hf K hK
                rw [if_pos (wanted_none rfl)]
                have e24 : a.eval (.tmp 24) = .pointer (some ⟨b2, o2 + k * 4, none⟩) := (he 7 24 (by kernel_rfl) rfl).trans (hR 7 (by kernel_rfl))
                refine wp_value (v := .pointer (some ⟨b2, o2 + k * 4, none⟩)) ?_ (hK _ _ rfl (grown_refl W _))
                simp only [execOp, e24]
                try go_simp
                try (first | rfl | omega | (simp only [IntKind.wrap_i64, IntKind.wrap_u8, IntKind.wrap_u64, IntKind.wrap_u16, IntKind.wrap_u32]; omega) | (rw [Int.tmod_eq_emod_of_nonneg (by omega)]) | (rw [Int.tmod_eq_emod_of_nonneg (by omega)]; omega))
              · intro a vs W hX hR he hf K hK
                rw [if_pos (wanted_none rfl)]
                have e25 : a.eval (.tmp 25) = .pointer (some ⟨b2, o2 + k * 4, none⟩) := (he 8 25 (by kernel_rfl) rfl).trans (hR 8 (by kernel_rfl))
                have hbW := bthen (below_drewN (Below.refl _ _) 1) (grow_below hX)
                have hc := (KB0.out W hbW)
                refine wp_value (v := _) ?_ (hK _ _ rfl (grown_refl W _))
                simp only [execOp, e25]
                go_simp
              · intro a vs W hX hR he hf K hK
                rw [if_pos (wanted_none rfl)]
                have e21 : a.eval (.tmp 21) = .int .i64 x.label := (he 4 21 (by kernel_rfl) rfl).trans (hR 4 (by kernel_rfl))
                have e26 : a.eval (.tmp 26) = .int .i64 y.label := (he 9 26 (by kernel_rfl) rfl).trans (hR 9 (by kernel_rfl))
                refine wp_value (v := _) ?_ (hK _ _ rfl (grown_refl W _))
                simp only [execOp, e21, e26]
                go_simp
                try simp [q0]
              · intro a vs W hX hR he hf K hK
                rw [if_pos (wanted_none rfl)]
                have e27 : a.eval (.tmp 27) = .bool false := (he 10 27 (by kernel_rfl) rfl).trans (hR 10 (by kernel_rfl))
                refine wp_value (v := .bool false) ?_ (hK _ _ rfl (grown_refl W _))
                simp only [execOp, e27]
                try go_simp
                try (first | rfl | omega | (simp only [IntKind.wrap_i64, IntKind.wrap_u8, IntKind.wrap_u64, IntKind.wrap_u16, IntKind.wrap_u32]; omega) | (rw [Int.tmod_eq_emod_of_nonneg (by omega)]) | (rw [Int.tmod_eq_emod_of_nonneg (by omega)]; omega))
              · intro a vs W hX hR he hf K hK
                have e28 : a.eval (.tmp 28) = .bool false := (he 11 28 (by kernel_rfl) rfl).trans (hR 11 (by kernel_rfl))
                refine Eq.mpr (if_pos (by exact (wanted_some rfl rfl e28).trans rfl)) ?_
                have e0 : a.eval (.tmp 0) = .slice (some ⟨b, o, none⟩) n c := hf 0 (by kernel_rfl)
                refine wp_value (v := .slice (some ⟨b, o, none⟩) n c) ?_ (hK _ _ rfl (grown_refl W _))
                simp only [execOp, e0]
                try go_simp
                try (first | rfl | omega | (simp only [IntKind.wrap_i64, IntKind.wrap_u8, IntKind.wrap_u64, IntKind.wrap_u16, IntKind.wrap_u32]; omega) | (rw [Int.tmod_eq_emod_of_nonneg (by omega)]) | (rw [Int.tmod_eq_emod_of_nonneg (by omega)]; omega))
              · intro a vs W hX hR he hf K hK
                have e28 : a.eval (.tmp 28) = .bool false := (he 11 28 (by kernel_rfl) rfl).trans (hR 11 (by kernel_rfl))
                refine Eq.mpr (if_pos (by exact (wanted_some rfl rfl e28).trans rfl)) ?_
                have e5 : a.eval (.tmp 5) = .int .i64 (k : Int) := hf 5 (by kernel_rfl)
                refine wp_value (v := .int .i64 (k : Int)) ?_ (hK _ _ rfl (grown_refl W _))
                simp only [execOp, e5]
                try go_simp
                try (first | rfl | omega | (simp only [IntKind.wrap_i64, IntKind.wrap_u8, IntKind.wrap_u64, IntKind.wrap_u16, IntKind.wrap_u32]; omega) | (rw [Int.tmod_eq_emod_of_nonneg (by omega)]) | (rw [Int.tmod_eq_emod_of_nonneg (by omega)]; omega))
              · intro a vs W hX hR he hf K hK
                have e28 : a.eval (.tmp 28) = .bool false := (he 11 28 (by kernel_rfl) rfl).trans (hR 11 (by kernel_rfl))
                refine Eq.mpr (if_pos (by exact (wanted_some rfl rfl e28).trans rfl)) ?_
                have e29 : a.eval (.tmp 29) = .slice (some ⟨b, o, none⟩) n c := (he 12 29 (by kernel_rfl) rfl).trans (hR 12 (by kernel_rfl))
                have e30 : a.eval (.tmp 30) = .int .i64 (k : Int) := (he 13 30 (by kernel_rfl) rfl).trans (hR 13 (by kernel_rfl))
                refine wp_value (v := _) ?_ (hK _ _ rfl (grown_refl W _))
                simp only [execOp, e29, e30]
                go_simp
              · intro a vs W hX hR he hf K hK
                have e28 : a.eval (.tmp 28) = .bool false := (he 11 28 (by kernel_rfl) rfl).trans (hR 11 (by kernel_rfl))
                refine Eq.mpr (if_pos (by exact (wanted_some rfl rfl e28).trans rfl)) ?_
                have e31 : a.eval (.tmp 31) = .pointer (some ⟨b, o + k * 4, none⟩) := (he 14 31 (by kernel_rfl) rfl).trans (hR 14 (by kernel_rfl))
                refine wp_value (v := .pointer (some ⟨b, o + k * 4 + 1, none⟩)) ?_ (hK _ _ rfl (grown_refl W _))
                simp only [execOp, e31]
                try go_simp
                try (first | rfl | omega | (simp only [IntKind.wrap_i64, IntKind.wrap_u8, IntKind.wrap_u64, IntKind.wrap_u16, IntKind.wrap_u32]; omega) | (rw [Int.tmod_eq_emod_of_nonneg (by omega)]) | (rw [Int.tmod_eq_emod_of_nonneg (by omega)]; omega))
              · intro a vs W hX hR he hf K hK
                have e28 : a.eval (.tmp 28) = .bool false := (he 11 28 (by kernel_rfl) rfl).trans (hR 11 (by kernel_rfl))
                refine Eq.mpr (if_pos (by exact (wanted_some rfl rfl e28).trans rfl)) ?_
                have e32 : a.eval (.tmp 32) = .pointer (some ⟨b, o + k * 4 + 1, none⟩) := (he 15 32 (by kernel_rfl) rfl).trans (hR 15 (by kernel_rfl))
                have hbW := bthen (below_drewN (Below.refl _ _) 1) (grow_below hX)
                have hc := (KA1.out W hbW)
                refine wp_value (v := _) ?_ (hK _ _ rfl (grown_refl W _))
                simp only [execOp, e32]
                go_simp
              · intro a vs W hX hR he hf K hK
                have e28 : a.eval (.tmp 28) = .bool false := (he 11 28 (by kernel_rfl) rfl).trans (hR 11 (by kernel_rfl))
                refine Eq.mpr (if_pos (by exact (wanted_some rfl rfl e28).trans rfl)) ?_
                have e1 : a.eval (.tmp 1) = .slice (some ⟨b2, o2, none⟩) n c2 := hf 1 (by kernel_rfl)
                refine wp_value (v := .slice (some ⟨b2, o2, none⟩) n c2) ?_ (hK _ _ rfl (grown_refl W _))
                simp only [execOp, e1]
                try go_simp
                try (first | rfl | omega | (simp only [IntKind.wrap_i64, IntKind.wrap_u8, IntKind.wrap_u64, IntKind.wrap_u16, IntKind.wrap_u32]; omega) | (rw [Int.tmod_eq_emod_of_nonneg (by omega)]) | (rw [Int.tmod_eq_emod_of_nonneg (by omega)]; omega))
              · intro a vs W hX hR he hf K hK
                have e28 : a.eval (.tmp 28) = .bool false := (he 11 28 (by kernel_rfl) rfl).trans (hR 11 (by kernel_rfl))
                refine Eq.mpr (if_pos (by exact (wanted_some rfl rfl e28).trans rfl)) ?_
                have e5 : a.eval (.tmp 5) = .int .i64 (k : Int) := hf 5 (by kernel_rfl)
                refine wp_value (v := .int .i64 (k : Int)) ?_ (hK _ _ rfl (grown_refl W _))
                simp only [execOp, e5]
                try go_simp
                try (first | rfl | omega | (simp only [IntKind.wrap_i64, IntKind.wrap_u8, IntKind.wrap_u64, IntKind.wrap_u16, IntKind.wrap_u32]; omega) | (rw [Int.tmod_eq_emod_of_nonneg (by omega)]) | (rw [Int.tmod_eq_emod_of_nonneg (by omega)]; omega))
              · intro a vs W hX hR he hf K hK
                have e28 : a.eval (.tmp 28) = .bool false := (he 11 28 (by kernel_rfl) rfl).trans (hR 11 (by kernel_rfl))
                refine Eq.mpr (if_pos (by exact (wanted_some rfl rfl e28).trans rfl)) ?_
                have e34 : a.eval (.tmp 34) = .slice (some ⟨b2, o2, none⟩) n c2 := (he 17 34 (by kernel_rfl) rfl).trans (hR 17 (by kernel_rfl))
                have e35 : a.eval (.tmp 35) = .int .i64 (k : Int) := (he 18 35 (by kernel_rfl) rfl).trans (hR 18 (by kernel_rfl))
                refine wp_value (v := _) ?_ (hK _ _ rfl (grown_refl W _))
                simp only [execOp, e34, e35]
                go_simp
              · intro a vs W hX hR he hf K hK
                have e28 : a.eval (.tmp 28) = .bool false := (he 11 28 (by kernel_rfl) rfl).trans (hR 11 (by kernel_rfl))
                refine Eq.mpr (if_pos (by exact (wanted_some rfl rfl e28).trans rfl)) ?_
                have e36 : a.eval (.tmp 36) = .pointer (some ⟨b2, o2 + k * 4, none⟩) := (he 19 36 (by kernel_rfl) rfl).trans (hR 19 (by kernel_rfl))
                refine wp_value (v := .pointer (some ⟨b2, o2 + k * 4 + 1, none⟩)) ?_ (hK _ _ rfl (grown_refl W _))
                simp only [execOp, e36]
                try go_simp
                try (first | rfl | omega | (simp only [IntKind.wrap_i64, IntKind.wrap_u8, IntKind.wrap_u64, IntKind.wrap_u16, IntKind.wrap_u32]; omega) | (rw [Int.tmod_eq_emod_of_nonneg (by omega)]) | (rw [Int.tmod_eq_emod_of_nonneg (by omega)]; omega))
              · intro a vs W hX hR he hf K hK
                have e28 : a.eval (.tmp 28) = .bool false := (he 11 28 (by kernel_rfl) rfl).trans (hR 11 (by kernel_rfl))
                refine Eq.mpr (if_pos (by exact (wanted_some rfl rfl e28).trans rfl)) ?_
                have e37 : a.eval (.tmp 37) = .pointer (some ⟨b2, o2 + k * 4 + 1, none⟩) := (he 20 37 (by kernel_rfl) rfl).trans (hR 20 (by kernel_rfl))
                have hbW := bthen (below_drewN (Below.refl _ _) 1) (grow_below hX)
                have hc := (KB1.out W hbW)
                refine wp_value (v := _) ?_ (hK _ _ rfl (grown_refl W _))
                simp only [execOp, e37]
                go_simp
              · intro a vs W hX hR he hf K hK
                have e28 : a.eval (.tmp 28) = .bool false := (he 11 28 (by kernel_rfl) rfl).trans (hR 11 (by kernel_rfl))
                refine Eq.mpr (if_pos (by exact (wanted_some rfl rfl e28).trans rfl)) ?_
                have e33 : a.eval (.tmp 33) = .int .u8 x.cls := (he 16 33 (by kernel_rfl) rfl).trans (hR 16 (by kernel_rfl))
                have e38 : a.eval (.tmp 38) = .int .u8 y.cls := (he 21 38 (by kernel_rfl) rfl).trans (hR 21 (by kernel_rfl))
                refine wp_value (v := _) ?_ (hK _ _ rfl (grown_refl W _))
                simp only [execOp, e33, e38]
                go_simp
                try simp [q1]
              · intro a vs W hX hR he hf K hK
                rw [if_pos (wanted_none rfl)]
                have e28 : a.eval (.tmp 28) = .bool false := (he 11 28 (by kernel_rfl) rfl).trans (hR 11 (by kernel_rfl))
                have e39 : a.eval (.tmp 39) = .bool false := (he 22 39 (by kernel_rfl) rfl).trans (hR 22 (by kernel_rfl))
                refine wp_value (v := .bool false) ?_ (hK _ _ rfl (grown_refl W _))
                simp only [execOp, e28, e39]
                try go_simp
                try (first | rfl | omega | (simp only [IntKind.wrap_i64, IntKind.wrap_u8, IntKind.wrap_u64, IntKind.wrap_u16, IntKind.wrap_u32]; omega) | (rw [Int.tmod_eq_emod_of_nonneg (by omega)]) | (rw [Int.tmod_eq_emod_of_nonneg (by omega)]; omega))
              · intro a vs W hX hR he hf K hK
                rw [if_pos (wanted_none rfl)]
                have e40 : a.eval (.tmp 40) = .bool false := (he 23 40 (by kernel_rfl) rfl).trans (hR 23 (by kernel_rfl))
                refine wp_value (v := .bool false) ?_ (hK _ _ rfl (grown_refl W _))
                simp only [execOp, e40]
                try go_simp
                try (first | rfl | omega | (simp only [IntKind.wrap_i64, IntKind.wrap_u8, IntKind.wrap_u64, IntKind.wrap_u16, IntKind.wrap_u32]; omega) | (rw [Int.tmod_eq_emod_of_nonneg (by omega)]) | (rw [Int.tmod_eq_emod_of_nonneg (by omega)]; omega))
              · intro a vs W hX hR he hf K hK
                have e41 : a.eval (.tmp 41) = .bool false := (he 24 41 (by kernel_rfl) rfl).trans (hR 24 (by kernel_rfl))
                refine Eq.mpr (if_pos (by exact (wanted_some rfl rfl e41).trans rfl)) ?_
                have e0 : a.eval (.tmp 0) = .slice (some ⟨b, o, none⟩) n c := hf 0 (by kernel_rfl)
                refine wp_value (v := .slice (some ⟨b, o, none⟩) n c) ?_ (hK _ _ rfl (grown_refl W _))
                simp only [execOp, e0]
                try go_simp
                try (first | rfl | omega | (simp only [IntKind.wrap_i64, IntKind.wrap_u8, IntKind.wrap_u64, IntKind.wrap_u16, IntKind.wrap_u32]; omega) | (rw [Int.tmod_eq_emod_of_nonneg (by omega)]) | (rw [Int.tmod_eq_emod_of_nonneg (by omega)]; omega))
              · intro a vs W hX hR he hf K hK
                have e41 : a.eval (.tmp 41) = .bool false := (he 24 41 (by kernel_rfl) rfl).trans (hR 24 (by kernel_rfl))
                refine Eq.mpr (if_pos (by exact (wanted_some rfl rfl e41).trans rfl)) ?_
                have e5 : a.eval (.tmp 5) = .int .i64 (k : Int) := hf 5 (by kernel_rfl)
                refine wp_value (v := .int .i64 (k : Int)) ?_ (hK _ _ rfl (grown_refl W _))
                simp only [execOp, e5]
                try go_simp
                try (first | rfl | omega | (simp only [IntKind.wrap_i64, IntKind.wrap_u8, IntKind.wrap_u64, IntKind.wrap_u16, IntKind.wrap_u32]; omega) | (rw [Int.tmod_eq_emod_of_nonneg (by omega)]) | (rw [Int.tmod_eq_emod_of_nonneg (by omega)]; omega))
              · intro a vs W hX hR he hf K hK
                have e41 : a.eval (.tmp 41) = .bool false := (he 24 41 (by kernel_rfl) rfl).trans (hR 24 (by kernel_rfl))
                refine Eq.mpr (if_pos (by exact (wanted_some rfl rfl e41).trans rfl)) ?_
                have e42 : a.eval (.tmp 42) = .slice (some ⟨b, o, none⟩) n c := (he 25 42 (by kernel_rfl) rfl).trans (hR 25 (by kernel_rfl))
                have e43 : a.eval (.tmp 43) = .int .i64 (k : Int) := (he 26 43 (by kernel_rfl) rfl).trans (hR 26 (by kernel_rfl))
                refine wp_value (v := _) ?_ (hK _ _ rfl (grown_refl W _))
                simp only [execOp, e42, e43]
                go_simp
              · intro a vs W hX hR he hf K hK
                have e41 : a.eval (.tmp 41) = .bool false := (he 24 41 (by kernel_rfl) rfl).trans (hR 24 (by kernel_rfl))
                refine Eq.mpr (if_pos (by exact (wanted_some rfl rfl e41).trans rfl)) ?_
                have e44 : a.eval (.tmp 44) = .pointer (some ⟨b, o + k * 4, none⟩) := (he 27 44 (by kernel_rfl) rfl).trans (hR 27 (by kernel_rfl))
                refine wp_value (v := .pointer (some ⟨b, o + k * 4 + 3, none⟩)) ?_ (hK _ _ rfl (grown_refl W _))
                simp only [execOp, e44]
                try go_simp
                try (first | rfl | omega | (simp only [IntKind.wrap_i64, IntKind.wrap_u8, IntKind.wrap_u64, IntKind.wrap_u16, IntKind.wrap_u32]; omega) | (rw [Int.tmod_eq_emod_of_nonneg (by omega)]) | (rw [Int.tmod_eq_emod_of_nonneg (by omega)]; omega))
              · intro a vs W hX hR he hf K hK
                have e41 : a.eval (.tmp 41) = .bool false := (he 24 41 (by kernel_rfl) rfl).trans (hR 24 (by kernel_rfl))
                refine Eq.mpr (if_pos (by exact (wanted_some rfl rfl e41).trans rfl)) ?_
                have e45 : a.eval (.tmp 45) = .pointer (some ⟨b, o + k * 4 + 3, none⟩) := (he 28 45 (by kernel_rfl) rfl).trans (hR 28 (by kernel_rfl))
                have hbW := bthen (below_drewN (Below.refl _ _) 1) (grow_below hX)
                have hc := (KA3.out W hbW)
                refine wp_value (v := _) ?_ (hK _ _ rfl (grown_refl W _))
                simp only [execOp, e45]
                go_simp
              · intro a vs W hX hR he hf K hK
                have e41 : a.eval (.tmp 41) = .bool false := (he 24 41 (by kernel_rfl) rfl).trans (hR 24 (by kernel_rfl))
                refine Eq.mpr (if_pos (by exact (wanted_some rfl rfl e41).trans rfl)) ?_
                have e1 : a.eval (.tmp 1) = .slice (some ⟨b2, o2, none⟩) n c2 := hf 1 (by kernel_rfl)
                refine wp_value (v := .slice (some ⟨b2, o2, none⟩) n c2) ?_ (hK _ _ rfl (grown_refl W _))
                simp only [execOp, e1]
                try go_simp
                try (first | rfl | omega | (simp only [IntKind.wrap_i64, IntKind.wrap_u8, IntKind.wrap_u64, IntKind.wrap_u16, IntKind.wrap_u32]; omega) | (rw [Int.tmod_eq_emod_of_nonneg (by omega)]) | (rw [Int.tmod_eq_emod_of_nonneg (by omega)]; omega))
              · intro a vs W hX hR he hf K hK
                have e41 : a.eval (.tmp 41) = .bool false := (he 24 41 (by kernel_rfl) rfl).trans (hR 24 (by kernel_rfl))
                refine Eq.mpr (if_pos (by exact (wanted_some rfl rfl e41).trans rfl)) ?_
                have e5 : a.eval (.tmp 5) = .int .i64 (k : Int) := hf 5 (by kernel_rfl)
                refine wp_value (v := .int .i64 (k : Int)) ?_ (hK _ _ rfl (grown_refl W _))
                simp only [execOp, e5]
                try go_simp
                try (first | rfl | omega | (simp only [IntKind.wrap_i64, IntKind.wrap_u8, IntKind.wrap_u64, IntKind.wrap_u16, IntKind.wrap_u32]; omega) | (rw [Int.tmod_eq_emod_of_nonneg (by omega)]) | (rw [Int.tmod_eq_emod_of_nonneg (by omega)]; omega))
              · intro a vs W hX hR he hf K hK
                have e41 : a.eval (.tmp 41) = .bool false := (he 24 41 (by kernel_rfl) rfl).trans (hR 24 (by kernel_rfl))
                refine Eq.mpr (if_pos (by exact (wanted_some rfl rfl e41).trans rfl)) ?_
                have e47 : a.eval (.tmp 47) = .slice (some ⟨b2, o2, none⟩) n c2 := (he 30 47 (by kernel_rfl) rfl).trans (hR 30 (by kernel_rfl))
                have e48 : a.eval (.tmp 48) = .int .i64 (k : Int) := (he 31 48 (by kernel_rfl) rfl).trans (hR 31 (by kernel_rfl))
                refine wp_value (v := _) ?_ (hK _ _ rfl (grown_refl W _))
                simp only [execOp, e47, e48]
                go_simp
              · intro a vs W hX hR he hf K hK
                have e41 : a.eval (.tmp 41) = .bool false := (he 24 41 (by kernel_rfl) rfl).trans (hR 24 (by kernel_rfl))
                refine Eq.mpr (if_pos (by exact (wanted_some rfl rfl e41).trans rfl)) ?_
                have e49 : a.eval (.tmp 49) = .pointer (some ⟨b2, o2 + k * 4, none⟩) := (he 32 49 (by kernel_rfl) rfl).trans (hR 32 (by kernel_rfl))
                refine wp_value (v := .pointer (some ⟨b2, o2 + k * 4 + 3, none⟩)) ?_ (hK _ _ rfl (grown_refl W _))
                simp only [execOp, e49]
                try go_simp
                try (first | rfl | omega | (simp only [IntKind.wrap_i64, IntKind.wrap_u8, IntKind.wrap_u64, IntKind.wrap_u16, IntKind.wrap_u32]; omega) | (rw [Int.tmod_eq_emod_of_nonneg (by omega)]) | (rw [Int.tmod_eq_emod_of_nonneg (by omega)]; omega))
              · intro a vs W hX hR he hf K hK
                have e41 : a.eval (.tmp 41) = .bool false := (he 24 41 (by kernel_rfl) rfl).trans (hR 24 (by kernel_rfl))
                refine Eq.mpr (if_pos (by exact (wanted_some rfl rfl e41).trans rfl)) ?_
                have e50 : a.eval (.tmp 50) = .pointer (some ⟨b2, o2 + k * 4 + 3, none⟩) := (he 33 50 (by kernel_rfl) rfl).trans (hR 33 (by kernel_rfl))
                have hbW := bthen (below_drewN (Below.refl _ _) 1) (grow_below hX)
                have hc := (KB3.out W hbW)
                refine wp_value (v := _) ?_ (hK _ _ rfl (grown_refl W _))
                simp only [execOp, e50]
                go_simp
              · intro a vs W hX hR he hf K hK
                have e41 : a.eval (.tmp 41) = .bool false := (he 24 41 (by kernel_rfl) rfl).trans (hR 24 (by kernel_rfl))
                refine Eq.mpr (if_pos (by exact (wanted_some rfl rfl e41).trans rfl)) ?_
                have e46 : a.eval (.tmp 46) = .int .u8 x.ttl := (he 29 46 (by kernel_rfl) rfl).trans (hR 29 (by kernel_rfl))
                have e51 : a.eval (.tmp 51) = .int .u8 y.ttl := (he 34 51 (by kernel_rfl) rfl).trans (hR 34 (by kernel_rfl))
                refine wp_value (v := _) ?_ (hK _ _ rfl (grown_refl W _))
                simp only [execOp, e46, e51]
                go_simp
                try simp [q2]
              · intro a vs W hX hR he hf K hK
                rw [if_pos (wanted_none rfl)]
                have e41 : a.eval (.tmp 41) = .bool false := (he 24 41 (by kernel_rfl) rfl).trans (hR 24 (by kernel_rfl))
                have e52 : a.eval (.tmp 52) = .bool true := (he 35 52 (by kernel_rfl) rfl).trans (hR 35 (by kernel_rfl))
                refine wp_value (v := .bool true) ?_ (hK _ _ rfl (grown_refl W _))
                simp only [execOp, e41, e52]
                try go_simp
                try (first | rfl | omega | (simp only [IntKind.wrap_i64, IntKind.wrap_u8, IntKind.wrap_u64, IntKind.wrap_u16, IntKind.wrap_u32]; omega) | (rw [Int.tmod_eq_emod_of_nonneg (by omega)]) | (rw [Int.tmod_eq_emod_of_nonneg (by omega)]; omega))
              · intro vs W hX hR
                have q0 := hR 0 (by decide)
                have q1 := hR 1 (by decide)
                have q2 := hR 2 (by decide)
                have q3 := hR 3 (by decide)
                have q4 := hR 4 (by decide)
                have q5 := hR 5 (by decide)
                have q6 := hR 6 (by decide)
                have q7 := hR 7 (by decide)
                have q8 := hR 8 (by decide)
                have q9 := hR 9 (by decide)
                have q10 := hR 10 (by decide)
                have q11 := hR 11 (by decide)
                have q12 := hR 12 (by decide)
                have q13 := hR 13 (by decide)
                have q14 := hR 14 (by decide)
                have q15 := hR 15 (by decide)
                have q16 := hR 16 (by decide)
                have q17 := hR 17 (by decide)
                have q18 := hR 18 (by decide)
                have q19 := hR 19 (by decide)
                have q20 := hR 20 (by decide)
                have q21 := hR 21 (by decide)
                have q22 := hR 22 (by decide)
                have q23 := hR 23 (by decide)
                have q24 := hR 24 (by decide)
                have q25 := hR 25 (by decide)
                have q26 := hR 26 (by decide)
                have q27 := hR 27 (by decide)
                have q28 := hR 28 (by decide)
                have q29 := hR 29 (by decide)
                have q30 := hR 30 (by decide)
                have q31 := hR 31 (by decide)
                have q32 := hR 32 (by decide)
                have q33 := hR 33 (by decide)
                have q34 := hR 34 (by decide)
                have q35 := hR 35 (by decide)
                have q36 := hR 36 (by decide)
                change vs 0 = .slice (some ⟨b, o, none⟩) n c at q0
                change vs 1 = .int .i64 (k : Int) at q1
                change vs 2 = .pointer (some ⟨b, o + k * 4, none⟩) at q2
                change vs 3 = .pointer (some ⟨b, o + k * 4, none⟩) at q3
                change vs 4 = .int .i64 x.label at q4
                change vs 5 = .slice (some ⟨b2, o2, none⟩) n c2 at q5
                change vs 6 = .int .i64 (k : Int) at q6
                change vs 7 = .pointer (some ⟨b2, o2 + k * 4, none⟩) at q7
                change vs 8 = .pointer (some ⟨b2, o2 + k * 4, none⟩) at q8
                change vs 9 = .int .i64 y.label at q9
                change vs 10 = .bool false at q10
                change vs 11 = .bool false at q11
                change vs 12 = .slice (some ⟨b, o, none⟩) n c at q12
                change vs 13 = .int .i64 (k : Int) at q13
                change vs 14 = .pointer (some ⟨b, o + k * 4, none⟩) at q14
                change vs 15 = .pointer (some ⟨b, o + k * 4 + 1, none⟩) at q15
                change vs 16 = .int .u8 x.cls at q16
                change vs 17 = .slice (some ⟨b2, o2, none⟩) n c2 at q17
                change vs 18 = .int .i64 (k : Int) at q18
                change vs 19 = .pointer (some ⟨b2, o2 + k * 4, none⟩) at q19
                change vs 20 = .pointer (some ⟨b2, o2 + k * 4 + 1, none⟩) at q20
                change vs 21 = .int .u8 y.cls at q21
                change vs 22 = .bool false at q22
                change vs 23 = .bool false at q23
                change vs 24 = .bool false at q24
                change vs 25 = .slice (some ⟨b, o, none⟩) n c at q25
                change vs 26 = .int .i64 (k : Int) at q26
                change vs 27 = .pointer (some ⟨b, o + k * 4, none⟩) at q27
                change vs 28 = .pointer (some ⟨b, o + k * 4 + 3, none⟩) at q28
                change vs 29 = .int .u8 x.ttl at q29
                change vs 30 = .slice (some ⟨b2, o2, none⟩) n c2 at q30
                change vs 31 = .int .i64 (k : Int) at q31
                change vs 32 = .pointer (some ⟨b2, o2 + k * 4, none⟩) at q32
                change vs 33 = .pointer (some ⟨b2, o2 + k * 4 + 3, none⟩) at q33
                change vs 34 = .int .u8 y.ttl at q34
                change vs 35 = .bool true at q35
                change vs 36 = .bool true at q36
                simp only [putAll, Act.put, List.setIfInBounds_toArray, List.set_cons_zero, List.set_cons_succ, q0, q1, q2, q3, q4, q5, q6, q7, q8, q9, q10, q11, q12, q13, q14, q15, q16, q17, q18, q19, q20, q21, q22, q23, q24, q25, q26, q27, q28, q29, q30, q31, q32, q33, q34, q35, q36]
                clear q0 q1 q2 q3 q4 q5 q6 q7 q8 q9 q10 q11 q12 q13 q14 q15 q16 q17 q18 q19 q20 q21 q22 q23 q24 q25 q26 q27 q28 q29 q30 q31 q32 q33 q34 q35 q36
                clear hR
                have hbW := HB.out.trans ((bthen (below_drewN (Below.refl _ _) 1) (grow_below hX)).mono HB.out.size)
                go_wp2
                go_ret
                rw [HS.out]
                exact ⟨rfl, hbW⟩
          · rw [show sameE x y = false by simp [sameE, q1], Bool.false_and] at hs
            have HS := Lib.hid hs
            clear hs
            go_wp2_with fail
            refine wp_region_rel (fun A B => A.grownBy B none) (fun A => grown_refl A _) (fun A B C h k => grown_trans h k) (relAt (List.cons (fun v _ => v = .slice (some ⟨b, o, none⟩) n c) (List.cons (fun v _ => v = .int .i64 (k : Int)) (List.cons (fun v _ => v = .pointer (some ⟨b, o + k * 4, none⟩)) (List.cons (fun v _ => v = .pointer (some ⟨b, o + k * 4, none⟩)) (List.cons (fun v _ => v = .int .i64 x.label) (List.cons (fun v _ => v = .slice (some ⟨b2, o2, none⟩) n c2) (List.cons (fun v _ => v = .int .i64 (k : Int)) (List.cons (fun v _ => v = .pointer (some ⟨b2, o2 + k * 4, none⟩)) (List.cons (fun v _ => v = .pointer (some ⟨b2, o2 + k * 4, none⟩)) (List.cons (fun v _ => v = .int .i64 y.label) (List.cons (fun v _ => v = .bool false) (List.cons (fun v _ => v = .bool false) (List.cons (fun v _ => v = .slice (some ⟨b, o, none⟩) n c) (List.cons (fun v _ => v = .int .i64 (k : Int)) (List.cons (fun v _ => v = .pointer (some ⟨b, o + k * 4, none⟩)) (List.cons (fun v _ => v = .pointer (some ⟨b, o + k * 4 + 1, none⟩)) (List.cons (fun v _ => v = .int .u8 x.cls) (List.cons (fun v _ => v = .slice (some ⟨b2, o2, none⟩) n c2) (List.cons (fun v _ => v = .int .i64 (k : Int)) (List.cons (fun v _ => v = .pointer (some ⟨b2, o2 + k * 4, none⟩)) (List.cons (fun v _ => v = .pointer (some ⟨b2, o2 + k * 4 + 1, none⟩)) (List.cons (fun v _ => v = .int .u8 y.cls) (List.cons (fun v _ => v = .bool true) (List.cons (fun v _ => v = .bool true) (List.cons (fun v _ => v = .bool true) (List.cons (fun v _ => v = undef) (List.cons (fun v _ => v = undef) (List.cons (fun v _ => v = undef) (List.cons (fun v _ => v = undef) (List.cons (fun v _ => v = undef) (List.cons (fun v _ => v = undef) (List.cons (fun v _ => v = undef) (List.cons (fun v _ => v = undef) (List.cons (fun v _ => v = undef) (List.cons (fun v _ => v = undef) (List.cons (fun v _ => v = undef) (List.cons (fun v _ => v = .bool true) ([]))))))))))))))))))))))))))))))))))))))) (MonoL.at_ (.cons (mono_val _) (.cons (mono_val _) (.cons (mono_val _) (.cons (mono_val _) (.cons (mono_val _) (.cons (mono_val _) (.cons (mono_val _) (.cons (mono_val _) (.cons (mono_val _) (.cons (mono_val _) (.cons (mono_val _) (.cons (mono_val _) (.cons (mono_val _) (.cons (mono_val _) (.cons (mono_val _) (.cons (mono_val _) (.cons (mono_val _) (.cons (mono_val _) (.cons (mono_val _) (.cons (mono_val _) (.cons (mono_val _) (.cons (mono_val _) (.cons (mono_val _) (.cons (mono_val _) (.cons (mono_val _) (.cons (mono_val _) (.cons (mono_val _) (.cons (mono_val _) (.cons (mono_val _) (.cons (mono_val _) (.cons (mono_val _) (.cons (mono_val _) (.cons (mono_val _) (.cons (mono_val _) (.cons (mono_val _) (.cons (mono_val _) (.cons (mono_val _) .nil)))))))))))))))))))))))))))))))))))))) (by kernel_rfl) (by kernel_rfl) ⟨?_, ?_, ?_, ?_, ?_, ?_, ?_, ?_, ?_, ?_, ?_, ?_, ?_, ?_, ?_, ?_, ?_, ?_, ?_, ?_, ?_, ?_, ?_, ?_, ?_, ?_, ?_, ?_, ?_, ?_, ?_, ?_, ?_, ?_, ?_, ?_, ?_, trivial⟩ ?_
            · intro a vs W hX hR he hf K hK
              rw [if_pos (wanted_none rfl)]
              have e0 : a.eval (.tmp 0) = .slice (some ⟨b, o, none⟩) n c := hf 0 (by kernel_rfl)
              refine wp_value (v := .slice (some ⟨b, o, none⟩) n c) ?_ (hK _ _ rfl (grown_refl W _))
              simp only [execOp, e0]
              try go_simp
              try (first | rfl | omega | (simp only [IntKind.wrap_i64, IntKind.wrap_u8, IntKind.wrap_u64, IntKind.wrap_u16, IntKind.wrap_u32]; omega) | (rw [Int.tmod_eq_emod_of_nonneg (by omega)]) | (rw [Int.tmod_eq_emod_of_nonneg (by omega)]; omega))
            · intro a vs W hX hR he hf K hK
              rw [if_pos (wanted_none rfl)]
              have e5 : a.eval (.tmp 5) = .int .i64 (k : Int) := hf 5 (by kernel_rfl)
              refine wp_value (v := .int .i64 (k : Int)) ?_ (hK _ _ rfl (grown_refl W _))
              simp only [execOp, e5]
              try go_simp
              try (first | rfl | omega | (simp only [IntKind.wrap_i64, IntKind.wrap_u8, IntKind.wrap_u64, IntKind.wrap_u16, IntKind.wrap_u32]; omega) | (rw [Int.tmod_eq_emod_of_nonneg (by omega)]) | (rw [Int.tmod_eq_emod_of_nonneg (by omega)]; omega))
            · intro a vs W hX hR he hf K hK
              rw [if_pos (wanted_none rfl)]
              have e17 : a.eval (.tmp 17) = .slice (some ⟨b, o, none⟩) n c := (he 0 17 (by kernel_rfl) rfl).trans (hR 0 (by kernel_rfl))
              have e18 : a.eval (.tmp 18) = .int .i64 (k : Int) := (he 1 18 (by kernel_rfl) rfl).trans (hR 1 (by kernel_rfl))
              refine wp_value (v := _) ?_ (hK _ _ rfl (grown_refl W _))
              simp only [execOp, e17, e18]
              go_simp
            · intro a vs W hX hR he hf K hK
              rw [if_pos (wanted_none rfl)]
              have e19 : a.eval (.tmp 19) = .pointer (some ⟨b, o + k * 4, none⟩) := (he 2 19 (by kernel_rfl) rfl).trans (hR 2 (by kernel_rfl))
              refine wp_value (v := .pointer (some ⟨b, o + k * 4, none⟩)) ?_ (hK _ _ rfl (grown_refl W _))
              simp only [execOp, e19]
              try go_simp
              try (first | rfl | omega | (simp only [IntKind.wrap_i64, IntKind.wrap_u8, IntKind.wrap_u64, IntKind.wrap_u16, IntKind.wrap_u32]; omega) | (rw [Int.tmod_eq_emod_of_nonneg (by omega)]) | (rw [Int.tmod_eq_emod_of_nonneg (by omega)]; omega))
            · intro a vs W hX hR he hf K hK
              rw [if_pos (wanted_none rfl)]
              have e20 : a.eval (.tmp 20) = .pointer (some ⟨b, o + k * 4, none⟩) := (he 3 20 (by kernel_rfl) rfl).trans (hR 3 (by kernel_rfl))
              have hbW := bthen (below_drewN (Below.refl _ _) 1) (grow_below hX)
              have hc := (KA0.out W hbW)
              refine wp_value (v := _) ?_ (hK _ _ rfl (grown_refl W _))
              simp only [execOp, e20]
              go_simp
            · intro a vs W hX hR he hf K hK
              rw [if_pos (wanted_none rfl)]
              have e1 : a.eval (.tmp 1) = .slice (some ⟨b2, o2, none⟩) n c2 := hf 1 (by kernel_rfl)
              refine wp_value (v := .slice (some ⟨b2, o2, none⟩) n c2) ?_ (hK _ _ rfl (grown_refl W _))
              simp only [execOp, e1]
              try go_simp
              try (first | rfl | omega | (simp only [IntKind.wrap_i64, IntKind.wrap_u8, IntKind.wrap_u64, IntKind.wrap_u16, IntKind.wrap_u32]; omega) | (rw [Int.tmod_eq_emod_of_nonneg (by omega)]) | (rw [Int.tmod_eq_emod_of_nonneg (by omega)]; omega))
            · intro a vs W hX hR he hf K hK
              rw [if_pos (wanted_none rfl)]
              have e5 : a.eval (.tmp 5) = .int .i64 (k : Int) := hf 5 (by kernel_rfl)
              refine wp_value (v := .int .i64 (k : Int)) ?_ (hK _ _ rfl (grown_refl W _))
              simp only [execOp, e5]
              try go_simp
              try (first | rfl | omega | (simp only [IntKind.wrap_i64, IntKind.wrap_u8, IntKind.wrap_u64, IntKind.wrap_u16, IntKind.wrap_u32]; omega) | (rw [Int.tmod_eq_emod_of_nonneg (by omega)]) | (rw [Int.tmod_eq_emod_of_nonneg (by omega)]; omega))
            · intro a vs W hX hR he hf K hK
              rw [if_pos (wanted_none rfl)]
              have e22 : a.eval (.tmp 22) = .slice (some ⟨b2, o2, none⟩) n c2 := (he 5 22 (by kernel_rfl) rfl).trans (hR 5 (by kernel_rfl))
              have e23 : a.eval (.tmp 23) = .int .i64 (k : Int) := (he 6 23 (by kernel_rfl) rfl).trans (hR 6 (by kernel_rfl))
              refine wp_value (v := _) ?_ (hK _ _ rfl (grown_refl W _))
              simp only [execOp, e22, e23]
              go_simp
            · intro a vs W hX hR he hf K hK
              rw [if_pos (wanted_none rfl)]
              have e24 : a.eval (.tmp 24) = .pointer (some ⟨b2, o2 + k * 4, none⟩) := (he 7 24 (by kernel_rfl) rfl).trans (hR 7 (by kernel_rfl))
              refine wp_value (v := .pointer (some ⟨b2, o2 + k * 4, none⟩)) ?_ (hK _ _ rfl (grown_refl W _))
              simp only [execOp, e24]
              try go_simp
              try (first | rfl | omega | (simp only [IntKind.wrap_i64, IntKind.wrap_u8, IntKind.wrap_u64, IntKind.wrap_u16, IntKind.wrap_u32]; omega) | (rw [Int.tmod_eq_emod_of_nonneg (by omega)]) | (rw [Int.tmod_eq_emod_of_nonneg (by omega)]; omega))
            · intro a vs W hX hR he hf K hK
              rw [if_pos (wanted_none rfl)]
              have e25 : a.eval (.tmp 25) = .pointer (some ⟨b2, o2 + k * 4, none⟩) := (he 8 25 (by kernel_rfl) rfl).trans (hR 8 (by kernel_rfl))
              have hbW := bthen (below_drewN (Below.refl _ _) 1) (grow_below hX)
              have hc := (KB0.out W hbW)
              refine wp_value (v := _) ?_ (hK _ _ rfl (grown_refl W _))
              simp only [execOp, e25]
              go_simp
            · intro a vs W hX hR he hf K hK
              rw [if_pos (wanted_none rfl)]
              have e21 : a.eval (.tmp 21) = .int .i64 x.label := (he 4 21 (by kernel_rfl) rfl).trans (hR 4 (by kernel_rfl))
              have e26 : a.eval (.tmp 26) = .int .i64 y.label := (he 9 26 (by kernel_rfl) rfl).trans (hR 9 (by kernel_rfl))
              refine wp_value (v := _) ?_ (hK _ _ rfl (grown_refl W _))
              simp only [execOp, e21, e26]
              go_simp
              try simp [q0]
            · intro a vs W hX hR he hf K hK
              rw [if_pos (wanted_none rfl)]
              have e27 : a.eval (.tmp 27) = .bool false := (he 10 27 (by kernel_rfl) rfl).trans (hR 10 (by kernel_rfl))
              refine wp_value (v := .bool false) ?_ (hK _ _ rfl (grown_refl W _))
              simp only [execOp, e27]
              try go_simp
              try (first | rfl | omega | (simp only [IntKind.wrap_i64, IntKind.wrap_u8, IntKind.wrap_u64, IntKind.wrap_u16, IntKind.wrap_u32]; omega) | (rw [Int.tmod_eq_emod_of_nonneg (by omega)]) | (rw [Int.tmod_eq_emod_of_nonneg (by omega)]; omega))
            · intro a vs W hX hR he hf K hK
              have e28 : a.eval (.tmp 28) = .bool false := (he 11 28 (by kernel_rfl) rfl).trans (hR 11 (by kernel_rfl))
              refine Eq.mpr (if_pos (by exact (wanted_some rfl rfl e28).trans rfl)) ?_
              have e0 : a.eval (.tmp 0) = .slice (some ⟨b, o, none⟩) n c := hf 0 (by kernel_rfl)
              refine wp_value (v := .slice (some ⟨b, o, none⟩) n c) ?_ (hK _ _ rfl (grown_refl W _))
              simp only [execOp, e0]
              try go_simp
              try (first | rfl | omega | (simp only [IntKind.wrap_i64, IntKind.wrap_u8, IntKind.wrap_u64, IntKind.wrap_u16, IntKind.wrap_u32]; omega) | (rw [Int.tmod_eq_emod_of_nonneg (by omega)]) | (rw [Int.tmod_eq_emod_of_nonneg (by omega)]; omega))
            · intro a vs W hX hR he hf K hK
              have e28 : a.eval (.tmp 28) = .bool false := (he 11 28 (by kernel_rfl) rfl).trans (hR 11 (by kernel_rfl))
              refine Eq.mpr (if_pos (by exact (wanted_some rfl rfl e28).trans rfl)) ?_
              have e5 : a.eval (.tmp 5) = .int .i64 (k : Int) := hf 5 (by kernel_rfl)
              refine wp_value (v := .int .i64 (k : Int)) ?_ (hK _ _ rfl (grown_refl W _))
              simp only [execOp, e5]
              try go_simp
              try (first | rfl | omega | (simp only [IntKind.wrap_i64, IntKind.wrap_u8, IntKind.wrap_u64, IntKind.wrap_u16, IntKind.wrap_u32]; omega) | (rw [Int.tmod_eq_emod_of_nonneg (by omega)]) | (rw [Int.tmod_eq_emod_of_nonneg (by omega)]; omega))
            · intro a vs W hX hR he hf K hK
              have e28 : a.eval (.tmp 28) = .bool false := (he 11 28 (by kernel_rfl) rfl).trans (hR 11 (by kernel_rfl))
              refine Eq.mpr (if_pos (by exact (wanted_some rfl rfl e28).trans rfl)) ?_
              have e29 : a.eval (.tmp 29) = .slice (some ⟨b, o, none⟩) n c := (he 12 29 (by kernel_rfl) rfl).trans (hR 12 (by kernel_rfl))
              have e30 : a.eval (.tmp 30) = .int .i64 (k : Int) := (he 13 30 (by kernel_rfl) rfl).trans (hR 13 (by kernel_rfl))
              refine wp_value (v := _) ?_ (hK _ _ rfl (grown_refl W _))
              simp only [execOp, e29, e30]
              go_simp
            · intro a vs W hX hR he hf K hK
              have e28 : a.eval (.tmp 28) = .bool false := (he 11 28 (by kernel_rfl) rfl).trans (hR 11 (by kernel_rfl))
              refine Eq.mpr (if_pos (by exact (wanted_some rfl rfl e28).trans rfl)) ?_
              have e31 : a.eval (.tmp 31) = .pointer (some ⟨b, o + k * 4, none⟩) := (he 14 31 (by kernel_rfl) rfl).trans (hR 14 (by kernel_rfl))
              refine wp_value (v := .pointer (some ⟨b, o + k * 4 + 1, none⟩)) ?_ (hK _ _ rfl (grown_refl W _))
              simp only [execOp, e31]
              try go_simp
              try (first | rfl | omega | (simp only [IntKind.wrap_i64, IntKind.wrap_u8, IntKind.wrap_u64, IntKind.wrap_u16, IntKind.wrap_u32]; omega) | (rw [Int.tmod_eq_emod_of_nonneg (by omega)]) | (rw [Int.tmod_eq_emod_of_nonneg (by omega)]; omega))
            · intro a vs W hX hR he hf K hK
              have e28 : a.eval (.tmp 28) = .bool false := (he 11 28 (by kernel_rfl) rfl).trans (hR 11 (by kernel_rfl))
              refine Eq.mpr (if_pos (by exact (wanted_some rfl rfl e28).trans rfl)) ?_
              have e32 : a.eval (.tmp 32) = .pointer (some ⟨b, o + k * 4 + 1, none⟩) := (he 15 32 (by kernel_rfl) rfl).trans (hR 15 (by kernel_rfl))
              have hbW := bthen (below_drewN (Below.refl _ _) 1) (grow_below hX)
              have hc := (KA1.out W hbW)
              refine wp_value (v := _) ?_ (hK _ _ rfl (grown_refl W _))
              simp only [execOp, e32]
              go_simp
            · intro a vs W hX hR he hf K hK
              have e28 : a.eval (.tmp 28) = .bool false := (he 11 28 (by kernel_rfl) rfl).trans (hR 11 (by kernel_rfl))
              refine Eq.mpr (if_pos (by exact (wanted_some rfl rfl e28).trans rfl)) ?_
              have e1 : a.eval (.tmp 1) = .slice (some ⟨b2, o2, none⟩) n c2 := hf 1 (by kernel_rfl)
              refine wp_value (v := .slice (some ⟨b2, o2, none⟩) n c2) ?_ (hK _ _ rfl (grown_refl W _))
              simp only [execOp, e1]
              try go_simp
              try (first | rfl | omega | (simp only [IntKind.wrap_i64, IntKind.wrap_u8, IntKind.wrap_u64, IntKind.wrap_u16, IntKind.wrap_u32]; omega) | (rw [Int.tmod_eq_emod_of_nonneg (by omega)]) | (rw [Int.tmod_eq_emod_of_nonneg (by omega)]; omega))
            · intro a vs W hX hR he hf K hK
              have e28 : a.eval (.tmp 28) = .bool false := (he 11 28 (by kernel_rfl) rfl).trans (hR 11 (by kernel_rfl))
              refine Eq.mpr (if_pos (by exact (wanted_some rfl rfl e28).trans rfl)) ?_
              have e5 : a.eval (.tmp 5) = .int .i64 (k : Int) := hf 5 (by kernel_rfl)
              refine wp_value (v := .int .i64 (k : Int)) ?_ (hK _ _ rfl (grown_refl W _))
              simp only [execOp, e5]
              try go_simp
              try (first | rfl | omega | (simp only [IntKind.wrap_i64, IntKind.wrap_u8, IntKind.wrap_u64, IntKind.wrap_u16, IntKind.wrap_u32]; omega) | (rw [Int.tmod_eq_emod_of_nonneg (by omega)]) | (rw [Int.tmod_eq_emod_of_nonneg (by omega)]; omega))
            · intro a vs W hX hR he hf K hK
              have e28 : a.eval (.tmp 28) = .bool false := (he 11 28 (by kernel_rfl) rfl).trans (hR 11 (by kernel_rfl))
              refine Eq.mpr (if_pos (by exact (wanted_some rfl rfl e28).trans rfl)) ?_
              have e34 : a.eval (.tmp 34) = .slice (some ⟨b2, o2, none⟩) n c2 := (he 17 34 (by kernel_rfl) rfl).trans (hR 17 (by kernel_rfl))
              have e35 : a.eval (.tmp 35) = .int .i64 (k : Int) := (he 18 35 (by kernel_rfl) rfl).trans (hR 18 (by kernel_rfl))
              refine wp_value (v := _) ?_ (hK _ _ rfl (grown_refl W _))
              simp only [execOp, e34, e35]
              go_simp
            · intro a vs W hX hR he hf K hK
              have e28 : a.eval (.tmp 28) = .bool false := (he 11 28 (by kernel_rfl) rfl).trans (hR 11 (by kernel_rfl))
              refine Eq.mpr (if_pos (by exact (wanted_some rfl rfl e28).trans rfl)) ?_
              have e36 : a.eval (.tmp 36) = .pointer (some ⟨b2, o2 + k * 4, none⟩) := (he 19 36 (by kernel_rfl) rfl).trans (hR 19 (by kernel_rfl))
              refine wp_value (v := .pointer (some ⟨b2, o2 + k * 4 + 1, none⟩)) ?_ (hK _ _ rfl (grown_refl W _))
              simp only [execOp, e36]
              try go_simp
              try (first | rfl | omega | (simp only [IntKind.wrap_i64, IntKind.wrap_u8, IntKind.wrap_u64, IntKind.wrap_u16, IntKind.wrap_u32]; omega) | (rw [Int.tmod_eq_emod_of_nonneg (by omega)]) | (rw [Int.tmod_eq_emod_of_nonneg (by omega)]; omega))
            · intro a vs W hX hR he hf K hK
              have e28 : a.eval (.tmp 28) = .bool false := (he 11 28 (by kernel_rfl) rfl).trans (hR 11 (by kernel_rfl))
              refine Eq.mpr (if_pos (by exact (wanted_some rfl rfl e28).trans rfl)) ?_
              have e37 : a.eval (.tmp 37) = .pointer (some ⟨b2, o2 + k * 4 + 1, none⟩) := (he 20 37 (by kernel_rfl) rfl).trans (hR 20 (by kernel_rfl))
              have hbW := bthen (below_drewN (Below.refl _ _) 1) (grow_below hX)
              have hc := (KB1.out W hbW)
              refine wp_value (v := _) ?_ (hK _ _ rfl (grown_refl W _))
              simp only [execOp, e37]
              go_simp
            · intro a vs W hX hR he hf K hK
              have e28 : a.eval (.tmp 28) = .bool false := (he 11 28 (by kernel_rfl) rfl).trans (hR 11 (by kernel_rfl))
              refine Eq.mpr (if_pos (by exact (wanted_some rfl rfl e28).trans rfl)) ?_
              have e33 : a.eval (.tmp 33) = .int .u8 x.cls := (he 16 33 (by kernel_rfl) rfl).trans (hR 16 (by kernel_rfl))
              have e38 : a.eval (.tmp 38) = .int .u8 y.cls := (he 21 38 (by kernel_rfl) rfl).trans (hR 21 (by kernel_rfl))
              refine wp_value (v := _) ?_ (hK _ _ rfl (grown_refl W _))
              simp only [execOp, e33, e38]
              go_simp
              try simp [q1]
            · intro a vs W hX hR he hf K hK
              rw [if_pos (wanted_none rfl)]
              have e28 : a.eval (.tmp 28) = .bool false := (he 11 28 (by kernel_rfl) rfl).trans (hR 11 (by kernel_rfl))
              have e39 : a.eval (.tmp 39) = .bool true := (he 22 39 (by kernel_rfl) rfl).trans (hR 22 (by kernel_rfl))
              refine wp_value (v := .bool true) ?_ (hK _ _ rfl (grown_refl W _))
              simp only [execOp, e28, e39]
              try go_simp
              try (first | rfl | omega | (simp only [IntKind.wrap_i64, IntKind.wrap_u8, IntKind.wrap_u64, IntKind.wrap_u16, IntKind.wrap_u32]; omega) | (rw [Int.tmod_eq_emod_of_nonneg (by omega)]) | (rw [Int.tmod_eq_emod_of_nonneg (by omega)]; omega))
            · intro a vs W hX hR he hf K hK
              rw [if_pos (wanted_none rfl)]
              have e40 : a.eval (.tmp 40) = .bool true := (he 23 40 (by kernel_rfl) rfl).trans (hR 23 (by kernel_rfl))
              refine wp_value (v := .bool true) ?_ (hK _ _ rfl (grown_refl W _))
              simp only [execOp, e40]
              try go_simp
              try (first | rfl | omega | (simp only [IntKind.wrap_i64, IntKind.wrap_u8, IntKind.wrap_u64, IntKind.wrap_u16, IntKind.wrap_u32]; omega) | (rw [Int.tmod_eq_emod_of_nonneg (by omega)]) | (rw [Int.tmod_eq_emod_of_nonneg (by omega)]; omega))
            · intro a vs W hX hR he hf K hK
              have e41 : a.eval (.tmp 41) = .bool true := (he 24 41 (by kernel_rfl) rfl).trans (hR 24 (by kernel_rfl))
              refine Eq.mpr (if_neg (fun hz => Bool.false_ne_true (Eq.trans (by exact Eq.symm ((wanted_some rfl rfl e41).trans rfl)) hz))) ?_
              exact hK _ _ rfl (grown_refl W _)
            · intro a vs W hX hR he hf K hK
              have e41 : a.eval (.tmp 41) = .bool true := (he 24 41 (by kernel_rfl) rfl).trans (hR 24 (by kernel_rfl))
              refine Eq.mpr (if_neg (fun hz => Bool.false_ne_true (Eq.trans (by exact Eq.symm ((wanted_some rfl rfl e41).trans rfl)) hz))) ?_
              exact hK _ _ rfl (grown_refl W _)
            · intro a vs W hX hR he hf K hK
              have e41 : a.eval (.tmp 41) = .bool true := (he 24 41 (by kernel_rfl) rfl).trans (hR 24 (by kernel_rfl))
              refine Eq.mpr (if_neg (fun hz => Bool.false_ne_true (Eq.trans (by exact Eq.symm ((wanted_some rfl rfl e41).trans rfl)) hz))) ?_
              exact hK _ _ rfl (grown_refl W _)
            · intro a vs W hX hR he hf K hK
              have e41 : a.eval (.tmp 41) = .bool true := (he 24 41 (by kernel_rfl) rfl).trans (hR 24 (by kernel_rfl))
              refine Eq.mpr (if_neg (fun hz => Bool.false_ne_true (Eq.trans (by exact Eq.symm ((wanted_some rfl rfl e41).trans rfl)) hz))) ?_
              exact hK _ _ rfl (grown_refl W _)
            · intro a vs W hX hR he hf K hK
              have e41 : a.eval (.tmp 41) = .bool true := (he 24 41 (by kernel_rfl) rfl).trans (hR 24 (by kernel_rfl))
              refine Eq.mpr (if_neg (fun hz => Bool.false_ne_true (Eq.trans (by exact Eq.symm ((wanted_some rfl rfl e41).trans rfl)) hz))) ?_
              exact hK _ _ rfl (grown_refl W _)
            · intro a vs W hX hR he hf K hK
              have e41 : a.eval (.tmp 41) = .bool true := (he 24 41 (by kernel_rfl) rfl).trans (hR 24 (by kernel_rfl))
              refine Eq.mpr (if_neg (fun hz => Bool.false_ne_true (Eq.trans (by exact Eq.symm ((wanted_some rfl rfl e41).trans rfl)) hz))) ?_
              exact hK _ _ rfl (grown_refl W _)
            · intro a vs W hX hR he hf K hK
              have e41 : a.eval (.tmp 41) = .bool true := (he 24 41 (by kernel_rfl) rfl).trans (hR 24 (by kernel_rfl))
              refine Eq.mpr (if_neg (fun hz => Bool.false_ne_true (Eq.trans (by exact Eq.symm ((wanted_some rfl rfl e41).trans rfl)) hz))) ?_
              exact hK _ _ rfl (grown_refl W _)
            · intro a vs W hX hR he hf K hK
              have e41 : a.eval (.tmp 41) = .bool true := (he 24 41 (by kernel_rfl) rfl).trans (hR 24 (by kernel_rfl))
              refine Eq.mpr (if_neg (fun hz => Bool.false_ne_true (Eq.trans (by exact Eq.symm ((wanted_some rfl rfl e41).trans rfl)) hz))) ?_
              exact hK _ _ rfl (grown_refl W _)
            · intro a vs W hX hR he hf K hK
              have e41 : a.eval (.tmp 41) = .bool true := (he 24 41 (by kernel_rfl) rfl).trans (hR 24 (by kernel_rfl))
              refine Eq.mpr (if_neg (fun hz => Bool.false_ne_true (Eq.trans (by exact Eq.symm ((wanted_some rfl rfl e41).trans rfl)) hz))) ?_
              exact hK _ _ rfl (grown_refl W _)
            · intro a vs W hX hR he hf K hK
              have e41 : a.eval (.tmp 41) = .bool true := (he 24 41 (by kernel_rfl) rfl).trans (hR 24 (by kernel_rfl))
              refine Eq.mpr (if_neg (fun hz => Bool.false_ne_true (Eq.trans (by exact Eq.symm ((wanted_some rfl rfl e41).trans rfl)) hz))) ?_
              exact hK _ _ rfl (grown_refl W _)
            · intro a vs W hX hR he hf K hK
              have e41 : a.eval (.tmp 41) = .bool true := (he 24 41 (by kernel_rfl) rfl).trans (hR 24 (by kernel_rfl))
              refine Eq.mpr (if_neg (fun hz => Bool.false_ne_true (Eq.trans (by exact Eq.symm ((wanted_some rfl rfl e41).trans rfl)) hz))) ?_
              exact hK _ _ rfl (grown_refl W _)
            · intro a vs W hX hR he hf K hK
              rw [if_pos (wanted_none rfl)]
              have e41 : a.eval (.tmp 41) = .bool true := (he 24 41 (by kernel_rfl) rfl).trans (hR 24 (by kernel_rfl))
              have e52 : a.eval (.tmp 52) = undef := (he 35 52 (by kernel_rfl) rfl).trans (hR 35 (by kernel_rfl))
              refine wp_value (v := .bool true) ?_ (hK _ _ rfl (grown_refl W _))
              simp only [execOp, e41, e52]
              try go_simp
              try (first | rfl | omega | (simp only [IntKind.wrap_i64, IntKind.wrap_u8, IntKind.wrap_u64, IntKind.wrap_u16, IntKind.wrap_u32]; omega) | (rw [Int.tmod_eq_emod_of_nonneg (by omega)]) | (rw [Int.tmod_eq_emod_of_nonneg (by omega)]; omega))
            · intro vs W hX hR
              have q0 := hR 0 (by decide)
              have q1 := hR 1 (by decide)
              have q2 := hR 2 (by decide)
              have q3 := hR 3 (by decide)
              have q4 := hR 4 (by decide)
              have q5 := hR 5 (by decide)
              have q6 := hR 6 (by decide)
              have q7 := hR 7 (by decide)
              have q8 := hR 8 (by decide)
              have q9 := hR 9 (by decide)
              have q10 := hR 10 (by decide)
              have q11 := hR 11 (by decide)
              have q12 := hR 12 (by decide)
              have q13 := hR 13 (by decide)
              have q14 := hR 14 (by decide)
              have q15 := hR 15 (by decide)
              have q16 := hR 16 (by decide)
              have q17 := hR 17 (by decide)
              have q18 := hR 18 (by decide)
              have q19 := hR 19 (by decide)
              have q20 := hR 20 (by decide)
              have q21 := hR 21 (by decide)
              have q22 := hR 22 (by decide)
              have q23 := hR 23 (by decide)
              have q24 := hR 24 (by decide)
              have q25 := hR 25 (by decide)
              have q26 := hR 26 (by decide)
              have q27 := hR 27 (by decide)
              have q28 := hR 28 (by decide)
              have q29 := hR 29 (by decide)
              have q30 := hR 30 (by decide)
              have q31 := hR 31 (by decide)
              have q32 := hR 32 (by decide)
              have q33 := hR 33 (by decide)
              have q34 := hR 34 (by decide)
              have q35 := hR 35 (by decide)
              have q36 := hR 36 (by decide)
              change vs 0 = .slice (some ⟨b, o, none⟩) n c at q0
              change vs 1 = .int .i64 (k : Int) at q1
              change vs 2 = .pointer (some ⟨b, o + k * 4, none⟩) at q2
              change vs 3 = .pointer (some ⟨b, o + k * 4, none⟩) at q3
              change vs 4 = .int .i64 x.label at q4
              change vs 5 = .slice (some ⟨b2, o2, none⟩) n c2 at q5
              change vs 6 = .int .i64 (k : Int) at q6
              change vs 7 = .pointer (some ⟨b2, o2 + k * 4, none⟩) at q7
              change vs 8 = .pointer (some ⟨b2, o2 + k * 4, none⟩) at q8
              change vs 9 = .int .i64 y.label at q9
              change vs 10 = .bool false at q10
              change vs 11 = .bool false at q11
              change vs 12 = .slice (some ⟨b, o, none⟩) n c at q12
              change vs 13 = .int .i64 (k : Int) at q13
              change vs 14 = .pointer (some ⟨b, o + k * 4, none⟩) at q14
              change vs 15 = .pointer (some ⟨b, o + k * 4 + 1, none⟩) at q15
              change vs 16 = .int .u8 x.cls at q16
              change vs 17 = .slice (some ⟨b2, o2, none⟩) n c2 at q17
              change vs 18 = .int .i64 (k : Int) at q18
              change vs 19 = .pointer (some ⟨b2, o2 + k * 4, none⟩) at q19
              change vs 20 = .pointer (some ⟨b2, o2 + k * 4 + 1, none⟩) at q20
              change vs 21 = .int .u8 y.cls at q21
              change vs 22 = .bool true at q22
              change vs 23 = .bool true at q23
              change vs 24 = .bool true at q24
              change vs 25 = undef at q25
              change vs 26 = undef at q26
              change vs 27 = undef at q27
              change vs 28 = undef at q28
              change vs 29 = undef at q29
              change vs 30 = undef at q30
              change vs 31 = undef at q31
              change vs 32 = undef at q32
              change vs 33 = undef at q33
              change vs 34 = undef at q34
              change vs 35 = undef at q35
              change vs 36 = .bool true at q36
              simp only [putAll, Act.put, List.setIfInBounds_toArray, List.set_cons_zero, List.set_cons_succ, q0, q1, q2, q3, q4, q5, q6, q7, q8, q9, q10, q11, q12, q13, q14, q15, q16, q17, q18, q19, q20, q21, q22, q23, q24, q25, q26, q27, q28, q29, q30, q31, q32, q33, q34, q35, q36]
              clear q0 q1 q2 q3 q4 q5 q6 q7 q8 q9 q10 q11 q12 q13 q14 q15 q16 q17 q18 q19 q20 q21 q22 q23 q24 q25 q26 q27 q28 q29 q30 q31 q32 q33 q34 q35 q36
              clear hR
              have hbW := HB.out.trans ((bthen (below_drewN (Below.refl _ _) 1) (grow_below hX)).mono HB.out.size)
              go_wp2
              go_ret
              rw [HS.out]
              exact ⟨rfl, hbW⟩
        · rw [show sameE x y = false by simp [sameE, q0], Bool.false_and] at hs
          have HS := Lib.hid hs
          clear hs
          go_wp2_with fail
          refine wp_region_rel (fun A B => A.grownBy B none) (fun A => grown_refl A _) (fun A B C h k => grown_trans h k) (relAt (List.cons (fun v _ => v = .slice (some ⟨b, o, none⟩) n c) (List.cons (fun v _ => v = .int .i64 (k : Int)) (List.cons (fun v _ => v = .pointer (some ⟨b, o + k * 4, none⟩)) (List.cons (fun v _ => v = .pointer (some ⟨b, o + k * 4, none⟩)) (List.cons (fun v _ => v = .int .i64 x.label) (List.cons (fun v _ => v = .slice (some ⟨b2, o2, none⟩) n c2) (List.cons (fun v _ => v = .int .i64 (k : Int)) (List.cons (fun v _ => v = .pointer (some ⟨b2, o2 + k * 4, none⟩)) (List.cons (fun v _ => v = .pointer (some ⟨b2, o2 + k * 4, none⟩)) (List.cons (fun v _ => v = .int .i64 y.label) (List.cons (fun v _ => v = .bool true) (List.cons (fun v _ => v = .bool true) (List.cons (fun v _ => v = undef) (List.cons (fun v _ => v = undef) (List.cons (fun v _ => v = undef) (List.cons (fun v _ => v = undef) (List.cons (fun v _ => v = undef) (List.cons (fun v _ => v = undef) (List.cons (fun v _ => v = undef) (List.cons (fun v _ => v = undef) (List.cons (fun v _ => v = undef) (List.cons (fun v _ => v = undef) (List.cons (fun v _ => v = undef) (List.cons (fun v _ => v = .bool true) (List.cons (fun v _ => v = .bool true) (List.cons (fun v _ => v = undef) (List.cons (fun v _ => v = undef) (List.cons (fun v _ => v = undef) (List.cons (fun v _ => v = undef) (List.cons (fun v _ => v = undef) (List.cons (fun v _ => v = undef) (List.cons (fun v _ => v = undef) (List.cons (fun v _ => v = undef) (List.cons (fun v _ => v = undef) (List.cons (fun v _ => v = undef) (List.cons (fun v _ => v = undef) (List.cons (fun v _ => v = .bool true) ([]))))))))))))))))))))))))))))))))))))))) (MonoL.at_ (.cons (mono_val _) (.cons (mono_val _) (.cons (mono_val _) (.cons (mono_val _) (.cons (mono_val _) (.cons (mono_val _) (.cons (mono_val _) (.cons (mono_val _) (.cons (mono_val _) (.cons (mono_val _) (.cons (mono_val _) (.cons (mono_val _) (.cons (mono_val _) (.cons (mono_val _) (.cons (mono_val _) (.cons (mono_val _) (.cons (mono_val _) (.cons (mono_val _) (.cons (mono_val _) (.cons (mono_val _) (.cons (mono_val _) (.cons (mono_val _) (.cons (mono_val _) (.cons (mono_val _) (.cons (mono_val _) (.cons (mono_val _) (.cons (mono_val _) (.cons (mono_val _) (.cons (mono_val _) (.cons (mono_val _) (.cons (mono_val _) (.cons (mono_val _) (.cons (mono_val _) (.cons (mono_val _) (.cons (mono_val _) (.cons (mono_val _) (.cons (mono_val _) .nil)))))))))))))))))))))))))))))))))))))) (by kernel_rfl) (by kernel_rfl) ⟨?_, ?_, ?_, ?_, ?_, ?_, ?_, ?_, ?_, ?_, ?_, ?_, ?_, ?_, ?_, ?_, ?_, ?_, ?_, ?_, ?_, ?_, ?_, ?_, ?_, ?_, ?_, ?_, ?_, ?_, ?_, ?_, ?_, ?_, ?_, ?_, ?_, trivial⟩ ?_
          · intro a vs W hX hR he hf K hK
            rw [if_pos (wanted_none rfl)]
            have e0 : a.eval (.tmp 0) = .slice (some ⟨b, o, none⟩) n c := hf 0 (by kernel_rfl)
            refine wp_value (v := .slice (some ⟨b, o, none⟩) n c) ?_ (hK _ _ rfl (grown_refl W _))
            simp only [execOp, e0]
            try go_simp
            try (first | rfl | omega | (simp only [IntKind.wrap_i64, IntKind.wrap_u8, IntKind.wrap_u64, IntKind.wrap_u16, IntKind.wrap_u32]; omega) | (rw [Int.tmod_eq_emod_of_nonneg (by omega)]) | (rw [Int.tmod_eq_emod_of_nonneg (by omega)]; omega))
          · intro a vs W hX hR he hf K hK
            rw [if_pos (wanted_none rfl)]
            have e5 : a.eval (.tmp 5) = .int .i64 (k : Int) := hf 5 (by kernel_rfl)
            refine wp_value (v := .int .i64 (k : Int)) ?_ (hK _ _ rfl (grown_refl W _))
            simp only [execOp, e5]
            try go_simp
            try (first | rfl | omega | (simp only [IntKind.wrap_i64, IntKind.wrap_u8, IntKind.wrap_u64, IntKind.wrap_u16, IntKind.wrap_u32]; omega) | (rw [Int.tmod_eq_emod_of_nonneg (by omega)]) | (rw [Int.tmod_eq_emod_of_nonneg (by omega)]; omega))
          · intro a vs W hX hR he hf K hK
            rw [if_pos (wanted_none rfl)]
            have e17 : a.eval (.tmp 17) = .slice (some ⟨b, o, none⟩) n c := (he 0 17 (by kernel_rfl) rfl).trans (hR 0 (by kernel_rfl))
            have e18 : a.eval (.tmp 18) = .int .i64 (k : Int) := (he 1 18 (by kernel_rfl) rfl).trans (hR 1 (by kernel_rfl))
            refine wp_value (v := _) ?_ (hK _ _ rfl (grown_refl W _))
            simp only [execOp, e17, e18]
            go_simp
          · intro a vs W hX hR he hf K hK
            rw [if_pos (wanted_none rfl)]
            have e19 : a.eval (.tmp 19) = .pointer (some ⟨b, o + k * 4, none⟩) := (he 2 19 (by kernel_rfl) rfl).trans (hR 2 (by kernel_rfl))
            refine wp_value (v := .pointer (some ⟨b, o + k * 4, none⟩)) ?_ (hK _ _ rfl (grown_refl W _))
            simp only [execOp, e19]
            try go_simp
            try (first | rfl | omega | (simp only [IntKind.wrap_i64, IntKind.wrap_u8, IntKind.wrap_u64, IntKind.wrap_u16, IntKind.wrap_u32]; omega) | (rw [Int.tmod_eq_emod_of_nonneg (by omega)]) | (rw [Int.tmod_eq_emod_of_nonneg (by omega)]; omega))
          · intro a vs W hX hR he hf K hK
            rw [if_pos (wanted_none rfl)]
            have e20 : a.eval (.tmp 20) = .pointer (some ⟨b, o + k * 4, none⟩) := (he 3 20 (by kernel_rfl) rfl).trans (hR 3 (by kernel_rfl))
            have hbW := bthen (below_drewN (Below.refl _ _) 1) (grow_below hX)
            have hc := (KA0.out W hbW)
            refine wp_value (v := _) ?_ (hK _ _ rfl (grown_refl W _))
            simp only [execOp, e20]
            go_simp
          · intro a vs W hX hR he hf K hK
            rw [if_pos (wanted_none rfl)]
            have e1 : a.eval (.tmp 1) = .slice (some ⟨b2, o2, none⟩) n c2 := hf 1 (by kernel_rfl)
            refine wp_value (v := .slice (some ⟨b2, o2, none⟩) n c2) ?_ (hK _ _ rfl (grown_refl W _))
            simp only [execOp, e1]
            try go_simp
            try (first | rfl | omega | (simp only [IntKind.wrap_i64, IntKind.wrap_u8, IntKind.wrap_u64, IntKind.wrap_u16, IntKind.wrap_u32]; omega) | (rw [Int.tmod_eq_emod_of_nonneg (by omega)]) | (rw [Int.tmod_eq_emod_of_nonneg (by omega)]; omega))
          · intro a vs W hX hR he hf K hK
            rw [if_pos (wanted_none rfl)]
            have e5 : a.eval (.tmp 5) = .int .i64 (k : Int) := hf 5 (by kernel_rfl)
            refine wp_value (v := .int .i64 (k : Int)) ?_ (hK _ _ rfl (grown_refl W _))
            simp only [execOp, e5]
            try go_simp
            try (first | rfl | omega | (simp only [IntKind.wrap_i64, IntKind.wrap_u8, IntKind.wrap_u64, IntKind.wrap_u16, IntKind.wrap_u32]; omega) | (rw [Int.tmod_eq_emod_of_nonneg (by omega)]) | (rw [Int.tmod_eq_emod_of_nonneg (by omega)]; omega))
          · intro a vs W hX hR he hf K hK
            rw [if_pos (wanted_none rfl)]
            have e22 : a.eval (.tmp 22) = .slice (some ⟨b2, o2, none⟩) n c2 := (he 5 22 (by kernel_rfl) rfl).trans (hR 5 (by kernel_rfl))
            have e23 : a.eval (.tmp 23) = .int .i64 (k : Int) := (he 6 23 (by kernel_rfl) rfl).trans (hR 6 (by kernel_rfl))
            refine wp_value (v := _) ?_ (hK _ _ rfl (grown_refl W _))
            simp only [execOp, e22, e23]
            go_simp
          · intro a vs W hX hR he hf K hK
            rw [if_pos (wanted_none rfl)]
            have e24 : a.eval (.tmp 24) = .pointer (some ⟨b2, o2 + k * 4, none⟩) := (he 7 24 (by kernel_rfl) rfl).trans (hR 7 (by kernel_rfl))
            refine wp_value (v := .pointer (some ⟨b2, o2 + k * 4, none⟩)) ?_ (hK _ _ rfl (grown_refl W _))
            simp only [execOp, e24]
            try go_simp
            try (first | rfl | omega | (simp only [IntKind.wrap_i64, IntKind.wrap_u8, IntKind.wrap_u64, IntKind.wrap_u16, IntKind.wrap_u32]; omega) | (rw [Int.tmod_eq_emod_of_nonneg (by omega)]) | (rw [Int.tmod_eq_emod_of_nonneg (by omega)]; omega))
          · intro a vs W hX hR he hf K hK
            rw [if_pos (wanted_none rfl)]
            have e25 : a.eval (.tmp 25) = .pointer (some ⟨b2, o2 + k * 4, none⟩) := (he 8 25 (by kernel_rfl) rfl).trans (hR 8 (by kernel_rfl))
            have hbW := bthen (below_drewN (Below.refl _ _) 1) (grow_below hX)
            have hc := (KB0.out W hbW)
            refine wp_value (v := _) ?_ (hK _ _ rfl (grown_refl W _))
            simp only [execOp, e25]
            go_simp
          · intro a vs W hX hR he hf K hK
            rw [if_pos (wanted_none rfl)]
            have e21 : a.eval (.tmp 21) = .int .i64 x.label := (he 4 21 (by kernel_rfl) rfl).trans (hR 4 (by kernel_rfl))
            have e26 : a.eval (.tmp 26) = .int .i64 y.label := (he 9 26 (by kernel_rfl) rfl).trans (hR 9 (by kernel_rfl))
            refine wp_value (v := _) ?_ (hK _ _ rfl (grown_refl W _))
            simp only [execOp, e21, e26]
            go_simp
            try simp [q0]
          · intro a vs W hX hR he hf K hK
            rw [if_pos (wanted_none rfl)]
            have e27 : a.eval (.tmp 27) = .bool true := (he 10 27 (by kernel_rfl) rfl).trans (hR 10 (by kernel_rfl))
            refine wp_value (v := .bool true) ?_ (hK _ _ rfl (grown_refl W _))
            simp only [execOp, e27]
            try go_simp
            try (first | rfl | omega | (simp only [IntKind.wrap_i64, IntKind.wrap_u8, IntKind.wrap_u64, IntKind.wrap_u16, IntKind.wrap_u32]; omega) | (rw [Int.tmod_eq_emod_of_nonneg (by omega)]) | (rw [Int.tmod_eq_emod_of_nonneg (by omega)]; omega))
          · intro a vs W hX hR he hf K hK
            have e28 : a.eval (.tmp 28) = .bool true := (he 11 28 (by kernel_rfl) rfl).trans (hR 11 (by kernel_rfl))
            refine Eq.mpr (if_neg (fun hz => Bool.false_ne_true (Eq.trans (by exact Eq.symm ((wanted_some rfl rfl e28).trans rfl)) hz))) ?_
            exact hK _ _ rfl (grown_refl W _)
          · intro a vs W hX hR he hf K hK
            have e28 : a.eval (.tmp 28) = .bool true := (he 11 28 (by kernel_rfl) rfl).trans (hR 11 (by kernel_rfl))
            refine Eq.mpr (if_neg (fun hz => Bool.false_ne_true (Eq.trans (by exact Eq.symm ((wanted_some rfl rfl e28).trans rfl)) hz))) ?_
            exact hK _ _ rfl (grown_refl W _)
          · intro a vs W hX hR he hf K hK
            have e28 : a.eval (.tmp 28) = .bool true := (he 11 28 (by kernel_rfl) rfl).trans (hR 11 (by kernel_rfl))
            refine Eq.mpr (if_neg (fun hz => Bool.false_ne_true (Eq.trans (by exact Eq.symm ((wanted_some rfl rfl e28).trans rfl)) hz))) ?_
            exact hK _ _ rfl (grown_refl W _)
          · intro a vs W hX hR he hf K hK
            have e28 : a.eval (.tmp 28) = .bool true := (he 11 28 (by kernel_rfl) rfl).trans (hR 11 (by kernel_rfl))
            refine Eq.mpr (if_neg (fun hz => Bool.false_ne_true (Eq.trans (by exact Eq.symm ((wanted_some rfl rfl e28).trans rfl)) hz))) ?_
            exact hK _ _ rfl (grown_refl W _)
          · intro a vs W hX hR he hf K hK
            have e28 : a.eval (.tmp 28) = .bool true := (he 11 28 (by kernel_rfl) rfl).trans (hR 11 (by kernel_rfl))
            refine Eq.mpr (if_neg (fun hz => Bool.false_ne_true (Eq.trans (by exact Eq.symm ((wanted_some rfl rfl e28).trans rfl)) hz))) ?_
            exact hK _ _ rfl (grown_refl W _)
          · intro a vs W hX hR he hf K hK
            have e28 : a.eval (.tmp 28) = .bool true := (he 11 28 (by kernel_rfl) rfl).trans (hR 11 (by kernel_rfl))
            refine Eq.mpr (if_neg (fun hz => Bool.false_ne_true (Eq.trans (by exact Eq.symm ((wanted_some rfl rfl e28).trans rfl)) hz))) ?_
            exact hK _ _ rfl (grown_refl W _)
          · intro a vs W hX hR he hf K hK
            have e28 : a.eval (.tmp 28) = .bool true := (he 11 28 (by kernel_rfl) rfl).trans (hR 11 (by kernel_rfl))
            refine Eq.mpr (if_neg (fun hz => Bool.false_ne_true (Eq.trans (by exact Eq.symm ((wanted_some rfl rfl e28).trans rfl)) hz))) ?_
            exact hK _ _ rfl (grown_refl W _)
          · intro a vs W hX hR he hf K hK
            have e28 : a.eval (.tmp 28) = .bool true := (he 11 28 (by kernel_rfl) rfl).trans (hR 11 (by kernel_rfl))
            refine Eq.mpr (if_neg (fun hz => Bool.false_ne_true (Eq.trans (by exact Eq.symm ((wanted_some rfl rfl e28).trans rfl)) hz))) ?_
            exact hK _ _ rfl (grown_refl W _)
          · intro a vs W hX hR he hf K hK
            have e28 : a.eval (.tmp 28) = .bool true := (he 11 28 (by kernel_rfl) rfl).trans (hR 11 (by kernel_rfl))
            refine Eq.mpr (if_neg (fun hz => Bool.false_ne_true (Eq.trans (by exact Eq.symm ((wanted_some rfl rfl e28).trans rfl)) hz))) ?_
            exact hK _ _ rfl (grown_refl W _)
          · intro a vs W hX hR he hf K hK
            have e28 : a.eval (.tmp 28) = .bool true := (he 11 28 (by kernel_rfl) rfl).trans (hR 11 (by kernel_rfl))
            refine Eq.mpr (if_neg (fun hz => Bool.false_ne_true (Eq.trans (by exact Eq.symm ((wanted_some rfl rfl e28).trans rfl)) hz))) ?_
            exact hK _ _ rfl (grown_refl W _)
          · intro a vs W hX hR he hf K hK
            have e28 : a.eval (.tmp 28) = .bool true := (he 11 28 (by kernel_rfl) rfl).trans (hR 11 (by kernel_rfl))
            refine Eq.mpr (if_neg (fun hz => Bool.false_ne_true (Eq.trans (by exact Eq.symm ((wanted_some rfl rfl e28).trans rfl)) hz))) ?_
            exact hK _ _ rfl (grown_refl W _)
          · intro a vs W hX hR he hf K hK
            rw [if_pos (wanted_none rfl)]
            have e28 : a.eval (.tmp 28) = .bool true := (he 11 28 (by kernel_rfl) rfl).trans (hR 11 (by kernel_rfl))
            have e39 : a.eval (.tmp 39) = undef := (he 22 39 (by kernel_rfl) rfl).trans (hR 22 (by kernel_rfl))
            refine wp_value (v := .bool true) ?_ (hK _ _ rfl (grown_refl W _))
            simp only [execOp, e28, e39]
            try go_simp
            try (first | rfl | omega | (simp only [IntKind.wrap_i64, IntKind.wrap_u8, IntKind.wrap_u64, IntKind.wrap_u16, IntKind.wrap_u32]; omega) | (rw [Int.tmod_eq_emod_of_nonneg (by omega)]) | (rw [Int.tmod_eq_emod_of_nonneg (by omega)]; omega))
          · intro a vs W hX hR he hf K hK
            rw [if_pos (wanted_none rfl)]
            have e40 : a.eval (.tmp 40) = .bool true := (he 23 40 (by kernel_rfl) rfl).trans (hR 23 (by kernel_rfl))
            refine wp_value (v := .bool true) ?_ (hK _ _ rfl (grown_refl W _))
            simp only [execOp, e40]
            try go_simp
            try (first | rfl | omega | (simp only [IntKind.wrap_i64, IntKind.wrap_u8, IntKind.wrap_u64, IntKind.wrap_u16, IntKind.wrap_u32]; omega) | (rw [Int.tmod_eq_emod_of_nonneg (by omega)]) | (rw [Int.tmod_eq_emod_of_nonneg (by omega)]; omega))
          · intro a vs W hX hR he hf K hK
            have e41 : a.eval (.tmp 41) = .bool true := (he 24 41 (by kernel_rfl) rfl).trans (hR 24 (by kernel_rfl))
            refine Eq.mpr (if_neg (fun hz => Bool.false_ne_true (Eq.trans (by exact Eq.symm ((wanted_some rfl rfl e41).trans rfl)) hz))) ?_
            exact hK _ _ rfl (grown_refl W _)
          · intro a vs W hX hR he hf K hK
            have e41 : a.eval (.tmp 41) = .bool true := (he 24 41 (by kernel_rfl) rfl).trans (hR 24 (by kernel_rfl))
            refine Eq.mpr (if_neg (fun hz => Bool.false_ne_true (Eq.trans (by exact Eq.symm ((wanted_some rfl rfl e41).trans rfl)) hz))) ?_
            exact hK _ _ rfl (grown_refl W _)
          · intro a vs W hX hR he hf K hK
            have e41 : a.eval (.tmp 41) = .bool true := (he 24 41 (by kernel_rfl) rfl).trans (hR 24 (by kernel_rfl))
            refine Eq.mpr (if_neg (fun hz => Bool.false_ne_true (Eq.trans (by exact Eq.symm ((wanted_some rfl rfl e41).trans rfl)) hz))) ?_
            exact hK _ _ rfl (grown_refl W _)
          · intro a vs W hX hR he hf K hK
            have e41 : a.eval (.tmp 41) = .bool true := (he 24 41 (by kernel_rfl) rfl).trans (hR 24 (by kernel_rfl))
            refine Eq.mpr (if_neg (fun hz => Bool.false_ne_true (Eq.trans (by exact Eq.symm ((wanted_some rfl rfl e41).trans rfl)) hz))) ?_
            exact hK _ _ rfl (grown_refl W _)
          · intro a vs W hX hR he hf K hK
            have e41 : a.eval (.tmp 41) = .bool true := (he 24 41 (by kernel_rfl) rfl).trans (hR 24 (by kernel_rfl))
            refine Eq.mpr (if_neg (fun hz => Bool.false_ne_true (Eq.trans (by exact Eq.symm ((wanted_some rfl rfl e41).trans rfl)) hz))) ?_
            exact hK _ _ rfl (grown_refl W _)
          · intro a vs W hX hR he hf K hK
            have e41 : a.eval (.tmp 41) = .bool true := (he 24 41 (by kernel_rfl) rfl).trans (hR 24 (by kernel_rfl))
            refine Eq.mpr (if_neg (fun hz => Bool.false_ne_true (Eq.trans (by exact Eq.symm ((wanted_some rfl rfl e41).trans rfl)) hz))) ?_
            exact hK _ _ rfl (grown_refl W _)
          · intro a vs W hX hR he hf K hK
            have e41 : a.eval (.tmp 41) = .bool true := (he 24 41 (by kernel_rfl) rfl).trans (hR 24 (by kernel_rfl))
            refine Eq.mpr (if_neg (fun hz => Bool.false_ne_true (Eq.trans (by exact Eq.symm ((wanted_some rfl rfl e41).trans rfl)) hz))) ?_
            exact hK _ _ rfl (grown_refl W _)
          · intro a vs W hX hR he hf K hK
            have e41 : a.eval (.tmp 41) = .bool true := (he 24 41 (by kernel_rfl) rfl).trans (hR 24 (by kernel_rfl))
            refine Eq.mpr (if_neg (fun hz => Bool.false_ne_true (Eq.trans (by exact Eq.symm ((wanted_some rfl rfl e41).trans rfl)) hz))) ?_
            exact hK _ _ rfl (grown_refl W _)
          · intro a vs W hX hR he hf K hK
            have e41 : a.eval (.tmp 41) = .bool true := (he 24 41 (by kernel_rfl) rfl).trans (hR 24 (by kernel_rfl))
            refine Eq.mpr (if_neg (fun hz => Bool.false_ne_true (Eq.trans (by exact Eq.symm ((wanted_some rfl rfl e41).trans rfl)) hz))) ?_
            exact hK _ _ rfl (grown_refl W _)
          · intro a vs W hX hR he hf K hK
            have e41 : a.eval (.tmp 41) = .bool true := (he 24 41 (by kernel_rfl) rfl).trans (hR 24 (by kernel_rfl))
            refine Eq.mpr (if_neg (fun hz => Bool.false_ne_true (Eq.trans (by exact Eq.symm ((wanted_some rfl rfl e41).trans rfl)) hz))) ?_
            exact hK _ _ rfl (grown_refl W _)
          · intro a vs W hX hR he hf K hK
            have e41 : a.eval (.tmp 41) = .bool true := (he 24 41 (by kernel_rfl) rfl).trans (hR 24 (by kernel_rfl))
            refine Eq.mpr (if_neg (fun hz => Bool.false_ne_true (Eq.trans (by exact Eq.symm ((wanted_some rfl rfl e41).trans rfl)) hz))) ?_
            exact hK _ _ rfl (grown_refl W _)
          · intro a vs W hX hR he hf K hK
            rw [if_pos (wanted_none rfl)]
            have e41 : a.eval (.tmp 41) = .bool true := (he 24 41 (by kernel_rfl) rfl).trans (hR 24 (by kernel_rfl))
            have e52 : a.eval (.tmp 52) = undef := (he 35 52 (by kernel_rfl) rfl).trans (hR 35 (by kernel_rfl))
            refine wp_value (v := .bool true) ?_ (hK _ _ rfl (grown_refl W _))
            simp only [execOp, e41, e52]
            try go_simp
            try (first | rfl | omega | (simp only [IntKind.wrap_i64, IntKind.wrap_u8, IntKind.wrap_u64, IntKind.wrap_u16, IntKind.wrap_u32]; omega) | (rw [Int.tmod_eq_emod_of_nonneg (by omega)]) | (rw [Int.tmod_eq_emod_of_nonneg (by omega)]; omega))
          · intro vs W hX hR
            have q0 := hR 0 (by decide)
            have q1 := hR 1 (by decide)
            have q2 := hR 2 (by decide)
            have q3 := hR 3 (by decide)
            have q4 := hR 4 (by decide)
            have q5 := hR 5 (by decide)
            have q6 := hR 6 (by decide)
            have q7 := hR 7 (by decide)
            have q8 := hR 8 (by decide)
            have q9 := hR 9 (by decide)
            have q10 := hR 10 (by decide)
            have q11 := hR 11 (by decide)
            have q12 := hR 12 (by decide)
            have q13 := hR 13 (by decide)
            have q14 := hR 14 (by decide)
            have q15 := hR 15 (by decide)
            have q16 := hR 16 (by decide)
            have q17 := hR 17 (by decide)
            have q18 := hR 18 (by decide)
            have q19 := hR 19 (by decide)
            have q20 := hR 20 (by decide)
            have q21 := hR 21 (by decide)
            have q22 := hR 22 (by decide)
            have q23 := hR 23 (by decide)
            have q24 := hR 24 (by decide)
            have q25 := hR 25 (by decide)
            have q26 := hR 26 (by decide)
            have q27 := hR 27 (by decide)
            have q28 := hR 28 (by decide)
            have q29 := hR 29 (by decide)
            have q30 := hR 30 (by decide)
            have q31 := hR 31 (by decide)
            have q32 := hR 32 (by decide)
            have q33 := hR 33 (by decide)
            have q34 := hR 34 (by decide)
            have q35 := hR 35 (by decide)
            have q36 := hR 36 (by decide)
            change vs 0 = .slice (some ⟨b, o, none⟩) n c at q0
            change vs 1 = .int .i64 (k : Int) at q1
            change vs 2 = .pointer (some ⟨b, o + k * 4, none⟩) at q2
            change vs 3 = .pointer (some ⟨b, o + k * 4, none⟩) at q3
            change vs 4 = .int .i64 x.label at q4
            change vs 5 = .slice (some ⟨b2, o2, none⟩) n c2 at q5
            change vs 6 = .int .i64 (k : Int) at q6
            change vs 7 = .pointer (some ⟨b2, o2 + k * 4, none⟩) at q7
            change vs 8 = .pointer (some ⟨b2, o2 + k * 4, none⟩) at q8
            change vs 9 = .int .i64 y.label at q9
            change vs 10 = .bool true at q10
            change vs 11 = .bool true at q11
            change vs 12 = undef at q12
            change vs 13 = undef at q13
            change vs 14 = undef at q14
            change vs 15 = undef at q15
            change vs 16 = undef at q16
            change vs 17 = undef at q17
            change vs 18 = undef at q18
            change vs 19 = undef at q19
            change vs 20 = undef at q20
            change vs 21 = undef at q21
            change vs 22 = undef at q22
            change vs 23 = .bool true at q23
            change vs 24 = .bool true at q24
            change vs 25 = undef at q25
            change vs 26 = undef at q26
            change vs 27 = undef at q27
            change vs 28 = undef at q28
            change vs 29 = undef at q29
            change vs 30 = undef at q30
            change vs 31 = undef at q31
            change vs 32 = undef at q32
            change vs 33 = undef at q33
            change vs 34 = undef at q34
            change vs 35 = undef at q35
            change vs 36 = .bool true at q36
            simp only [putAll, Act.put, List.setIfInBounds_toArray, List.set_cons_zero, List.set_cons_succ, q0, q1, q2, q3, q4, q5, q6, q7, q8, q9, q10, q11, q12, q13, q14, q15, q16, q17, q18, q19, q20, q21, q22, q23, q24, q25, q26, q27, q28, q29, q30, q31, q32, q33, q34, q35, q36]
            clear q0 q1 q2 q3 q4 q5 q6 q7 q8 q9 q10 q11 q12 q13 q14 q15 q16 q17 q18 q19 q20 q21 q22 q23 q24 q25 q26 q27 q28 q29 q30 q31 q32 q33 q34 q35 q36
            clear hR
            have hbW := HB.out.trans ((bthen (below_drewN (Below.refl _ _) 1) (grow_below hX)).mono HB.out.size)
            go_wp2
            go_ret
            rw [HS.out]
            exact ⟨rfl, hbW⟩
      · have : k = n := by omega
        subst this
        have HS := Lib.hid hs
        clear hs
        go_wp2
        go_ret
        have e1 : l.drop k = [] := List.drop_of_length_le (by have := HL1.out; omega)
        have e2 : l2.drop k = [] := List.drop_of_length_le (by have := HL2.out; omega)
        rw [HS.out, e1, e2]
        exact ⟨rfl, hbr⟩
  · have hni : ¬ (n : Int) = (n2 : Int) := by omega
    go_enter Try.func19, Try.ntmps19
    go_wp2
    go_ret
    rw [sameF_ne l l2 (by omega)]
    exact ⟨rfl, Below.refl _ _⟩
end Go.Proofs.Ytfcnohhcgbebdaa

/- The walk of the law SumTurns: it answers true, and nothing that was there is turned. No condition but those of the row. -/
import Derived.Test.YtjacgpankndigaaLaw02
import Derived.Test.YtjacgpankndigaaRel
namespace Go.Proofs.Ytjacgpankndigaa
open Go.RowKit
set_option linter.unusedVariables false
set_option linter.unusedSimpArgs false

theorem below_drew (w : World) : Below w.heap.size w w.drew := below_drewN (Below.refl _ _) 1

set_option maxHeartbeats 4000000 in
theorem walk_SumTurns (w : World) (x0 : Int) (hx0 : 0 ≤ x0 ∧ x0 ≤ 65535) (x1 : Int) (hx1 : 0 ≤ x1 ∧ x1 ≤ 65535) (x2 : Int) (hx2 : 0 ≤ x2 ∧ x2 ≤ 65535) (x3 : Int) (hx3 : 0 ≤ x3 ∧ x3 ≤ 255) (x4 : Int) (hx4 : -9223372036854775808 ≤ x4 ∧ x4 ≤ 9223372036854775807) (a : Bs) (ha : a.ok w) (b : Bs) (hb : b.ok w) :
    Calls Try.prog 4 #[.agg #[.int .u16 x0, .int .u16 x1, .int .u16 x2, .int .u8 x3, .int .i64 x4], a.v, b.v] w fun e w' => e = .returned (.bool true) ∧ Below w.heap.size w w' := by
  obtain ⟨A, n, ca, l⟩ := a
  obtain ⟨B, m, cb, l2⟩ := b
  have hla := ha.len
  have hlb := hb.len
  simp only at hla hlb
  unfold Bs.v
  simp only
  by_cases hs : n ≤ 40 ∧ m ≤ 40
  · obtain ⟨h1, h2⟩ := hs
    have i1 : l.length ≤ 40 := by omega
    have i2 : l2.length ≤ 40 := by omega
    obtain ⟨T, hT⟩ : ∃ T : Nat, 65535 - foldN (65535 - x0 + (65535 - x1) + x2).toNat = T := ⟨_, rfl⟩
    have hT1 : T ≤ 65535 := by omega
    have HT := Lib.hid hT
    clear hT
    clear hla hlb
    go_enter Try.func4, Try.ntmps4
    go_wp2_with fail
    refine (awake_any _).mono ?_
    rintro e w1 ⟨rfl, hw1⟩
    have hw2 := ballocd hw1
    have a1 := ha.below hw2
    have b1 := hb.below hw2
    have hcell : ∀ j, w1.cell? ⟨w.heap.size, j, none⟩ = (#[.int .u16 x0, .int .u16 x1, .int .u16 x2, .int .u8 x3, .int .i64 x4] : Array Value)[j]? := fun j => by
      rw [hw1.cell (p := ⟨w.heap.size, j, none⟩) (by simp)]
      exact cell_of_row _ _ j _ _ (0, 0) (heap_alloc_new w _)
    have c0 : w1.cell? ⟨w.heap.size, 0, none⟩ = some (.int .u16 x0) := hcell 0
    have c1 : w1.cell? ⟨w.heap.size, 1, none⟩ = some (.int .u16 x1) := hcell 1
    have c2 : w1.cell? ⟨w.heap.size, 2, none⟩ = some (.int .u16 x2) := hcell 2
    have c3 : w1.cell? ⟨w.heap.size, 3, none⟩ = some (.int .u8 x3) := hcell 3
    have c4 : w1.cell? ⟨w.heap.size, 4, none⟩ = some (.int .i64 x4) := hcell 4
    have hsz : w.heap.size < w1.heap.size := by have := hw1.size; simp at this; omega
    have KC := Lib.hid (fun W (hW : Below w1.heap.size w1 W) => (⟨(hW.cell (p := ⟨w.heap.size, 0, none⟩) hsz).trans c0, (hW.cell (p := ⟨w.heap.size, 1, none⟩) hsz).trans c1, (hW.cell (p := ⟨w.heap.size, 2, none⟩) hsz).trans c2, (hW.cell (p := ⟨w.heap.size, 3, none⟩) hsz).trans c3, (hW.cell (p := ⟨w.heap.size, 4, none⟩) hsz).trans c4⟩ :
      W.cell? ⟨w.heap.size, 0, none⟩ = some (.int .u16 x0) ∧ W.cell? ⟨w.heap.size, 1, none⟩ = some (.int .u16 x1) ∧ W.cell? ⟨w.heap.size, 2, none⟩ = some (.int .u16 x2) ∧ W.cell? ⟨w.heap.size, 3, none⟩ = some (.int .u8 x3) ∧ W.cell? ⟨w.heap.size, 4, none⟩ = some (.int .i64 x4)))
    have A1 := Lib.hid a1
    have B1 := Lib.hid b1
    clear hcell ha hb a1 b1 c0 c1 c2 c3 c4
    go_wp2_with fail
    refine wp_region_rel (fun A B => A.grownBy B none) (fun A => grown_refl A _) (fun A B C h k => grown_trans h k) (relAt (List.cons (fun v _ => v = .pointer (some ⟨w.heap.size, 0, none⟩)) (List.cons (fun v _ => v = .int .u16 x0) (List.cons (fun v _ => v = .pointer (some ⟨w.heap.size, 1, none⟩)) (List.cons (fun v _ => v = .int .u16 x1) (List.cons (fun v _ => v = .pointer (some ⟨w.heap.size, 2, none⟩)) (List.cons (fun v _ => v = .int .u16 x2) (List.cons (fun v _ => v = .int .u16 (T : Int)) (List.cons (fun v _ => v = .int .i64 (T : Int)) (List.cons (fun v _ => v = .pointer (some ⟨w.heap.size, 0, none⟩)) (List.cons (fun v _ => v = .int .u16 x0) (List.cons (fun v _ => v = .int .i64 x0) (List.cons (fun v _ => v = .pointer (some ⟨w.heap.size, 1, none⟩)) (List.cons (fun v _ => v = .int .u16 x1) (List.cons (fun v _ => v = .int .i64 x1) (List.cons (fun v _ => v = .pointer (some ⟨w.heap.size, 2, none⟩)) (List.cons (fun v _ => v = .int .u16 x2) (List.cons (fun v _ => v = .int .i64 x2) (List.cons (fun v _ => v = .int .i64 (T : Int)) (List.cons (fun v _ => v = .bool true) (List.cons (fun v _ => v = .bool true) (List.cons (fun v _ => v = .slice A n ca) (List.cons (fun v _ => v = .slice B m cb) (List.cons (fun v _ => v = .pointer (some ⟨w.heap.size, 3, none⟩)) (List.cons (fun v _ => v = .int .u8 x3) (List.cons (fun v _ => v = .pointer (some ⟨w.heap.size, 4, none⟩)) (List.cons (fun v _ => v = .int .i64 x4) (List.cons (BsR (pseudoF l l2 x3.toNat x4)) (List.cons (fun v _ => v = str (pseudoF l l2 x3.toNat x4)) (List.cons (fun v _ => v = .slice A n ca) (List.cons (fun v _ => v = str l) (List.cons (fun v _ => v = .slice B m cb) (List.cons (fun v _ => v = str l2) (List.cons (fun v _ => v = .pointer (some ⟨w.heap.size, 3, none⟩)) (List.cons (fun v _ => v = .int .u8 x3) (List.cons (fun v _ => v = .int .i64 x3) (List.cons (fun v _ => v = .pointer (some ⟨w.heap.size, 4, none⟩)) (List.cons (fun v _ => v = .int .i64 x4) (List.cons (fun v _ => v = str (pseudoF l l2 x3.toNat x4)) (List.cons (fun v _ => v = .bool true) (List.cons (fun v _ => v = .bool true) (List.cons (fun v _ => v = .bool true) ([]))))))))))))))))))))))))))))))))))))))))))) (MonoL.at_ (.cons (mono_val _) (.cons (mono_val _) (.cons (mono_val _) (.cons (mono_val _) (.cons (mono_val _) (.cons (mono_val _) (.cons (mono_val _) (.cons (mono_val _) (.cons (mono_val _) (.cons (mono_val _) (.cons (mono_val _) (.cons (mono_val _) (.cons (mono_val _) (.cons (mono_val _) (.cons (mono_val _) (.cons (mono_val _) (.cons (mono_val _) (.cons (mono_val _) (.cons (mono_val _) (.cons (mono_val _) (.cons (mono_val _) (.cons (mono_val _) (.cons (mono_val _) (.cons (mono_val _) (.cons (mono_val _) (.cons (mono_val _) (.cons (mono_bs _) (.cons (mono_val _) (.cons (mono_val _) (.cons (mono_val _) (.cons (mono_val _) (.cons (mono_val _) (.cons (mono_val _) (.cons (mono_val _) (.cons (mono_val _) (.cons (mono_val _) (.cons (mono_val _) (.cons (mono_val _) (.cons (mono_val _) (.cons (mono_val _) (.cons (mono_val _) .nil)))))))))))))))))))))))))))))))))))))))))) (by kernel_rfl) (by kernel_rfl) ⟨?_, ?_, ?_, ?_, ?_, ?_, ?_, ?_, ?_, ?_, ?_, ?_, ?_, ?_, ?_, ?_, ?_, ?_, ?_, ?_, ?_, ?_, ?_, ?_, ?_, ?_, ?_, ?_, ?_, ?_, ?_, ?_, ?_, ?_, ?_, ?_, ?_, ?_, ?_, ?_, ?_, trivial⟩ ?_
    · intro a vs W hX hR he hf K hK
      rw [if_pos (wanted_none rfl)]
      have e3 : a.eval (.tmp 3) = .pointer (some ⟨w.heap.size, 0, none⟩) := hf 3 (by kernel_rfl)
      refine wp_value (v := .pointer (some ⟨w.heap.size, 0, none⟩)) ?_ (hK _ _ rfl (grown_refl W _))
      simp only [execOp, e3]
      try go_simp
      try (first | rfl | omega | (simp only [IntKind.wrap_i64, IntKind.wrap_u8, IntKind.wrap_u64, IntKind.wrap_u16, IntKind.wrap_u32]; omega) | (rw [Int.tmod_eq_emod_of_nonneg (by omega)]) | (rw [Int.tmod_eq_emod_of_nonneg (by omega)]; omega))
    · intro a vs W hX hR he hf K hK
      rw [if_pos (wanted_none rfl)]
      have e19 : a.eval (.tmp 19) = .pointer (some ⟨w.heap.size, 0, none⟩) := (he 0 19 (by kernel_rfl) rfl).trans (hR 0 (by kernel_rfl))
      have hbW := bthen (below_drew _) (grow_below hX)
      have hc : W.cell? ⟨w.heap.size, 0, none⟩ = _ := (KC.out W hbW).1
      refine wp_value (v := _) ?_ (hK _ _ rfl (grown_refl W _))
      simp only [execOp, e19]
      go_simp
    · intro a vs W hX hR he hf K hK
      rw [if_pos (wanted_none rfl)]
      have e3 : a.eval (.tmp 3) = .pointer (some ⟨w.heap.size, 0, none⟩) := hf 3 (by kernel_rfl)
      refine wp_value (v := .pointer (some ⟨w.heap.size, 1, none⟩)) ?_ (hK _ _ rfl (grown_refl W _))
      simp only [execOp, e3]
      try go_simp
      try (first | rfl | omega | (simp only [IntKind.wrap_i64, IntKind.wrap_u8, IntKind.wrap_u64, IntKind.wrap_u16, IntKind.wrap_u32]; omega) | (rw [Int.tmod_eq_emod_of_nonneg (by omega)]) | (rw [Int.tmod_eq_emod_of_nonneg (by omega)]; omega))
    · intro a vs W hX hR he hf K hK
      rw [if_pos (wanted_none rfl)]
      have e21 : a.eval (.tmp 21) = .pointer (some ⟨w.heap.size, 1, none⟩) := (he 2 21 (by kernel_rfl) rfl).trans (hR 2 (by kernel_rfl))
      have hbW := bthen (below_drew _) (grow_below hX)
      have hc : W.cell? ⟨w.heap.size, 1, none⟩ = _ := (KC.out W hbW).2.1
      refine wp_value (v := _) ?_ (hK _ _ rfl (grown_refl W _))
      simp only [execOp, e21]
      go_simp
    · intro a vs W hX hR he hf K hK
      rw [if_pos (wanted_none rfl)]
      have e3 : a.eval (.tmp 3) = .pointer (some ⟨w.heap.size, 0, none⟩) := hf 3 (by kernel_rfl)
      refine wp_value (v := .pointer (some ⟨w.heap.size, 2, none⟩)) ?_ (hK _ _ rfl (grown_refl W _))
      simp only [execOp, e3]
      try go_simp
      try (first | rfl | omega | (simp only [IntKind.wrap_i64, IntKind.wrap_u8, IntKind.wrap_u64, IntKind.wrap_u16, IntKind.wrap_u32]; omega) | (rw [Int.tmod_eq_emod_of_nonneg (by omega)]) | (rw [Int.tmod_eq_emod_of_nonneg (by omega)]; omega))
    · intro a vs W hX hR he hf K hK
      rw [if_pos (wanted_none rfl)]
      have e23 : a.eval (.tmp 23) = .pointer (some ⟨w.heap.size, 2, none⟩) := (he 4 23 (by kernel_rfl) rfl).trans (hR 4 (by kernel_rfl))
      have hbW := bthen (below_drew _) (grow_below hX)
      have hc : W.cell? ⟨w.heap.size, 2, none⟩ = _ := (KC.out W hbW).2.2.1
      refine wp_value (v := _) ?_ (hK _ _ rfl (grown_refl W _))
      simp only [execOp, e23]
      go_simp
    · intro a vs W hX hR he hf K hK
      rw [if_pos (wanted_none rfl)]
      have e20 : a.eval (.tmp 20) = .int .u16 x0 := (he 1 20 (by kernel_rfl) rfl).trans (hR 1 (by kernel_rfl))
      have e22 : a.eval (.tmp 22) = .int .u16 x1 := (he 3 22 (by kernel_rfl) rfl).trans (hR 3 (by kernel_rfl))
      have e24 : a.eval (.tmp 24) = .int .u16 x2 := (he 5 24 (by kernel_rfl) rfl).trans (hR 5 (by kernel_rfl))
      have g20 := e20
      simp only [Act.eval, Array.getD_eq_getD_getElem?] at g20
      have g22 := e22
      simp only [Act.eval, Array.getD_eq_getD_getElem?] at g22
      have g24 := e24
      simp only [Act.eval, Array.getD_eq_getD_getElem?] at g24
      refine wp_enter (f := 14) (args := #[.int .u16 x0, .int .u16 x1, .int .u16 x2]) (by simp only [execOp]; go_simp; try simp [g20, g22, g24]) ((turn_any x0 x1 x2 W hx0.1 hx0.2 hx1.1 hx1.2 hx2.1 hx2.2).mono ?_)
      rintro e w' ⟨rfl, rfl⟩
      exact ⟨_, rfl, hK _ _ (show Value.int .u16 _ = .int .u16 (T : Int) by rw [HT.out]) (grown_refl W _)⟩
    · intro a vs W hX hR he hf K hK
      rw [if_pos (wanted_none rfl)]
      have e25 : a.eval (.tmp 25) = .int .u16 (T : Int) := (he 6 25 (by kernel_rfl) rfl).trans (hR 6 (by kernel_rfl))
      refine wp_value (v := .int .i64 (T : Int)) ?_ (hK _ _ rfl (grown_refl W _))
      simp only [execOp, e25]
      try go_simp
      try (first | rfl | omega | (simp only [IntKind.wrap_i64, IntKind.wrap_u8, IntKind.wrap_u64, IntKind.wrap_u16, IntKind.wrap_u32]; omega) | (rw [Int.tmod_eq_emod_of_nonneg (by omega)]) | (rw [Int.tmod_eq_emod_of_nonneg (by omega)]; omega))
    · intro a vs W hX hR he hf K hK
      rw [if_pos (wanted_none rfl)]
      have e3 : a.eval (.tmp 3) = .pointer (some ⟨w.heap.size, 0, none⟩) := hf 3 (by kernel_rfl)
      refine wp_value (v := .pointer (some ⟨w.heap.size, 0, none⟩)) ?_ (hK _ _ rfl (grown_refl W _))
      simp only [execOp, e3]
      try go_simp
      try (first | rfl | omega | (simp only [IntKind.wrap_i64, IntKind.wrap_u8, IntKind.wrap_u64, IntKind.wrap_u16, IntKind.wrap_u32]; omega) | (rw [Int.tmod_eq_emod_of_nonneg (by omega)]) | (rw [Int.tmod_eq_emod_of_nonneg (by omega)]; omega))
    · intro a vs W hX hR he hf K hK
      rw [if_pos (wanted_none rfl)]
      have e27 : a.eval (.tmp 27) = .pointer (some ⟨w.heap.size, 0, none⟩) := (he 8 27 (by kernel_rfl) rfl).trans (hR 8 (by kernel_rfl))
      have hbW := bthen (below_drew _) (grow_below hX)
      have hc : W.cell? ⟨w.heap.size, 0, none⟩ = _ := (KC.out W hbW).1
      refine wp_value (v := _) ?_ (hK _ _ rfl (grown_refl W _))
      simp only [execOp, e27]
      go_simp
    · intro a vs W hX hR he hf K hK
      rw [if_pos (wanted_none rfl)]
      have e28 : a.eval (.tmp 28) = .int .u16 x0 := (he 9 28 (by kernel_rfl) rfl).trans (hR 9 (by kernel_rfl))
      refine wp_value (v := .int .i64 x0) ?_ (hK _ _ rfl (grown_refl W _))
      simp only [execOp, e28]
      try go_simp
      try (first | rfl | omega | (simp only [IntKind.wrap_i64, IntKind.wrap_u8, IntKind.wrap_u64, IntKind.wrap_u16, IntKind.wrap_u32]; omega) | (rw [Int.tmod_eq_emod_of_nonneg (by omega)]) | (rw [Int.tmod_eq_emod_of_nonneg (by omega)]; omega))
    · intro a vs W hX hR he hf K hK
      rw [if_pos (wanted_none rfl)]
      have e3 : a.eval (.tmp 3) = .pointer (some ⟨w.heap.size, 0, none⟩) := hf 3 (by kernel_rfl)
      refine wp_value (v := .pointer (some ⟨w.heap.size, 1, none⟩)) ?_ (hK _ _ rfl (grown_refl W _))
      simp only [execOp, e3]
      try go_simp
      try (first | rfl | omega | (simp only [IntKind.wrap_i64, IntKind.wrap_u8, IntKind.wrap_u64, IntKind.wrap_u16, IntKind.wrap_u32]; omega) | (rw [Int.tmod_eq_emod_of_nonneg (by omega)]) | (rw [Int.tmod_eq_emod_of_nonneg (by omega)]; omega))
    · intro a vs W hX hR he hf K hK
      rw [if_pos (wanted_none rfl)]
      have e30 : a.eval (.tmp 30) = .pointer (some ⟨w.heap.size, 1, none⟩) := (he 11 30 (by kernel_rfl) rfl).trans (hR 11 (by kernel_rfl))
      have hbW := bthen (below_drew _) (grow_below hX)
      have hc : W.cell? ⟨w.heap.size, 1, none⟩ = _ := (KC.out W hbW).2.1
      refine wp_value (v := _) ?_ (hK _ _ rfl (grown_refl W _))
      simp only [execOp, e30]
      go_simp
    · intro a vs W hX hR he hf K hK
      rw [if_pos (wanted_none rfl)]
      have e31 : a.eval (.tmp 31) = .int .u16 x1 := (he 12 31 (by kernel_rfl) rfl).trans (hR 12 (by kernel_rfl))
      refine wp_value (v := .int .i64 x1) ?_ (hK _ _ rfl (grown_refl W _))
      simp only [execOp, e31]
      try go_simp
      try (first | rfl | omega | (simp only [IntKind.wrap_i64, IntKind.wrap_u8, IntKind.wrap_u64, IntKind.wrap_u16, IntKind.wrap_u32]; omega) | (rw [Int.tmod_eq_emod_of_nonneg (by omega)]) | (rw [Int.tmod_eq_emod_of_nonneg (by omega)]; omega))
    · intro a vs W hX hR he hf K hK
      rw [if_pos (wanted_none rfl)]
      have e3 : a.eval (.tmp 3) = .pointer (some ⟨w.heap.size, 0, none⟩) := hf 3 (by kernel_rfl)
      refine wp_value (v := .pointer (some ⟨w.heap.size, 2, none⟩)) ?_ (hK _ _ rfl (grown_refl W _))
      simp only [execOp, e3]
      try go_simp
      try (first | rfl | omega | (simp only [IntKind.wrap_i64, IntKind.wrap_u8, IntKind.wrap_u64, IntKind.wrap_u16, IntKind.wrap_u32]; omega) | (rw [Int.tmod_eq_emod_of_nonneg (by omega)]) | (rw [Int.tmod_eq_emod_of_nonneg (by omega)]; omega))
    · intro a vs W hX hR he hf K hK
      rw [if_pos (wanted_none rfl)]
      have e33 : a.eval (.tmp 33) = .pointer (some ⟨w.heap.size, 2, none⟩) := (he 14 33 (by kernel_rfl) rfl).trans (hR 14 (by kernel_rfl))
      have hbW := bthen (below_drew _) (grow_below hX)
      have hc : W.cell? ⟨w.heap.size, 2, none⟩ = _ := (KC.out W hbW).2.2.1
      refine wp_value (v := _) ?_ (hK _ _ rfl (grown_refl W _))
      simp only [execOp, e33]
      go_simp
    · intro a vs W hX hR he hf K hK
      rw [if_pos (wanted_none rfl)]
      have e34 : a.eval (.tmp 34) = .int .u16 x2 := (he 15 34 (by kernel_rfl) rfl).trans (hR 15 (by kernel_rfl))
      refine wp_value (v := .int .i64 x2) ?_ (hK _ _ rfl (grown_refl W _))
      simp only [execOp, e34]
      try go_simp
      try (first | rfl | omega | (simp only [IntKind.wrap_i64, IntKind.wrap_u8, IntKind.wrap_u64, IntKind.wrap_u16, IntKind.wrap_u32]; omega) | (rw [Int.tmod_eq_emod_of_nonneg (by omega)]) | (rw [Int.tmod_eq_emod_of_nonneg (by omega)]; omega))
    · intro a vs W hX hR he hf K hK
      rw [if_pos (wanted_none rfl)]
      have e29 : a.eval (.tmp 29) = .int .i64 x0 := (he 10 29 (by kernel_rfl) rfl).trans (hR 10 (by kernel_rfl))
      have e32 : a.eval (.tmp 32) = .int .i64 x1 := (he 13 32 (by kernel_rfl) rfl).trans (hR 13 (by kernel_rfl))
      have e35 : a.eval (.tmp 35) = .int .i64 x2 := (he 16 35 (by kernel_rfl) rfl).trans (hR 16 (by kernel_rfl))
      have g29 := e29
      simp only [Act.eval, Array.getD_eq_getD_getElem?] at g29
      have g32 := e32
      simp only [Act.eval, Array.getD_eq_getD_getElem?] at g32
      have g35 := e35
      simp only [Act.eval, Array.getD_eq_getD_getElem?] at g35
      refine wp_enter (f := 15) (args := #[.int .i64 x0, .int .i64 x1, .int .i64 x2]) (by simp only [execOp]; go_simp; try simp [g29, g32, g35]) ((rturn_any x0 x1 x2 W hx0.1 hx0.2 hx1.1 hx1.2 hx2.1 hx2.2).mono ?_)
      rintro e w' ⟨rfl, rfl⟩
      exact ⟨_, rfl, hK _ _ (show Value.int .i64 _ = .int .i64 (T : Int) by rw [HT.out]) (grown_refl W _)⟩
    · intro a vs W hX hR he hf K hK
      rw [if_pos (wanted_none rfl)]
      have e26 : a.eval (.tmp 26) = .int .i64 (T : Int) := (he 7 26 (by kernel_rfl) rfl).trans (hR 7 (by kernel_rfl))
      have e36 : a.eval (.tmp 36) = .int .i64 (T : Int) := (he 17 36 (by kernel_rfl) rfl).trans (hR 17 (by kernel_rfl))
      refine wp_value (v := .bool true) ?_ (hK _ _ rfl (grown_refl W _))
      simp only [execOp, e26, e36]
      try go_simp
      try (first | rfl | omega | (simp only [IntKind.wrap_i64, IntKind.wrap_u8, IntKind.wrap_u64, IntKind.wrap_u16, IntKind.wrap_u32]; omega) | (rw [Int.tmod_eq_emod_of_nonneg (by omega)]) | (rw [Int.tmod_eq_emod_of_nonneg (by omega)]; omega))
    · intro a vs W hX hR he hf K hK
      rw [if_pos (wanted_none rfl)]
      have e37 : a.eval (.tmp 37) = .bool true := (he 18 37 (by kernel_rfl) rfl).trans (hR 18 (by kernel_rfl))
      refine wp_value (v := .bool true) ?_ (hK _ _ rfl (grown_refl W _))
      simp only [execOp, e37]
      try go_simp
      try (first | rfl | omega | (simp only [IntKind.wrap_i64, IntKind.wrap_u8, IntKind.wrap_u64, IntKind.wrap_u16, IntKind.wrap_u32]; omega) | (rw [Int.tmod_eq_emod_of_nonneg (by omega)]) | (rw [Int.tmod_eq_emod_of_nonneg (by omega)]; omega))
    · intro a vs W hX hR he hf K hK
      have e38 : a.eval (.tmp 38) = .bool true := (he 19 38 (by kernel_rfl) rfl).trans (hR 19 (by kernel_rfl))
      refine Eq.mpr (if_pos (by exact (wanted_some rfl rfl e38).trans rfl)) ?_
      have e1 : a.eval (.tmp 1) = .slice A n ca := hf 1 (by kernel_rfl)
      refine wp_value (v := .slice A n ca) ?_ (hK _ _ rfl (grown_refl W _))
      simp only [execOp, e1]
      try go_simp
      try (first | rfl | omega | (simp only [IntKind.wrap_i64, IntKind.wrap_u8, IntKind.wrap_u64, IntKind.wrap_u16, IntKind.wrap_u32]; omega) | (rw [Int.tmod_eq_emod_of_nonneg (by omega)]) | (rw [Int.tmod_eq_emod_of_nonneg (by omega)]; omega))
    · intro a vs W hX hR he hf K hK
      have e38 : a.eval (.tmp 38) = .bool true := (he 19 38 (by kernel_rfl) rfl).trans (hR 19 (by kernel_rfl))
      refine Eq.mpr (if_pos (by exact (wanted_some rfl rfl e38).trans rfl)) ?_
      have e2 : a.eval (.tmp 2) = .slice B m cb := hf 2 (by kernel_rfl)
      refine wp_value (v := .slice B m cb) ?_ (hK _ _ rfl (grown_refl W _))
      simp only [execOp, e2]
      try go_simp
      try (first | rfl | omega | (simp only [IntKind.wrap_i64, IntKind.wrap_u8, IntKind.wrap_u64, IntKind.wrap_u16, IntKind.wrap_u32]; omega) | (rw [Int.tmod_eq_emod_of_nonneg (by omega)]) | (rw [Int.tmod_eq_emod_of_nonneg (by omega)]; omega))
    · intro a vs W hX hR he hf K hK
      have e38 : a.eval (.tmp 38) = .bool true := (he 19 38 (by kernel_rfl) rfl).trans (hR 19 (by kernel_rfl))
      refine Eq.mpr (if_pos (by exact (wanted_some rfl rfl e38).trans rfl)) ?_
      have e3 : a.eval (.tmp 3) = .pointer (some ⟨w.heap.size, 0, none⟩) := hf 3 (by kernel_rfl)
      refine wp_value (v := .pointer (some ⟨w.heap.size, 3, none⟩)) ?_ (hK _ _ rfl (grown_refl W _))
      simp only [execOp, e3]
      try go_simp
      try (first | rfl | omega | (simp only [IntKind.wrap_i64, IntKind.wrap_u8, IntKind.wrap_u64, IntKind.wrap_u16, IntKind.wrap_u32]; omega) | (rw [Int.tmod_eq_emod_of_nonneg (by omega)]) | (rw [Int.tmod_eq_emod_of_nonneg (by omega)]; omega))
    · intro a vs W hX hR he hf K hK
      have e38 : a.eval (.tmp 38) = .bool true := (he 19 38 (by kernel_rfl) rfl).trans (hR 19 (by kernel_rfl))
      refine Eq.mpr (if_pos (by exact (wanted_some rfl rfl e38).trans rfl)) ?_
      have e41 : a.eval (.tmp 41) = .pointer (some ⟨w.heap.size, 3, none⟩) := (he 22 41 (by kernel_rfl) rfl).trans (hR 22 (by kernel_rfl))
      have hbW := bthen (below_drew _) (grow_below hX)
      have hc : W.cell? ⟨w.heap.size, 3, none⟩ = _ := (KC.out W hbW).2.2.2.1
      refine wp_value (v := _) ?_ (hK _ _ rfl (grown_refl W _))
      simp only [execOp, e41]
      go_simp
    · intro a vs W hX hR he hf K hK
      have e38 : a.eval (.tmp 38) = .bool true := (he 19 38 (by kernel_rfl) rfl).trans (hR 19 (by kernel_rfl))
      refine Eq.mpr (if_pos (by exact (wanted_some rfl rfl e38).trans rfl)) ?_
      have e3 : a.eval (.tmp 3) = .pointer (some ⟨w.heap.size, 0, none⟩) := hf 3 (by kernel_rfl)
      refine wp_value (v := .pointer (some ⟨w.heap.size, 4, none⟩)) ?_ (hK _ _ rfl (grown_refl W _))
      simp only [execOp, e3]
      try go_simp
      try (first | rfl | omega | (simp only [IntKind.wrap_i64, IntKind.wrap_u8, IntKind.wrap_u64, IntKind.wrap_u16, IntKind.wrap_u32]; omega) | (rw [Int.tmod_eq_emod_of_nonneg (by omega)]) | (rw [Int.tmod_eq_emod_of_nonneg (by omega)]; omega))
    · intro a vs W hX hR he hf K hK
      have e38 : a.eval (.tmp 38) = .bool true := (he 19 38 (by kernel_rfl) rfl).trans (hR 19 (by kernel_rfl))
      refine Eq.mpr (if_pos (by exact (wanted_some rfl rfl e38).trans rfl)) ?_
      have e43 : a.eval (.tmp 43) = .pointer (some ⟨w.heap.size, 4, none⟩) := (he 24 43 (by kernel_rfl) rfl).trans (hR 24 (by kernel_rfl))
      have hbW := bthen (below_drew _) (grow_below hX)
      have hc : W.cell? ⟨w.heap.size, 4, none⟩ = _ := (KC.out W hbW).2.2.2.2
      refine wp_value (v := _) ?_ (hK _ _ rfl (grown_refl W _))
      simp only [execOp, e43]
      go_simp
    · intro a vs W hX hR he hf K hK
      have e38 : a.eval (.tmp 38) = .bool true := (he 19 38 (by kernel_rfl) rfl).trans (hR 19 (by kernel_rfl))
      refine Eq.mpr (if_pos (by exact (wanted_some rfl rfl e38).trans rfl)) ?_
      have e39 : a.eval (.tmp 39) = .slice A n ca := (he 20 39 (by kernel_rfl) rfl).trans (hR 20 (by kernel_rfl))
      have e40 : a.eval (.tmp 40) = .slice B m cb := (he 21 40 (by kernel_rfl) rfl).trans (hR 21 (by kernel_rfl))
      have e42 : a.eval (.tmp 42) = .int .u8 x3 := (he 23 42 (by kernel_rfl) rfl).trans (hR 23 (by kernel_rfl))
      have e44 : a.eval (.tmp 44) = .int .i64 x4 := (he 25 44 (by kernel_rfl) rfl).trans (hR 25 (by kernel_rfl))
      have hbW := bthen (below_drew _) (grow_below hX)
      have g39 := e39
      simp only [Act.eval, Array.getD_eq_getD_getElem?] at g39
      have g40 := e40
      simp only [Act.eval, Array.getD_eq_getD_getElem?] at g40
      have g42 := e42
      simp only [Act.eval, Array.getD_eq_getD_getElem?] at g42
      have g44 := e44
      simp only [Act.eval, Array.getD_eq_getD_getElem?] at g44
      refine wp_enter (f := 16) (args := #[.slice A n ca, .slice B m cb, .int .u8 x3, .int .i64 x4]) (by simp only [execOp]; go_simp; try simp [g39, g40, g42, g44]) ((pseudo_sl A B n ca m cb l l2 x3 x4 W (A1.out.below hbW) (B1.out.below hbW) (by omega) (by omega) hx3.1 hx3.2 hx4.1 hx4.2).mono ?_)
      rintro e w' ⟨rA, rn, rc, rl, rfl, hr, hrl, hb⟩
      subst hrl
      exact ⟨_, rfl, hK _ _ ⟨_, _, _, rfl, hr⟩ (below_grow hb _)⟩
    · intro a vs W hX hR he hf K hK
      have e38 : a.eval (.tmp 38) = .bool true := (he 19 38 (by kernel_rfl) rfl).trans (hR 19 (by kernel_rfl))
      refine Eq.mpr (if_pos (by exact (wanted_some rfl rfl e38).trans rfl)) ?_
      have e45 := he 26 45 (by kernel_rfl) rfl
      have p45 := hR 26 (by kernel_rfl)
      obtain ⟨A', n', c', hv, ho⟩ := p45
      rw [hv] at e45
      exact wp_value (exec_str 22 9 5 _ rfl Try.underlying22 Try.underlying5 Try.underlying9 A' n' c' _ e45 ho) (hK _ _ rfl (grown_refl W _))
    · intro a vs W hX hR he hf K hK
      have e38 : a.eval (.tmp 38) = .bool true := (he 19 38 (by kernel_rfl) rfl).trans (hR 19 (by kernel_rfl))
      refine Eq.mpr (if_pos (by exact (wanted_some rfl rfl e38).trans rfl)) ?_
      have e1 : a.eval (.tmp 1) = .slice A n ca := hf 1 (by kernel_rfl)
      refine wp_value (v := .slice A n ca) ?_ (hK _ _ rfl (grown_refl W _))
      simp only [execOp, e1]
      try go_simp
      try (first | rfl | omega | (simp only [IntKind.wrap_i64, IntKind.wrap_u8, IntKind.wrap_u64, IntKind.wrap_u16, IntKind.wrap_u32]; omega) | (rw [Int.tmod_eq_emod_of_nonneg (by omega)]) | (rw [Int.tmod_eq_emod_of_nonneg (by omega)]; omega))
    · intro a vs W hX hR he hf K hK
      have e38 : a.eval (.tmp 38) = .bool true := (he 19 38 (by kernel_rfl) rfl).trans (hR 19 (by kernel_rfl))
      refine Eq.mpr (if_pos (by exact (wanted_some rfl rfl e38).trans rfl)) ?_
      have e47 : a.eval (.tmp 47) = .slice A n ca := (he 28 47 (by kernel_rfl) rfl).trans (hR 28 (by kernel_rfl))
      have hbW := bthen (below_drew _) (grow_below hX)
      exact wp_value (exec_str 22 9 5 _ rfl Try.underlying22 Try.underlying5 Try.underlying9 A n ca l e47 (A1.out.below hbW)) (hK _ _ rfl (grown_refl W _))
    · intro a vs W hX hR he hf K hK
      have e38 : a.eval (.tmp 38) = .bool true := (he 19 38 (by kernel_rfl) rfl).trans (hR 19 (by kernel_rfl))
      refine Eq.mpr (if_pos (by exact (wanted_some rfl rfl e38).trans rfl)) ?_
      have e2 : a.eval (.tmp 2) = .slice B m cb := hf 2 (by kernel_rfl)
      refine wp_value (v := .slice B m cb) ?_ (hK _ _ rfl (grown_refl W _))
      simp only [execOp, e2]
      try go_simp
      try (first | rfl | omega | (simp only [IntKind.wrap_i64, IntKind.wrap_u8, IntKind.wrap_u64, IntKind.wrap_u16, IntKind.wrap_u32]; omega) | (rw [Int.tmod_eq_emod_of_nonneg (by omega)]) | (rw [Int.tmod_eq_emod_of_nonneg (by omega)]; omega))
    · intro a vs W hX hR he hf K hK
      have e38 : a.eval (.tmp 38) = .bool true := (he 19 38 (by kernel_rfl) rfl).trans (hR 19 (by kernel_rfl))
      refine Eq.mpr (if_pos (by exact (wanted_some rfl rfl e38).trans rfl)) ?_
      have e49 : a.eval (.tmp 49) = .slice B m cb := (he 30 49 (by kernel_rfl) rfl).trans (hR 30 (by kernel_rfl))
      have hbW := bthen (below_drew _) (grow_below hX)
      exact wp_value (exec_str 22 9 5 _ rfl Try.underlying22 Try.underlying5 Try.underlying9 B m cb l2 e49 (B1.out.below hbW)) (hK _ _ rfl (grown_refl W _))
    · intro a vs W hX hR he hf K hK
      have e38 : a.eval (.tmp 38) = .bool true := (he 19 38 (by kernel_rfl) rfl).trans (hR 19 (by kernel_rfl))
      refine Eq.mpr (if_pos (by exact (wanted_some rfl rfl e38).trans rfl)) ?_
      have e3 : a.eval (.tmp 3) = .pointer (some ⟨w.heap.size, 0, none⟩) := hf 3 (by kernel_rfl)
      refine wp_value (v := .pointer (some ⟨w.heap.size, 3, none⟩)) ?_ (hK _ _ rfl (grown_refl W _))
      simp only [execOp, e3]
      try go_simp
      try (first | rfl | omega | (simp only [IntKind.wrap_i64, IntKind.wrap_u8, IntKind.wrap_u64, IntKind.wrap_u16, IntKind.wrap_u32]; omega) | (rw [Int.tmod_eq_emod_of_nonneg (by omega)]) | (rw [Int.tmod_eq_emod_of_nonneg (by omega)]; omega))
    · intro a vs W hX hR he hf K hK
      have e38 : a.eval (.tmp 38) = .bool true := (he 19 38 (by kernel_rfl) rfl).trans (hR 19 (by kernel_rfl))
      refine Eq.mpr (if_pos (by exact (wanted_some rfl rfl e38).trans rfl)) ?_
      have e51 : a.eval (.tmp 51) = .pointer (some ⟨w.heap.size, 3, none⟩) := (he 32 51 (by kernel_rfl) rfl).trans (hR 32 (by kernel_rfl))
      have hbW := bthen (below_drew _) (grow_below hX)
      have hc : W.cell? ⟨w.heap.size, 3, none⟩ = _ := (KC.out W hbW).2.2.2.1
      refine wp_value (v := _) ?_ (hK _ _ rfl (grown_refl W _))
      simp only [execOp, e51]
      go_simp
    · intro a vs W hX hR he hf K hK
      have e38 : a.eval (.tmp 38) = .bool true := (he 19 38 (by kernel_rfl) rfl).trans (hR 19 (by kernel_rfl))
      refine Eq.mpr (if_pos (by exact (wanted_some rfl rfl e38).trans rfl)) ?_
      have e52 : a.eval (.tmp 52) = .int .u8 x3 := (he 33 52 (by kernel_rfl) rfl).trans (hR 33 (by kernel_rfl))
      refine wp_value (v := .int .i64 x3) ?_ (hK _ _ rfl (grown_refl W _))
      simp only [execOp, e52]
      try go_simp
      try (first | rfl | omega | (simp only [IntKind.wrap_i64, IntKind.wrap_u8, IntKind.wrap_u64, IntKind.wrap_u16, IntKind.wrap_u32]; omega) | (rw [Int.tmod_eq_emod_of_nonneg (by omega)]) | (rw [Int.tmod_eq_emod_of_nonneg (by omega)]; omega))
    · intro a vs W hX hR he hf K hK
      have e38 : a.eval (.tmp 38) = .bool true := (he 19 38 (by kernel_rfl) rfl).trans (hR 19 (by kernel_rfl))
      refine Eq.mpr (if_pos (by exact (wanted_some rfl rfl e38).trans rfl)) ?_
      have e3 : a.eval (.tmp 3) = .pointer (some ⟨w.heap.size, 0, none⟩) := hf 3 (by kernel_rfl)
      refine wp_value (v := .pointer (some ⟨w.heap.size, 4, none⟩)) ?_ (hK _ _ rfl (grown_refl W _))
      simp only [execOp, e3]
      try go_simp
      try (first | rfl | omega | (simp only [IntKind.wrap_i64, IntKind.wrap_u8, IntKind.wrap_u64, IntKind.wrap_u16, IntKind.wrap_u32]; omega) | (rw [Int.tmod_eq_emod_of_nonneg (by omega)]) | (rw [Int.tmod_eq_emod_of_nonneg (by omega)]; omega))
    · intro a vs W hX hR he hf K hK
      have e38 : a.eval (.tmp 38) = .bool true := (he 19 38 (by kernel_rfl) rfl).trans (hR 19 (by kernel_rfl))
      refine Eq.mpr (if_pos (by exact (wanted_some rfl rfl e38).trans rfl)) ?_
      have e54 : a.eval (.tmp 54) = .pointer (some ⟨w.heap.size, 4, none⟩) := (he 35 54 (by kernel_rfl) rfl).trans (hR 35 (by kernel_rfl))
      have hbW := bthen (below_drew _) (grow_below hX)
      have hc : W.cell? ⟨w.heap.size, 4, none⟩ = _ := (KC.out W hbW).2.2.2.2
      refine wp_value (v := _) ?_ (hK _ _ rfl (grown_refl W _))
      simp only [execOp, e54]
      go_simp
    · intro a vs W hX hR he hf K hK
      have e38 : a.eval (.tmp 38) = .bool true := (he 19 38 (by kernel_rfl) rfl).trans (hR 19 (by kernel_rfl))
      refine Eq.mpr (if_pos (by exact (wanted_some rfl rfl e38).trans rfl)) ?_
      have e48 : a.eval (.tmp 48) = str l := (he 29 48 (by kernel_rfl) rfl).trans (hR 29 (by kernel_rfl))
      have e50 : a.eval (.tmp 50) = str l2 := (he 31 50 (by kernel_rfl) rfl).trans (hR 31 (by kernel_rfl))
      have e53 : a.eval (.tmp 53) = .int .i64 x3 := (he 34 53 (by kernel_rfl) rfl).trans (hR 34 (by kernel_rfl))
      have e55 : a.eval (.tmp 55) = .int .i64 x4 := (he 36 55 (by kernel_rfl) rfl).trans (hR 36 (by kernel_rfl))
      have g48 := e48
      simp only [Act.eval, Array.getD_eq_getD_getElem?] at g48
      have g50 := e50
      simp only [Act.eval, Array.getD_eq_getD_getElem?] at g50
      have g53 := e53
      simp only [Act.eval, Array.getD_eq_getD_getElem?] at g53
      have g55 := e55
      simp only [Act.eval, Array.getD_eq_getD_getElem?] at g55
      refine wp_enter (f := 17) (args := #[str l, str l2, .int .i64 x3, .int .i64 x4]) (by simp only [execOp]; go_simp; try simp [g48, g50, g53, g55]) ((rpseudo_any l l2 x3 x4 W (by omega) (by omega) hx3.1 hx3.2 hx4.1 hx4.2).mono ?_)
      rintro e w' ⟨rfl, hb⟩
      exact ⟨_, rfl, hK _ _ rfl (below_grow hb _)⟩
    · intro a vs W hX hR he hf K hK
      have e38 : a.eval (.tmp 38) = .bool true := (he 19 38 (by kernel_rfl) rfl).trans (hR 19 (by kernel_rfl))
      refine Eq.mpr (if_pos (by exact (wanted_some rfl rfl e38).trans rfl)) ?_
      have e46 : a.eval (.tmp 46) = str (pseudoF l l2 x3.toNat x4) := (he 27 46 (by kernel_rfl) rfl).trans (hR 27 (by kernel_rfl))
      have e56 : a.eval (.tmp 56) = str (pseudoF l l2 x3.toNat x4) := (he 37 56 (by kernel_rfl) rfl).trans (hR 37 (by kernel_rfl))
      refine wp_value (v := .bool true) ?_ (hK _ _ rfl (grown_refl W _))
      simp only [execOp, e46, e56]
      try go_simp
      try (first | rfl | omega | (simp only [IntKind.wrap_i64, IntKind.wrap_u8, IntKind.wrap_u64, IntKind.wrap_u16, IntKind.wrap_u32]; omega) | (rw [Int.tmod_eq_emod_of_nonneg (by omega)]) | (rw [Int.tmod_eq_emod_of_nonneg (by omega)]; omega))
    · intro a vs W hX hR he hf K hK
      rw [if_pos (wanted_none rfl)]
      have e38 : a.eval (.tmp 38) = .bool true := (he 19 38 (by kernel_rfl) rfl).trans (hR 19 (by kernel_rfl))
      have e57 : a.eval (.tmp 57) = .bool true := (he 38 57 (by kernel_rfl) rfl).trans (hR 38 (by kernel_rfl))
      refine wp_value (v := .bool true) ?_ (hK _ _ rfl (grown_refl W _))
      simp only [execOp, e38, e57]
      try go_simp
      try (first | rfl | omega | (simp only [IntKind.wrap_i64, IntKind.wrap_u8, IntKind.wrap_u64, IntKind.wrap_u16, IntKind.wrap_u32]; omega) | (rw [Int.tmod_eq_emod_of_nonneg (by omega)]) | (rw [Int.tmod_eq_emod_of_nonneg (by omega)]; omega))
    · intro a vs W hX hR he hf K hK
      rw [if_pos (wanted_none rfl)]
      have e58 : a.eval (.tmp 58) = .bool true := (he 39 58 (by kernel_rfl) rfl).trans (hR 39 (by kernel_rfl))
      refine wp_value (v := .bool true) ?_ (hK _ _ rfl (grown_refl W _))
      simp only [execOp, e58]
      try go_simp
      try (first | rfl | omega | (simp only [IntKind.wrap_i64, IntKind.wrap_u8, IntKind.wrap_u64, IntKind.wrap_u16, IntKind.wrap_u32]; omega) | (rw [Int.tmod_eq_emod_of_nonneg (by omega)]) | (rw [Int.tmod_eq_emod_of_nonneg (by omega)]; omega))
    · intro vs W hX hR
      have q0 := hR 0 (by decide)
      have q1 := hR 1 (by decide)
      have q2 := hR 2 (by decide)
      have q3 := hR 3 (by decide)
      have q4 := hR 4 (by decide)
      have q5 := hR 5 (by decide)
      have q6 := hR 6 (by decide)
      have q7 := hR 7 (by decide)
      have q8 := hR 8 (by decide)
      have q9 := hR 9 (by decide)
      have q10 := hR 10 (by decide)
      have q11 := hR 11 (by decide)
      have q12 := hR 12 (by decide)
      have q13 := hR 13 (by decide)
      have q14 := hR 14 (by decide)
      have q15 := hR 15 (by decide)
      have q16 := hR 16 (by decide)
      have q17 := hR 17 (by decide)
      have q18 := hR 18 (by decide)
      have q19 := hR 19 (by decide)
      have q20 := hR 20 (by decide)
      have q21 := hR 21 (by decide)
      have q22 := hR 22 (by decide)
      have q23 := hR 23 (by decide)
      have q24 := hR 24 (by decide)
      have q25 := hR 25 (by decide)
      have q26 := hR 26 (by decide)
      have q27 := hR 27 (by decide)
      have q28 := hR 28 (by decide)
      have q29 := hR 29 (by decide)
      have q30 := hR 30 (by decide)
      have q31 := hR 31 (by decide)
      have q32 := hR 32 (by decide)
      have q33 := hR 33 (by decide)
      have q34 := hR 34 (by decide)
      have q35 := hR 35 (by decide)
      have q36 := hR 36 (by decide)
      have q37 := hR 37 (by decide)
      have q38 := hR 38 (by decide)
      have q39 := hR 39 (by decide)
      have q40 := hR 40 (by decide)
      change vs 0 = .pointer (some ⟨w.heap.size, 0, none⟩) at q0
      change vs 1 = .int .u16 x0 at q1
      change vs 2 = .pointer (some ⟨w.heap.size, 1, none⟩) at q2
      change vs 3 = .int .u16 x1 at q3
      change vs 4 = .pointer (some ⟨w.heap.size, 2, none⟩) at q4
      change vs 5 = .int .u16 x2 at q5
      change vs 6 = .int .u16 (T : Int) at q6
      change vs 7 = .int .i64 (T : Int) at q7
      change vs 8 = .pointer (some ⟨w.heap.size, 0, none⟩) at q8
      change vs 9 = .int .u16 x0 at q9
      change vs 10 = .int .i64 x0 at q10
      change vs 11 = .pointer (some ⟨w.heap.size, 1, none⟩) at q11
      change vs 12 = .int .u16 x1 at q12
      change vs 13 = .int .i64 x1 at q13
      change vs 14 = .pointer (some ⟨w.heap.size, 2, none⟩) at q14
      change vs 15 = .int .u16 x2 at q15
      change vs 16 = .int .i64 x2 at q16
      change vs 17 = .int .i64 (T : Int) at q17
      change vs 18 = .bool true at q18
      change vs 19 = .bool true at q19
      change vs 20 = .slice A n ca at q20
      change vs 21 = .slice B m cb at q21
      change vs 22 = .pointer (some ⟨w.heap.size, 3, none⟩) at q22
      change vs 23 = .int .u8 x3 at q23
      change vs 24 = .pointer (some ⟨w.heap.size, 4, none⟩) at q24
      change vs 25 = .int .i64 x4 at q25
      change (BsR (pseudoF l l2 x3.toNat x4)) (vs 26) W at q26
      change vs 27 = str (pseudoF l l2 x3.toNat x4) at q27
      change vs 28 = .slice A n ca at q28
      change vs 29 = str l at q29
      change vs 30 = .slice B m cb at q30
      change vs 31 = str l2 at q31
      change vs 32 = .pointer (some ⟨w.heap.size, 3, none⟩) at q32
      change vs 33 = .int .u8 x3 at q33
      change vs 34 = .int .i64 x3 at q34
      change vs 35 = .pointer (some ⟨w.heap.size, 4, none⟩) at q35
      change vs 36 = .int .i64 x4 at q36
      change vs 37 = str (pseudoF l l2 x3.toNat x4) at q37
      change vs 38 = .bool true at q38
      change vs 39 = .bool true at q39
      change vs 40 = .bool true at q40
      simp only [putAll, Act.put, List.setIfInBounds_toArray, List.set_cons_zero, List.set_cons_succ, q0, q1, q2, q3, q4, q5, q6, q7, q8, q9, q10, q11, q12, q13, q14, q15, q16, q17, q18, q19, q20, q21, q22, q23, q24, q25, q27, q28, q29, q30, q31, q32, q33, q34, q35, q36, q37, q38, q39, q40]
      clear q0 q1 q2 q3 q4 q5 q6 q7 q8 q9 q10 q11 q12 q13 q14 q15 q16 q17 q18 q19 q20 q21 q22 q23 q24 q25 q27 q28 q29 q30 q31 q32 q33 q34 q35 q36 q37 q38 q39 q40
      clear hR
      have hbW := bthen (below_drew _) (grow_below hX)
      go_wp2
      go_ret
      exact ⟨rfl, bthen hw2 hbW⟩
  · have key : 40 < (n : Int) ∨ (¬ 40 < (n : Int) ∧ 40 < (m : Int)) := by omega
    clear hs ha hb
    rcases key with h | ⟨h1, h⟩
    all_goals
      go_enter Try.func4, Try.ntmps4
      go_wp2_with fail
      refine (awake_any _).mono ?_
      rintro e w1 ⟨rfl, hw1⟩
      go_wp2_with fail
      go_ret
      exact ⟨rfl, ballocd hw1⟩
end Go.Proofs.Ytjacgpankndigaa

/- The statements' same (layer 22) at two rows that hold the same. No condition but sizes. -/
import Derived.Test.YtbabkcdhihmomaaX22k
namespace Go.Proofs.Ytbabkcdhihmomaa
open Go.RowKit
set_option linter.unusedVariables false
set_option maxRecDepth 20000
set_option linter.unusedSimpArgs false

theorem sameO (x : Ob) (w : World) : (Op.equalIn 10000 66 (.agg x.cells.toArray) (.agg x.cells.toArray)).run Try.prog w = .ok true w := by
  rw [run_equalIn_struct w 9999 66 _ _ Try.underlying66 (show Try.prog.stoodInHeld 66 = false by kernel_rfl)]
  refine eqF_cons (by decide) (part_one (by kernel_rfl) rfl) (part_one (by kernel_rfl) rfl) (eq_int Try.underlying5 _ _) ?_
  refine eqF_cons (by decide) (part_one (by kernel_rfl) rfl) (part_one (by kernel_rfl) rfl) (eq_int Try.underlying5 _ _) ?_
  refine eqF_cons (by decide) (part_one (by kernel_rfl) rfl) (part_one (by kernel_rfl) rfl) (eq_str Try.underlying9 _) ?_
  exact eqF_nil
theorem run_neqO (x : Ob) (w : World) : (binOp .neq 66 (.agg x.cells.toArray) (.agg x.cells.toArray)).run Try.prog w = .ok (.bool false) w := by
  rw [run_neq_struct, sameO x]
  rfl
theorem exec_neqO {w : World} {o : Oper} {a : Act} (x y : Operand) (ty : TypeId) (ho : o.op = .binOp .neq 66 x y ty) (h : Ob) (hx : a.eval x = .agg h.cells.toArray) (hy : a.eval y = .agg h.cells.toArray) : (execOp a.eval o).run Try.prog w = .ok (.value (.bool false)) w := by
  unfold execOp
  simp only [ho, hx, hy, Sem.run_bind, run_eqGuard_agg w .neq 66 x y _ _ (show Try.prog.eqGuardType Try.prog.depth 66 = false by kernel_rfl), run_neqO h, Result.andThen_ok]
  rfl
theorem ob_range {w : World} {B n : Nat} {A : Option Addr} {l : List Ob} (h : Row w B 3 A n (obs l)) (i : Nat) (x : Ob) (hi : l[i]? = some x) : ∃ b o, A = some ⟨b, o, none⟩ ∧ b < B ∧ w.rangeAt b (o + i * 3) x.cells := by
  have hn : 0 < n := by
    have := ob_len h
    obtain ⟨hi', _⟩ := List.getElem?_eq_some_iff.1 hi
    omega
  obtain ⟨b, o, rfl, hb, hc⟩ := h.2 hn
  refine ⟨b, o, rfl, hb, fun j v hv => ?_⟩
  rw [Nat.add_assoc]
  refine hc (i * 3 + j) v ?_
  have hj : j < 3 := by
    obtain ⟨hj, _⟩ := List.getElem?_eq_some_iff.1 hv
    exact hj
  rw [obs_cell l i x hi j hj]
  exact hv
set_option maxHeartbeats 4000000 in
theorem same22_any (A A2 : Option Addr) (n c c2 : Nat) (l : List Ob) (w : World) (h1 : Row w w.heap.size 3 A n (obs l)) (h2 : Row w w.heap.size 3 A2 n (obs l)) (hn : n ≤ 1000000000) :
    Calls Try.prog 18 #[.slice A n c, .slice A2 n c2] w fun e w' => e = .returned (.bool true) ∧ Below w.heap.size w w' := by
  have HL := Lib.hid (ob_len h1)
  have HR1 := Lib.hid h1
  have HR2 := Lib.hid h2
  clear h1 h2
  go_enter Try.func18, Try.ntmps18
  go_wp2_with fail
  go_loopw [5] (fun i wr => ∃ k : Nat, k ≤ n ∧ i = .int .i64 (k : Nat) ∧ Below w.heap.size w wr) (fun i _ => n - (intOf i).toNat)
  case atStart => exact ⟨0, by omega, rfl, Below.refl _ _⟩
  case round =>
    obtain ⟨k, hk, rfl, hbe⟩ := hrel
    have HBE := Lib.hid hbe
    clear hbe
    by_cases hlt : k < n
    · obtain ⟨x, hx⟩ : ∃ x, l[k]? = some x := ⟨_, List.getElem?_eq_getElem (by rw [HL.out]; omega)⟩
      obtain ⟨b, o, hA, hb, r1⟩ := ob_range (HR1.out.below HBE.out) k x hx
      obtain ⟨b2, o2, hA2, hb2, r2⟩ := ob_range (HR2.out.below HBE.out) k x hx
      subst hA hA2
      have RA := Lib.hid r1
      have RB := Lib.hid r2
      have hbw : b < wr.heap.size := Nat.lt_of_lt_of_le hb HBE.out.size
      have hbw2 : b2 < wr.heap.size := Nat.lt_of_lt_of_le hb2 HBE.out.size
      have hkn : (k : Int) < (n : Int) := by omega
      clear hx r1 r2 hb hb2
      go_wp2_with fail
      refine wp_region_rel (fun A B => A.grownBy B none) (fun A => grown_refl A _) (fun A B C h k => grown_trans h k) (relAt (List.cons (fun v _ => v = .slice (some ⟨b, o, none⟩) n c) (List.cons (fun v _ => v = .int .i64 (k : Int)) (List.cons (fun v _ => v = .pointer (some ⟨b, o + k * 3, none⟩)) (List.cons (fun v _ => v = .agg x.cells.toArray) (List.cons (fun v _ => v = .slice (some ⟨b2, o2, none⟩) n c2) (List.cons (fun v _ => v = .int .i64 (k : Int)) (List.cons (fun v _ => v = .pointer (some ⟨b2, o2 + k * 3, none⟩)) (List.cons (fun v _ => v = .agg x.cells.toArray) (List.cons (fun v _ => v = .bool false) ([]))))))))))) (MonoL.at_ (.cons (mono_val _) (.cons (mono_val _) (.cons (mono_val _) (.cons (mono_val _) (.cons (mono_val _) (.cons (mono_val _) (.cons (mono_val _) (.cons (mono_val _) (.cons (mono_val _) .nil)))))))))) (by kernel_rfl) (by kernel_rfl) ⟨?_, ?_, ?_, ?_, ?_, ?_, ?_, ?_, ?_, trivial⟩ ?_
      · intro a vs W hX hR he hf K hK
        rw [if_pos (wanted_none rfl)]
        have e0 : a.eval (.tmp 0) = .slice (some ⟨b, o, none⟩) n c := hf 0 (by kernel_rfl)
        refine wp_value (v := .slice (some ⟨b, o, none⟩) n c) ?_ (hK _ _ rfl (grown_refl W _))
        simp only [execOp, e0]
        try go_simp
        try (first | rfl | omega | (simp only [IntKind.wrap_i64, IntKind.wrap_u8, IntKind.wrap_u64, IntKind.wrap_u16, IntKind.wrap_u32]; omega) | (rw [Int.tmod_eq_emod_of_nonneg (by omega)]) | (rw [Int.tmod_eq_emod_of_nonneg (by omega)]; omega))
      · intro a vs W hX hR he hf K hK
        rw [if_pos (wanted_none rfl)]
        have e5 : a.eval (.tmp 5) = .int .i64 (k : Int) := hf 5 (by kernel_rfl)
        refine wp_value (v := .int .i64 (k : Int)) ?_ (hK _ _ rfl (grown_refl W _))
        simp only [execOp, e5]
        try go_simp
        try (first | rfl | omega | (simp only [IntKind.wrap_i64, IntKind.wrap_u8, IntKind.wrap_u64, IntKind.wrap_u16, IntKind.wrap_u32]; omega) | (rw [Int.tmod_eq_emod_of_nonneg (by omega)]) | (rw [Int.tmod_eq_emod_of_nonneg (by omega)]; omega))
      · intro a vs W hX hR he hf K hK
        rw [if_pos (wanted_none rfl)]
        have e17 : a.eval (.tmp 17) = .slice (some ⟨b, o, none⟩) n c := (he 0 17 (by kernel_rfl) rfl).trans (hR 0 (by kernel_rfl))
        have e18 : a.eval (.tmp 18) = .int .i64 (k : Int) := (he 1 18 (by kernel_rfl) rfl).trans (hR 1 (by kernel_rfl))
        refine wp_value (v := .pointer (some ⟨b, o + k * 3, none⟩)) ?_ (hK _ _ rfl (grown_refl W _))
        simp only [execOp, e17, e18]
        try go_simp
        try (first | rfl | omega | (simp only [IntKind.wrap_i64, IntKind.wrap_u8, IntKind.wrap_u64, IntKind.wrap_u16, IntKind.wrap_u32]; omega) | (rw [Int.tmod_eq_emod_of_nonneg (by omega)]) | (rw [Int.tmod_eq_emod_of_nonneg (by omega)]; omega))
      · intro a vs W hX hR he hf K hK
        rw [if_pos (wanted_none rfl)]
        have e19 : a.eval (.tmp 19) = .pointer (some ⟨b, o + k * 3, none⟩) := (he 2 19 (by kernel_rfl) rfl).trans (hR 2 (by kernel_rfl))
        have hbW := bthen (below_drew _) (grow_below hX)
        exact wp_value (exec_load_mid _ _ rfl b (o + k * 3) e19 x.cells _ (fun j v hv => (hbW.cell (p := ⟨b, _, none⟩) hbw).trans (RA.out j v hv)) Try.underlying66 rfl (by show _ = some 3; kernel_rfl)) (hK _ _ rfl (grown_refl W _))
      · intro a vs W hX hR he hf K hK
        rw [if_pos (wanted_none rfl)]
        have e1 : a.eval (.tmp 1) = .slice (some ⟨b2, o2, none⟩) n c2 := hf 1 (by kernel_rfl)
        refine wp_value (v := .slice (some ⟨b2, o2, none⟩) n c2) ?_ (hK _ _ rfl (grown_refl W _))
        simp only [execOp, e1]
        try go_simp
        try (first | rfl | omega | (simp only [IntKind.wrap_i64, IntKind.wrap_u8, IntKind.wrap_u64, IntKind.wrap_u16, IntKind.wrap_u32]; omega) | (rw [Int.tmod_eq_emod_of_nonneg (by omega)]) | (rw [Int.tmod_eq_emod_of_nonneg (by omega)]; omega))
      · intro a vs W hX hR he hf K hK
        rw [if_pos (wanted_none rfl)]
        have e5 : a.eval (.tmp 5) = .int .i64 (k : Int) := hf 5 (by kernel_rfl)
        refine wp_value (v := .int .i64 (k : Int)) ?_ (hK _ _ rfl (grown_refl W _))
        simp only [execOp, e5]
        try go_simp
        try (first | rfl | omega | (simp only [IntKind.wrap_i64, IntKind.wrap_u8, IntKind.wrap_u64, IntKind.wrap_u16, IntKind.wrap_u32]; omega) | (rw [Int.tmod_eq_emod_of_nonneg (by omega)]) | (rw [Int.tmod_eq_emod_of_nonneg (by omega)]; omega))
      · intro a vs W hX hR he hf K hK
        rw [if_pos (wanted_none rfl)]
        have e21 : a.eval (.tmp 21) = .slice (some ⟨b2, o2, none⟩) n c2 := (he 4 21 (by kernel_rfl) rfl).trans (hR 4 (by kernel_rfl))
        have e22 : a.eval (.tmp 22) = .int .i64 (k : Int) := (he 5 22 (by kernel_rfl) rfl).trans (hR 5 (by kernel_rfl))
        refine wp_value (v := .pointer (some ⟨b2, o2 + k * 3, none⟩)) ?_ (hK _ _ rfl (grown_refl W _))
        simp only [execOp, e21, e22]
        try go_simp
        try (first | rfl | omega | (simp only [IntKind.wrap_i64, IntKind.wrap_u8, IntKind.wrap_u64, IntKind.wrap_u16, IntKind.wrap_u32]; omega) | (rw [Int.tmod_eq_emod_of_nonneg (by omega)]) | (rw [Int.tmod_eq_emod_of_nonneg (by omega)]; omega))
      · intro a vs W hX hR he hf K hK
        rw [if_pos (wanted_none rfl)]
        have e23 : a.eval (.tmp 23) = .pointer (some ⟨b2, o2 + k * 3, none⟩) := (he 6 23 (by kernel_rfl) rfl).trans (hR 6 (by kernel_rfl))
        have hbW := bthen (below_drew _) (grow_below hX)
        exact wp_value (exec_load_mid _ _ rfl b2 (o2 + k * 3) e23 x.cells _ (fun j v hv => (hbW.cell (p := ⟨b2, _, none⟩) hbw2).trans (RB.out j v hv)) Try.underlying66 rfl (by show _ = some 3; kernel_rfl)) (hK _ _ rfl (grown_refl W _))
      · intro a vs W hX hR he hf K hK
        rw [if_pos (wanted_none rfl)]
        have e20 : a.eval (.tmp 20) = .agg x.cells.toArray := (he 3 20 (by kernel_rfl) rfl).trans (hR 3 (by kernel_rfl))
        have e24 : a.eval (.tmp 24) = .agg x.cells.toArray := (he 7 24 (by kernel_rfl) rfl).trans (hR 7 (by kernel_rfl))
        exact wp_value (exec_neqO _ _ _ rfl x e20 e24) (hK _ _ rfl (grown_refl W _))
      · intro vs W2 hX2 hR
        have q0 := hR 0 (by decide)
        have q1 := hR 1 (by decide)
        have q2 := hR 2 (by decide)
        have q3 := hR 3 (by decide)
        have q4 := hR 4 (by decide)
        have q5 := hR 5 (by decide)
        have q6 := hR 6 (by decide)
        have q7 := hR 7 (by decide)
        have q8 := hR 8 (by decide)
        change vs 0 = .slice (some ⟨b, o, none⟩) n c at q0
        change vs 1 = .int .i64 (k : Int) at q1
        change vs 2 = .pointer (some ⟨b, o + k * 3, none⟩) at q2
        change vs 3 = .agg x.cells.toArray at q3
        change vs 4 = .slice (some ⟨b2, o2, none⟩) n c2 at q4
        change vs 5 = .int .i64 (k : Int) at q5
        change vs 6 = .pointer (some ⟨b2, o2 + k * 3, none⟩) at q6
        change vs 7 = .agg x.cells.toArray at q7
        change vs 8 = .bool false at q8
        simp only [putAll, Act.put, List.setIfInBounds_toArray, List.set_cons_zero, List.set_cons_succ, q0, q1, q2, q3, q4, q5, q6, q7, q8]
        clear q0 q1 q2 q3 q4 q5 q6 q7 q8
        clear hR
        have hbW := bthen (below_drew _) (grow_below hX2)
        have HB2 := Lib.hid (bthen HBE.out hbW)
        clear hbW hX2
        go_wp2_with fail
        go_roundw
        case rel => exact ⟨k + 1, by omega, by simp, HB2.out⟩
        case measure => simp [intOf]; omega
    · have hkn : ¬ (k : Int) < (n : Int) := by omega
      go_wp2_with fail
      go_ret
      exact ⟨rfl, HBE.out⟩
end Go.Proofs.Ytbabkcdhihmomaa

/- What the reference's Below (layer 20) computes. No condition but sizes. -/
import Derived.Test.YtmpaockaeoknmaaRw2
namespace Go.Proofs.Ytmpaockaeoknmaa
open Go.RowKit
set_option linter.unusedVariables false
set_option maxRecDepth 20000
set_option linter.unusedSimpArgs false
theorem zeroEnt (w : World) : (zeroValue 46).run Try.prog w = .ok (.agg (Ent.cells ⟨0, 0, false, 0⟩).toArray) w := by kernel_rfl
theorem sizeEnt (x : Ent) : (Try.prog.info? 46).map (·.size) = some x.cells.length := by show _ = some 4; kernel_rfl
theorem oneEnt (x : Ent) : ∀ v ∈ x.cells, v.oneCell' = true := by
  intro v hv
  simp [Ent.cells] at hv
  rcases hv with rfl | rfl | rfl | rfl <;> rfl

set_option maxHeartbeats 4000000 in
theorem rbelow_any (A : Option Addr) (n c : Nat) (l : List Ent) (p : Bool) (w : World) (h : Row w w.heap.size 4 A n (evs l)) (hc : n ≤ c) (hcm : c ≤ maxLen) (hn : n ≤ 1099511627) (hf : ∀ x ∈ l, x.fitR) :
    Calls Try.prog 11 #[.slice A n c, .bool p] w fun e w' => ∃ A' c', e = .returned (.tuple #[.slice A' (belowF l p).1.length c', .bool (belowF l p).2]) ∧ Own w' w.heap.size 46 4 A' (belowF l p).1.length c' (evs (belowF l p).1) ∧ Below w.heap.size w w' := by
  have hlen := ent_len h
  match l, hlen, hf, h with
  | [], hlen, hf, h =>
    obtain rfl : n = 0 := by simpa using hlen.symm
    clear h hf
    go_enter Try.func11, Try.ntmps11
    go_wp2_with fail
    go_ret2
    exact ⟨none, 0, rfl, Own.nil _ _ _ _ _, Below.refl _ _⟩
  | [y], hlen, hf, h =>
    obtain rfl : n = 1 := by simpa using hlen.symm
    clear h hf
    go_enter Try.func11, Try.ntmps11
    go_wp2_with fail
    go_ret2
    exact ⟨none, 0, rfl, Own.nil _ _ _ _ _, Below.refl _ _⟩
  | y :: e :: r, hlen, hf, h =>
    have hn2 : 2 ≤ n := by simp at hlen; omega
    have hc2 : 2 ≤ c := by omega
    have hrl : r.length = n - 2 := by simp at hlen; omega
    have fa := hf y (by simp)
    have fe := hf e (by simp)
    have e0 : ((n : Int) == 0) = false := by simp; omega
    have e1 : ((n : Int) == 1) = false := by simp; omega
    have hcut := h.cut (k := 2) (cap := c) (by omega) hc
    obtain ⟨b, o, hA, hb, a0, a1, a2, a3⟩ := ent_row h 1 e rfl
    subst hA
    rw [addr_addR] at hcut
    obtain ⟨XA, hXA⟩ : ∃ z, (if c = 2 then some ⟨b, o, none⟩ else some ⟨b, o + 2 * 4, none⟩ : Option Addr) = z := ⟨_, rfl⟩
    rw [hXA] at hcut
    have hev : (evs (y :: e :: r)).drop (2 * 4) = evs r := rfl
    rw [hev] at hcut
    obtain ⟨U, hU⟩ : ∃ U, underF y.ttl e.ttl p = U := ⟨_, rfl⟩
    obtain ⟨C, hC⟩ : ∃ C, classF y.cls e.cls p = C := ⟨_, rfl⟩
    have hU0 : 0 ≤ U := by rw [← hU]; unfold underF; have := fa.ttl; have := fe.ttl; split <;> omega
    have hU1 : U ≤ 255 := by rw [← hU]; unfold underF; have := fa.ttl; have := fe.ttl; split <;> omega
    have hval : belowF (y :: e :: r) p = if U < 2 then ([], false) else (⟨e.label, C, e.bot, U - 1⟩ :: r, true) := by rw [← hU, ← hC]; rfl
    have HU := Lib.hid hU
    have HCL := Lib.hid hC
    have HV := Lib.hid hval
    have HR := Lib.hid h
    have HC := Lib.hid hcut
    have HXA := Lib.hid hXA
    rw [Nat.one_mul] at a0 a1 a2 a3
    clear h hcut hf hU hC hval hev hlen hXA
    go_enter Try.func11, Try.ntmps11
    go_wp2_with (first
      | (refine wpList_alloc_blk (by rfl) 46 rfl (Ent.cells ⟨0, 0, false, 0⟩) zeroEnt ?_; intro w2 hbw2 hBw2 hsw2)
      | (refine wpList_store_all (by rfl) 46 _ _ rfl w.heap.size (Ent.cells e) rfl rfl 46 _ hbw2 (sizeEnt _) rfl (oneEnt _) ?_; intro w3 hbw3 hgw3 hsw3; have hBw3 : Below w.heap.size w w3 := bgrown hBw2 hgw3 (by omega) (Nat.le_refl _)))
    obtain ⟨g, hg⟩ : ∃ g, g = w.heap.size := ⟨_, rfl⟩
    have hgl : w.heap.size ≤ g := by omega
    rw [← hg] at hbw3 ⊢
    have HW := Lib.hid hBw3
    have HB := Lib.hid hbw3
    clear hbw2 hBw2 hsw2 hbw3 hgw3 hsw3 hBw3 hg a0 a1 a2 a3
    refine wp_region_rel (fun A B => A.grownBy B none) (fun A => grown_refl A _) (fun A B C h k => grown_trans h k) (relAt (List.cons (fun v _ => v = .slice (some ⟨b, o, none⟩) n c) (List.cons (fun v _ => v = .pointer (some ⟨b, o, none⟩)) (List.cons (fun v _ => v = .pointer (some ⟨b, o + 3, none⟩)) (List.cons (fun v _ => v = .int .u8 y.ttl) (List.cons (fun v _ => v = .pointer (some ⟨g, 3, none⟩)) (List.cons (fun v _ => v = .int .u8 e.ttl) (List.cons (fun v _ => v = .bool p) (List.cons (fun v _ => v = .int .u8 U) (List.cons (fun v _ => v = .tuple #[.int .u8 (nextF U), .bool (decide (¬ U < 2))]) (List.cons (fun v _ => v = .tuple #[.int .u8 (nextF U), .bool (decide (¬ U < 2))]) (List.cons (fun v _ => v = .int .u8 (nextF U)) (List.cons (fun v _ => v = .bool (decide (¬ U < 2))) (List.cons (fun v _ => v = .int .u8 (nextF U)) (List.cons (fun v _ => v = .bool (decide (¬ U < 2))) ([])))))))))))))))) (MonoL.at_ (.cons (mono_val _) (.cons (mono_val _) (.cons (mono_val _) (.cons (mono_val _) (.cons (mono_val _) (.cons (mono_val _) (.cons (mono_val _) (.cons (mono_val _) (.cons (mono_val _) (.cons (mono_val _) (.cons (mono_val _) (.cons (mono_val _) (.cons (mono_val _) (.cons (mono_val _) .nil))))))))))))))) (by kernel_rfl) (by kernel_rfl) ⟨?_, ?_, ?_, ?_, ?_, ?_, ?_, ?_, ?_, ?_, ?_, ?_, ?_, ?_, trivial⟩ ?_
    · intro a vs W hX hR he hf K hK
      rw [if_pos (wanted_none rfl)]
      have e0 : a.eval (.tmp 0) = .slice (some ⟨b, o, none⟩) n c := hf 0 (by kernel_rfl)
      refine wp_value (v := .slice (some ⟨b, o, none⟩) n c) ?_ (hK _ _ rfl (grown_refl W _))
      simp only [execOp, e0]
      try go_simp
      try (first | rfl | omega | (simp only [IntKind.wrap_i64, IntKind.wrap_u8, IntKind.wrap_u64, IntKind.wrap_u16, IntKind.wrap_u32]; omega) | (rw [Int.tmod_eq_emod_of_nonneg (by omega)]) | (rw [Int.tmod_eq_emod_of_nonneg (by omega)]; omega))
    · intro a vs W hX hR he hf K hK
      rw [if_pos (wanted_none rfl)]
      have e19 : a.eval (.tmp 19) = .slice (some ⟨b, o, none⟩) n c := (he 0 19 (by kernel_rfl) rfl).trans (hR 0 (by kernel_rfl))
      refine wp_value (v := .pointer (some ⟨b, o, none⟩)) ?_ (hK _ _ rfl (grown_refl W _))
      simp only [execOp, e19]
      try go_simp
      try (first | rfl | omega | (simp only [IntKind.wrap_i64, IntKind.wrap_u8, IntKind.wrap_u64, IntKind.wrap_u16, IntKind.wrap_u32]; omega) | (rw [Int.tmod_eq_emod_of_nonneg (by omega)]) | (rw [Int.tmod_eq_emod_of_nonneg (by omega)]; omega))
    · intro a vs W hX hR he hf K hK
      rw [if_pos (wanted_none rfl)]
      have e20 : a.eval (.tmp 20) = .pointer (some ⟨b, o, none⟩) := (he 1 20 (by kernel_rfl) rfl).trans (hR 1 (by kernel_rfl))
      refine wp_value (v := .pointer (some ⟨b, o + 3, none⟩)) ?_ (hK _ _ rfl (grown_refl W _))
      simp only [execOp, e20]
      try go_simp
      try (first | rfl | omega | (simp only [IntKind.wrap_i64, IntKind.wrap_u8, IntKind.wrap_u64, IntKind.wrap_u16, IntKind.wrap_u32]; omega) | (rw [Int.tmod_eq_emod_of_nonneg (by omega)]) | (rw [Int.tmod_eq_emod_of_nonneg (by omega)]; omega))
    · intro a vs W hX hR he hf K hK
      rw [if_pos (wanted_none rfl)]
      have e21 : a.eval (.tmp 21) = .pointer (some ⟨b, o + 3, none⟩) := (he 2 21 (by kernel_rfl) rfl).trans (hR 2 (by kernel_rfl))
      have hbW := bthen (below_drew _) (grow_below hX)
      obtain ⟨b', o', hA', _, q0, q1, q2, q3⟩ := ent_row (HR.out.below (bthen HW.out hbW)) 0 y rfl
      obtain ⟨rfl, rfl⟩ : b' = b ∧ o' = o := by injection hA' with hA'; injection hA' with h1 h2; exact ⟨h1.symm, h2.symm⟩
      rw [Nat.zero_mul, Nat.add_zero] at q0 q1 q2 q3
      refine wp_value (v := _) ?_ (hK _ _ rfl (grown_refl W _))
      simp only [execOp, e21]
      go_simp
    · intro a vs W hX hR he hf K hK
      rw [if_pos (wanted_none rfl)]
      have e6 : a.eval (.tmp 6) = .pointer (some ⟨g, 0, none⟩) := hf 6 (by kernel_rfl)
      refine wp_value (v := .pointer (some ⟨g, 3, none⟩)) ?_ (hK _ _ rfl (grown_refl W _))
      simp only [execOp, e6]
      try go_simp
      try (first | rfl | omega | (simp only [IntKind.wrap_i64, IntKind.wrap_u8, IntKind.wrap_u64, IntKind.wrap_u16, IntKind.wrap_u32]; omega) | (rw [Int.tmod_eq_emod_of_nonneg (by omega)]) | (rw [Int.tmod_eq_emod_of_nonneg (by omega)]; omega))
    · intro a vs W hX hR he hf K hK
      rw [if_pos (wanted_none rfl)]
      have e23 : a.eval (.tmp 23) = .pointer (some ⟨g, 3, none⟩) := (he 4 23 (by kernel_rfl) rfl).trans (hR 4 (by kernel_rfl))
      have hbW := bthen (below_drew _) (grow_below hX)
      have hc : W.cell? ⟨g, 3, none⟩ = some (.int .u8 e.ttl) := (HB.out.on hbW).cell 3
      refine wp_value (v := _) ?_ (hK _ _ rfl (grown_refl W _))
      simp only [execOp, e23]
      go_simp
    · intro a vs W hX hR he hf K hK
      rw [if_pos (wanted_none rfl)]
      have e1 : a.eval (.tmp 1) = .bool p := hf 1 (by kernel_rfl)
      refine wp_value (v := .bool p) ?_ (hK _ _ rfl (grown_refl W _))
      simp only [execOp, e1]
      try go_simp
      try (first | rfl | omega | (simp only [IntKind.wrap_i64, IntKind.wrap_u8, IntKind.wrap_u64, IntKind.wrap_u16, IntKind.wrap_u32]; omega) | (rw [Int.tmod_eq_emod_of_nonneg (by omega)]) | (rw [Int.tmod_eq_emod_of_nonneg (by omega)]; omega))
    · intro a vs W hX hR he hf K hK
      rw [if_pos (wanted_none rfl)]
      have e22 : a.eval (.tmp 22) = .int .u8 y.ttl := (he 3 22 (by kernel_rfl) rfl).trans (hR 3 (by kernel_rfl))
      have e24 : a.eval (.tmp 24) = .int .u8 e.ttl := (he 5 24 (by kernel_rfl) rfl).trans (hR 5 (by kernel_rfl))
      have e25 : a.eval (.tmp 25) = .bool p := (he 6 25 (by kernel_rfl) rfl).trans (hR 6 (by kernel_rfl))
      refine wp_enter (f := 33) (args := #[.int .u8 y.ttl, .int .u8 e.ttl, .bool p]) (by simp only [execOp, e22, e24, e25]; go_simp; exact ⟨by simpa [Act.eval] using e22, by simpa [Act.eval] using e24, by simpa [Act.eval] using e25⟩) ((runder_any y.ttl e.ttl p fa.ttl.1 fa.ttl.2 W fe.ttl.1 fe.ttl.2).mono ?_)
      rintro x w' ⟨rfl, rfl⟩
      exact ⟨_, rfl, hK _ _ (congrArg (fun z : Int => Value.int .u8 z) HU.out) (grown_refl _ _)⟩
    · intro a vs W hX hR he hf K hK
      rw [if_pos (wanted_none rfl)]
      have e26 : a.eval (.tmp 26) = .int .u8 U := (he 7 26 (by kernel_rfl) rfl).trans (hR 7 (by kernel_rfl))
      refine wp_enter (f := 27) (args := #[.int .u8 U]) (by simp only [execOp, e26]; go_simp; simpa [Act.eval] using e26) ((rnext_any U hU0 hU1 W).mono ?_)
      rintro x w' ⟨rfl, rfl⟩
      exact ⟨_, rfl, hK _ _ rfl (grown_refl _ _)⟩
    · intro a vs W hX hR he hf K hK
      rw [if_pos (wanted_none rfl)]
      have e27 : a.eval (.tmp 27) = .tuple #[.int .u8 (nextF U), .bool (decide (¬ U < 2))] := (he 8 27 (by kernel_rfl) rfl).trans (hR 8 (by kernel_rfl))
      refine wp_value (v := .tuple #[.int .u8 (nextF U), .bool (decide (¬ U < 2))]) ?_ (hK _ _ rfl (grown_refl W _))
      simp only [execOp, e27]
      try go_simp
      try (first | rfl | omega | (simp only [IntKind.wrap_i64, IntKind.wrap_u8, IntKind.wrap_u64, IntKind.wrap_u16, IntKind.wrap_u32]; omega) | (rw [Int.tmod_eq_emod_of_nonneg (by omega)]) | (rw [Int.tmod_eq_emod_of_nonneg (by omega)]; omega))
    · intro a vs W hX hR he hf K hK
      rw [if_pos (wanted_none rfl)]
      have e18 : a.eval (.tmp 18) = .tuple #[.int .u8 (nextF U), .bool (decide (¬ U < 2))] := (he 9 18 (by kernel_rfl) rfl).trans (hR 9 (by kernel_rfl))
      refine wp_value (v := .int .u8 (nextF U)) ?_ (hK _ _ rfl (grown_refl W _))
      simp only [execOp, e18]
      try go_simp
      try (first | rfl | omega | (simp only [IntKind.wrap_i64, IntKind.wrap_u8, IntKind.wrap_u64, IntKind.wrap_u16, IntKind.wrap_u32]; omega) | (rw [Int.tmod_eq_emod_of_nonneg (by omega)]) | (rw [Int.tmod_eq_emod_of_nonneg (by omega)]; omega))
    · intro a vs W hX hR he hf K hK
      rw [if_pos (wanted_none rfl)]
      have e18 : a.eval (.tmp 18) = .tuple #[.int .u8 (nextF U), .bool (decide (¬ U < 2))] := (he 9 18 (by kernel_rfl) rfl).trans (hR 9 (by kernel_rfl))
      refine wp_value (v := .bool (decide (¬ U < 2))) ?_ (hK _ _ rfl (grown_refl W _))
      simp only [execOp, e18]
      try go_simp
      try (first | rfl | omega | (simp only [IntKind.wrap_i64, IntKind.wrap_u8, IntKind.wrap_u64, IntKind.wrap_u16, IntKind.wrap_u32]; omega) | (rw [Int.tmod_eq_emod_of_nonneg (by omega)]) | (rw [Int.tmod_eq_emod_of_nonneg (by omega)]; omega))
    · intro a vs W hX hR he hf K hK
      rw [if_pos (wanted_none rfl)]
      have e28 : a.eval (.tmp 28) = .int .u8 (nextF U) := (he 10 28 (by kernel_rfl) rfl).trans (hR 10 (by kernel_rfl))
      refine wp_value (v := .int .u8 (nextF U)) ?_ (hK _ _ rfl (grown_refl W _))
      simp only [execOp, e28]
      try go_simp
      try (first | rfl | omega | (simp only [IntKind.wrap_i64, IntKind.wrap_u8, IntKind.wrap_u64, IntKind.wrap_u16, IntKind.wrap_u32]; omega) | (rw [Int.tmod_eq_emod_of_nonneg (by omega)]) | (rw [Int.tmod_eq_emod_of_nonneg (by omega)]; omega))
    · intro a vs W hX hR he hf K hK
      rw [if_pos (wanted_none rfl)]
      have e29 : a.eval (.tmp 29) = .bool (decide (¬ U < 2)) := (he 11 29 (by kernel_rfl) rfl).trans (hR 11 (by kernel_rfl))
      refine wp_value (v := .bool (decide (¬ U < 2))) ?_ (hK _ _ rfl (grown_refl W _))
      simp only [execOp, e29]
      try go_simp
      try (first | rfl | omega | (simp only [IntKind.wrap_i64, IntKind.wrap_u8, IntKind.wrap_u64, IntKind.wrap_u16, IntKind.wrap_u32]; omega) | (rw [Int.tmod_eq_emod_of_nonneg (by omega)]) | (rw [Int.tmod_eq_emod_of_nonneg (by omega)]; omega))
    · intro vs w4 hX4 hR
      have q0 := hR 0 (by decide)
      have q1 := hR 1 (by decide)
      have q2 := hR 2 (by decide)
      have q3 := hR 3 (by decide)
      have q4 := hR 4 (by decide)
      have q5 := hR 5 (by decide)
      have q6 := hR 6 (by decide)
      have q7 := hR 7 (by decide)
      have q8 := hR 8 (by decide)
      have q9 := hR 9 (by decide)
      have q10 := hR 10 (by decide)
      have q11 := hR 11 (by decide)
      have q12 := hR 12 (by decide)
      have q13 := hR 13 (by decide)
      change vs 0 = .slice (some ⟨b, o, none⟩) n c at q0
      change vs 1 = .pointer (some ⟨b, o, none⟩) at q1
      change vs 2 = .pointer (some ⟨b, o + 3, none⟩) at q2
      change vs 3 = .int .u8 y.ttl at q3
      change vs 4 = .pointer (some ⟨g, 3, none⟩) at q4
      change vs 5 = .int .u8 e.ttl at q5
      change vs 6 = .bool p at q6
      change vs 7 = .int .u8 U at q7
      change vs 8 = .tuple #[.int .u8 (nextF U), .bool (decide (¬ U < 2))] at q8
      change vs 9 = .tuple #[.int .u8 (nextF U), .bool (decide (¬ U < 2))] at q9
      change vs 10 = .int .u8 (nextF U) at q10
      change vs 11 = .bool (decide (¬ U < 2)) at q11
      change vs 12 = .int .u8 (nextF U) at q12
      change vs 13 = .bool (decide (¬ U < 2)) at q13
      simp only [putAll, Act.put, List.setIfInBounds_toArray, List.set_cons_zero, List.set_cons_succ, q0, q1, q2, q3, q4, q5, q6, q7, q8, q9, q10, q11, q12, q13]
      clear q0 q1 q2 q3 q4 q5 q6 q7 q8 q9 q10 q11 q12 q13
      clear hR
      have hb4 := bthen (below_drew w3) (grow_below hX4)
      replace HW := Lib.hid (bthen HW.out hb4)
      replace HB := Lib.hid (HB.out.on hb4)
      clear hX4 hb4
      by_cases hU2 : U < 2
      · have hv : belowF (y :: e :: r) p = ([], false) := by rw [HV.out, if_pos hU2]
        have HV2 := Lib.hid hv
        clear hv
        go_wp2_with fail
        go_ret2
        exact ⟨none, 0, by rw [HV2.out]; rfl, by rw [HV2.out]; exact Own.nil _ _ _ _ _, HW.out⟩
      · have hv : belowF (y :: e :: r) p = (⟨e.label, C, e.bot, U - 1⟩ :: r, true) := by rw [HV.out, if_neg hU2]
        have HV2 := Lib.hid hv
        clear hv
        have hnx : nextF U = U - 1 := by unfold nextF; rw [if_neg hU2]
        rw [hnx]
        clear hnx
        have z3 : w4.cell? ⟨g, 3, none⟩ = some (.int .u8 e.ttl) := HB.out.cell 3
        have y3 := HB.out.frozen 3
        go_wp2_with fail
        have hset : Blk (w4.setCell ⟨g, 3, none⟩ (.int .u8 (U - 1))) g 46 (Ent.cells ⟨e.label, e.cls, e.bot, U - 1⟩) := HB.out.set 3 (.int .u8 (U - 1))
        have hW3 := HW.out.setCell (p := ⟨g, 3, none⟩) hgl (.int .u8 (U - 1))
        obtain ⟨w5, hw5⟩ : ∃ z, z = w4.setCell ⟨g, 3, none⟩ (.int .u8 (U - 1)) := ⟨_, rfl⟩
        rw [← hw5] at hset hW3 ⊢
        replace HB := Lib.hid hset
        replace HW := Lib.hid hW3
        clear hset hW3 hw5 z3 y3
        go_wp2_with fail
        refine wp_region_last 9 (fun A B => A.grownBy B none) (fun A => grown_refl A _) (fun A B C h k => grown_trans h k) (relAt (List.cons (fun v _ => v = .slice (some ⟨b, o, none⟩) n c) (List.cons (fun v _ => v = .pointer (some ⟨b, o, none⟩)) (List.cons (fun v _ => v = .pointer (some ⟨b, o + 1, none⟩)) (List.cons (fun v _ => v = .int .u8 y.cls) (List.cons (fun v _ => v = .pointer (some ⟨g, 1, none⟩)) (List.cons (fun v _ => v = .int .u8 e.cls) (List.cons (fun v _ => v = .bool p) (List.cons (fun v _ => v = .int .u8 C) (List.cons (fun v _ => v = .pointer (some ⟨g, 1, none⟩)) ([]))))))))))) (MonoL.at_ (.cons (mono_val _) (.cons (mono_val _) (.cons (mono_val _) (.cons (mono_val _) (.cons (mono_val _) (.cons (mono_val _) (.cons (mono_val _) (.cons (mono_val _) (.cons (mono_val _) .nil)))))))))) (by kernel_rfl) (by kernel_rfl) rfl (by kernel_rfl) _ rfl rfl ⟨?_, ?_, ?_, ?_, ?_, ?_, ?_, ?_, ?_, trivial⟩ ?_
        · intro a vs W hX hR he hf K hK
          rw [if_pos (wanted_none rfl)]
          have e0 : a.eval (.tmp 0) = .slice (some ⟨b, o, none⟩) n c := hf 0 (by kernel_rfl)
          refine wp_value (v := .slice (some ⟨b, o, none⟩) n c) ?_ (hK _ _ rfl (grown_refl W _))
          simp only [execOp, e0]
          try go_simp
          try (first | rfl | omega | (simp only [IntKind.wrap_i64, IntKind.wrap_u8, IntKind.wrap_u64, IntKind.wrap_u16, IntKind.wrap_u32]; omega) | (rw [Int.tmod_eq_emod_of_nonneg (by omega)]) | (rw [Int.tmod_eq_emod_of_nonneg (by omega)]; omega))
        · intro a vs W hX hR he hf K hK
          rw [if_pos (wanted_none rfl)]
          have e34 : a.eval (.tmp 34) = .slice (some ⟨b, o, none⟩) n c := (he 0 34 (by kernel_rfl) rfl).trans (hR 0 (by kernel_rfl))
          refine wp_value (v := .pointer (some ⟨b, o, none⟩)) ?_ (hK _ _ rfl (grown_refl W _))
          simp only [execOp, e34]
          try go_simp
          try (first | rfl | omega | (simp only [IntKind.wrap_i64, IntKind.wrap_u8, IntKind.wrap_u64, IntKind.wrap_u16, IntKind.wrap_u32]; omega) | (rw [Int.tmod_eq_emod_of_nonneg (by omega)]) | (rw [Int.tmod_eq_emod_of_nonneg (by omega)]; omega))
        · intro a vs W hX hR he hf K hK
          rw [if_pos (wanted_none rfl)]
          have e35 : a.eval (.tmp 35) = .pointer (some ⟨b, o, none⟩) := (he 1 35 (by kernel_rfl) rfl).trans (hR 1 (by kernel_rfl))
          refine wp_value (v := .pointer (some ⟨b, o + 1, none⟩)) ?_ (hK _ _ rfl (grown_refl W _))
          simp only [execOp, e35]
          try go_simp
          try (first | rfl | omega | (simp only [IntKind.wrap_i64, IntKind.wrap_u8, IntKind.wrap_u64, IntKind.wrap_u16, IntKind.wrap_u32]; omega) | (rw [Int.tmod_eq_emod_of_nonneg (by omega)]) | (rw [Int.tmod_eq_emod_of_nonneg (by omega)]; omega))
        · intro a vs W hX hR he hf K hK
          rw [if_pos (wanted_none rfl)]
          have e36 : a.eval (.tmp 36) = .pointer (some ⟨b, o + 1, none⟩) := (he 2 36 (by kernel_rfl) rfl).trans (hR 2 (by kernel_rfl))
          have hbW := bthen (below_drew _) (grow_below hX)
          obtain ⟨b', o', hA', _, q0, q1, q2, q3⟩ := ent_row (HR.out.below (bthen HW.out hbW)) 0 y rfl
          obtain ⟨rfl, rfl⟩ : b' = b ∧ o' = o := by injection hA' with hA'; injection hA' with h1 h2; exact ⟨h1.symm, h2.symm⟩
          rw [Nat.zero_mul, Nat.add_zero] at q0 q1 q2 q3
          refine wp_value (v := _) ?_ (hK _ _ rfl (grown_refl W _))
          simp only [execOp, e36]
          go_simp
        · intro a vs W hX hR he hf K hK
          rw [if_pos (wanted_none rfl)]
          have e6 : a.eval (.tmp 6) = .pointer (some ⟨g, 0, none⟩) := hf 6 (by kernel_rfl)
          refine wp_value (v := .pointer (some ⟨g, 1, none⟩)) ?_ (hK _ _ rfl (grown_refl W _))
          simp only [execOp, e6]
          try go_simp
          try (first | rfl | omega | (simp only [IntKind.wrap_i64, IntKind.wrap_u8, IntKind.wrap_u64, IntKind.wrap_u16, IntKind.wrap_u32]; omega) | (rw [Int.tmod_eq_emod_of_nonneg (by omega)]) | (rw [Int.tmod_eq_emod_of_nonneg (by omega)]; omega))
        · intro a vs W hX hR he hf K hK
          rw [if_pos (wanted_none rfl)]
          have e38 : a.eval (.tmp 38) = .pointer (some ⟨g, 1, none⟩) := (he 4 38 (by kernel_rfl) rfl).trans (hR 4 (by kernel_rfl))
          have hbW := bthen (below_drew _) (grow_below hX)
          have hc : W.cell? ⟨g, 1, none⟩ = some (.int .u8 e.cls) := (HB.out.on hbW).cell 1
          refine wp_value (v := _) ?_ (hK _ _ rfl (grown_refl W _))
          simp only [execOp, e38]
          go_simp
        · intro a vs W hX hR he hf K hK
          rw [if_pos (wanted_none rfl)]
          have e1 : a.eval (.tmp 1) = .bool p := hf 1 (by kernel_rfl)
          refine wp_value (v := .bool p) ?_ (hK _ _ rfl (grown_refl W _))
          simp only [execOp, e1]
          try go_simp
          try (first | rfl | omega | (simp only [IntKind.wrap_i64, IntKind.wrap_u8, IntKind.wrap_u64, IntKind.wrap_u16, IntKind.wrap_u32]; omega) | (rw [Int.tmod_eq_emod_of_nonneg (by omega)]) | (rw [Int.tmod_eq_emod_of_nonneg (by omega)]; omega))
        · intro a vs W hX hR he hf K hK
          rw [if_pos (wanted_none rfl)]
          have e37 : a.eval (.tmp 37) = .int .u8 y.cls := (he 3 37 (by kernel_rfl) rfl).trans (hR 3 (by kernel_rfl))
          have e39 : a.eval (.tmp 39) = .int .u8 e.cls := (he 5 39 (by kernel_rfl) rfl).trans (hR 5 (by kernel_rfl))
          have e40 : a.eval (.tmp 40) = .bool p := (he 6 40 (by kernel_rfl) rfl).trans (hR 6 (by kernel_rfl))
          refine wp_enter (f := 34) (args := #[.int .u8 y.cls, .int .u8 e.cls, .bool p]) (by simp only [execOp, e37, e39, e40]; go_simp; exact ⟨by simpa [Act.eval] using e37, by simpa [Act.eval] using e39, by simpa [Act.eval] using e40⟩) ((rclass_any y.cls e.cls p fa.cls.1 fa.cls.2 W fe.cls.1 fe.cls.2).mono ?_)
          rintro x w' ⟨rfl, rfl⟩
          exact ⟨_, rfl, hK _ _ (congrArg (fun z : Int => Value.int .u8 z) HCL.out) (grown_refl _ _)⟩
        · intro a vs W hX hR he hf K hK
          rw [if_pos (wanted_none rfl)]
          have e6 : a.eval (.tmp 6) = .pointer (some ⟨g, 0, none⟩) := hf 6 (by kernel_rfl)
          refine wp_value (v := .pointer (some ⟨g, 1, none⟩)) ?_ (hK _ _ rfl (grown_refl W _))
          simp only [execOp, e6]
          try go_simp
          try (first | rfl | omega | (simp only [IntKind.wrap_i64, IntKind.wrap_u8, IntKind.wrap_u64, IntKind.wrap_u16, IntKind.wrap_u32]; omega) | (rw [Int.tmod_eq_emod_of_nonneg (by omega)]) | (rw [Int.tmod_eq_emod_of_nonneg (by omega)]; omega))
        · intro vs w6 hX6 hR
          have q0 := hR 0 (by decide)
          have q1 := hR 1 (by decide)
          have q2 := hR 2 (by decide)
          have q3 := hR 3 (by decide)
          have q4 := hR 4 (by decide)
          have q5 := hR 5 (by decide)
          have q6 := hR 6 (by decide)
          have q7 := hR 7 (by decide)
          have q8 := hR 8 (by decide)
          change vs 0 = .slice (some ⟨b, o, none⟩) n c at q0
          change vs 1 = .pointer (some ⟨b, o, none⟩) at q1
          change vs 2 = .pointer (some ⟨b, o + 1, none⟩) at q2
          change vs 3 = .int .u8 y.cls at q3
          change vs 4 = .pointer (some ⟨g, 1, none⟩) at q4
          change vs 5 = .int .u8 e.cls at q5
          change vs 6 = .bool p at q6
          change vs 7 = .int .u8 C at q7
          change vs 8 = .pointer (some ⟨g, 1, none⟩) at q8
          simp only [putAll, Act.put, List.setIfInBounds_toArray, List.set_cons_zero, List.set_cons_succ, List.take_succ_cons, List.take_zero, q0, q1, q2, q3, q4, q5, q6, q7, q8]
          clear q0 q1 q2 q3 q4 q5 q6 q7 q8
          clear hR
          have hb6 := bthen (below_drew w5) (grow_below hX6)
          have hk6 := HB.out.on hb6
          have z1 : w6.cell? ⟨g, 1, none⟩ = some (.int .u8 e.cls) := hk6.cell 1
          have y1 := hk6.frozen 1
          refine wp_skip (w' := w6.setCell ⟨g, 1, none⟩ (.int .u8 C)) (by simp only [execOp]; go_simp) ?_
          have hset : Blk (w6.setCell ⟨g, 1, none⟩ (.int .u8 C)) g 46 (Ent.cells ⟨e.label, C, e.bot, U - 1⟩) := hk6.set 1 (.int .u8 C)
          have hW7 := (bthen HW.out hb6).setCell (p := ⟨g, 1, none⟩) hgl (.int .u8 C)
          try simp only [List.getElem_toArray, List.getElem_cons_succ, List.getElem_cons_zero, Act.put, List.setIfInBounds_toArray, List.set_cons_zero, List.set_cons_succ]
          obtain ⟨w7, hw7⟩ : ∃ z, z = w6.setCell ⟨g, 1, none⟩ (.int .u8 C) := ⟨_, rfl⟩
          rw [← hw7] at hset hW7 ⊢
          replace HB := Lib.hid hset
          replace HW := Lib.hid hW7
          clear hset hW7 hw7 z1 y1 hk6 hb6 hX6
          go_wp2_with fail
          refine wp_region_rel (fun A B => A.grownBy B none) (fun A => grown_refl A _) (fun A B C h k => grown_trans h k) (relAt (List.cons (fun v _ => v = .agg (Ent.cells ⟨e.label, C, e.bot, U - 1⟩).toArray) (List.cons (fun v W => ∃ A' c', v = .slice A' 1 c' ∧ Row W W.heap.size 4 A' 1 (evs [⟨e.label, C, e.bot, U - 1⟩])) (List.cons (fun v _ => v = .slice (some ⟨b, o, none⟩) n c) (List.cons (fun v _ => v = .slice XA (n - 2) (c - 2)) (List.cons (fun v W => ∃ A' c', v = .slice A' (1 + (n - 2)) c' ∧ Own W w.heap.size 46 4 A' (1 + (n - 2)) c' (evs ([⟨e.label, C, e.bot, U - 1⟩] ++ r))) (List.cons (fun v W => ∃ A' c', v = .slice A' (1 + (n - 2)) c' ∧ Own W w.heap.size 46 4 A' (1 + (n - 2)) c' (evs ([⟨e.label, C, e.bot, U - 1⟩] ++ r))) (List.cons (fun v _ => v = .bool true) ([]))))))))) (MonoL.at_ (.cons (mono_val _) (.cons (fun _ _ _ ⟨A', c', hv, hr⟩ hg => ⟨A', c', hv, (hr.below (grow_below hg)).more hg.size⟩) (.cons (mono_val _) (.cons (mono_val _) (.cons (fun _ _ _ ⟨A', c', hv, hr⟩ hg => ⟨A', c', hv, hr.below (grow_below hg)⟩) (.cons (fun _ _ _ ⟨A', c', hv, hr⟩ hg => ⟨A', c', hv, hr.below (grow_below hg)⟩) (.cons (mono_val _) .nil)))))))) (by kernel_rfl) (by kernel_rfl) ⟨?_, ?_, ?_, ?_, ?_, ?_, ?_, trivial⟩ ?_
          · intro a vs W hX hR he hf K hK
            rw [if_pos (wanted_none rfl)]
            have e6 : a.eval (.tmp 6) = .pointer (some ⟨g, 0, none⟩) := hf 6 (by kernel_rfl)
            have hbW := bthen (below_drew _) (grow_below hX)
            exact wp_value (exec_load 46 _ rfl g e6 46 (Ent.cells ⟨e.label, C, e.bot, U - 1⟩) _ (HB.out.on hbW) Try.underlying46 rfl (sizeEnt _)) (hK _ _ rfl (grown_refl W _))
          · intro a vs W hX hR he hf K hK
            rw [if_pos (wanted_none rfl)]
            have e43 : a.eval (.tmp 43) = .agg (Ent.cells ⟨e.label, C, e.bot, U - 1⟩).toArray := (he 0 43 (by kernel_rfl) rfl).trans (hR 0 (by kernel_rfl))
            have f43 := e43
            simp only [Act.eval, Array.getD_eq_getD_getElem?] at f43
            refine wp_value (v := .slice (some ⟨W.heap.size, 0, none⟩) 1 1) (w' := W.alloc (.cells #[.int .i64 e.label, .int .u8 C, .bool e.bot, .int .u8 (U - 1)] 46)) ?_ (hK _ _ ⟨_, _, rfl, by rw [World.size_alloc]; exact Row.new (n := 1) (sz := 4) W #[.int .i64 e.label, .int .u8 C, .bool e.bot, .int .u8 (U - 1)] rfl⟩ (World.grownBy_alloc _ _ _))
            simp only [Ent.cells] at f43
            simp only [execOp, f43]
            go_simp
          · intro a vs W hX hR he hf K hK
            rw [if_pos (wanted_none rfl)]
            have e0 : a.eval (.tmp 0) = .slice (some ⟨b, o, none⟩) n c := hf 0 (by kernel_rfl)
            refine wp_value (v := .slice (some ⟨b, o, none⟩) n c) ?_ (hK _ _ rfl (grown_refl W _))
            simp only [execOp, e0]
            try go_simp
            try (first | rfl | omega | (simp only [IntKind.wrap_i64, IntKind.wrap_u8, IntKind.wrap_u64, IntKind.wrap_u16, IntKind.wrap_u32]; omega) | (rw [Int.tmod_eq_emod_of_nonneg (by omega)]) | (rw [Int.tmod_eq_emod_of_nonneg (by omega)]; omega))
          · intro a vs W hX hR he hf K hK
            rw [if_pos (wanted_none rfl)]
            have e45 : a.eval (.tmp 45) = .slice (some ⟨b, o, none⟩) n c := (he 2 45 (by kernel_rfl) rfl).trans (hR 2 (by kernel_rfl))
            have f45 := e45
            simp only [Act.eval, Array.getD_eq_getD_getElem?] at f45
            refine wp_value (v := _) ?_ (hK _ _ rfl (grown_refl W _))
            simp only [execOp, e45]
            have hn2i : (2 : Int) ≤ (n : Int) := by omega
            have hnci : ¬ (c : Int) < (n : Int) := by omega
            go_simp
            first | done | (rw [show (if c = 2 then (some ⟨b, o, none⟩ : Option Addr) else some ⟨b, o + 8, none⟩) = XA from HXA.out])
          · intro a vs W hX hR he hf K hK
            rw [if_pos (wanted_none rfl)]
            have e44 := he 1 44 (by kernel_rfl) rfl
            have p44 := hR 1 (by kernel_rfl)
            change (fun v W => ∃ A' c', v = .slice A' 1 c' ∧ Row W W.heap.size 4 A' 1 (evs [⟨e.label, C, e.bot, U - 1⟩])) (vs 1) W at p44
            have e46 : a.eval (.tmp 46) = .slice XA (n - 2) (c - 2) := (he 3 46 (by kernel_rfl) rfl).trans (hR 3 (by kernel_rfl))
            have hbW := bthen (below_drew _) (grow_below hX)
            obtain ⟨A', c', hv, hr⟩ := p44
            rw [hv] at e44
            refine wp_enter (f := 28) (args := #[.slice A' 1 c', .slice XA (n - 2) (c - 2)]) (by simp only [execOp, e44, e46]; go_simp; exact ⟨by simpa [Act.eval] using e44, by simpa [Act.eval] using e46⟩) ((on_any A' XA 1 c' (n - 2) (c - 2) [⟨e.label, C, e.bot, U - 1⟩] r W hr ((HC.out.below (bthen HW.out hbW)).more (bthen HW.out hbW).size) (by omega) (by omega)).mono ?_)
            rintro x w' ⟨A3, c3, rfl, hown, hb⟩
            exact ⟨_, rfl, hK _ _ ⟨A3, c3, rfl, hown.mono (bthen HW.out hbW).size⟩ (below_grow hb _)⟩
          · intro a vs W hX hR he hf K hK
            rw [if_pos (wanted_none rfl)]
            have e47 := he 4 47 (by kernel_rfl) rfl
            have p47 := hR 4 (by kernel_rfl)
            change (fun v W => ∃ A' c', v = .slice A' (1 + (n - 2)) c' ∧ Own W w.heap.size 46 4 A' (1 + (n - 2)) c' (evs ([⟨e.label, C, e.bot, U - 1⟩] ++ r))) (vs 4) W at p47
            refine wp_value (v := _) ?_ (hK _ _ p47 (grown_refl W _))
            simp only [execOp, e47]
            try go_simp
          · intro a vs W hX hR he hf K hK
            rw [if_pos (wanted_none rfl)]
            refine wp_value (v := .bool true) ?_ (hK _ _ rfl (grown_refl W _))
            simp only [execOp]
            try go_simp
            try (first | rfl | omega | (simp only [IntKind.wrap_i64, IntKind.wrap_u8, IntKind.wrap_u64, IntKind.wrap_u16, IntKind.wrap_u32]; omega) | (rw [Int.tmod_eq_emod_of_nonneg (by omega)]) | (rw [Int.tmod_eq_emod_of_nonneg (by omega)]; omega))
          · intro vs w8 hX8 hR
            have q0 := hR 0 (by decide)
            have q1 := hR 1 (by decide)
            have q2 := hR 2 (by decide)
            have q3 := hR 3 (by decide)
            have q4 := hR 4 (by decide)
            have q5 := hR 5 (by decide)
            have q6 := hR 6 (by decide)
            change vs 0 = .agg (Ent.cells ⟨e.label, C, e.bot, U - 1⟩).toArray at q0
            change (fun v W => ∃ A' c', v = .slice A' 1 c' ∧ Row W W.heap.size 4 A' 1 (evs [⟨e.label, C, e.bot, U - 1⟩])) (vs 1) w8 at q1
            change vs 2 = .slice (some ⟨b, o, none⟩) n c at q2
            change vs 3 = .slice XA (n - 2) (c - 2) at q3
            change (fun v W => ∃ A' c', v = .slice A' (1 + (n - 2)) c' ∧ Own W w.heap.size 46 4 A' (1 + (n - 2)) c' (evs ([⟨e.label, C, e.bot, U - 1⟩] ++ r))) (vs 4) w8 at q4
            change (fun v W => ∃ A' c', v = .slice A' (1 + (n - 2)) c' ∧ Own W w.heap.size 46 4 A' (1 + (n - 2)) c' (evs ([⟨e.label, C, e.bot, U - 1⟩] ++ r))) (vs 5) w8 at q5
            change vs 6 = .bool true at q6
            simp only [putAll, Act.put, List.setIfInBounds_toArray, List.set_cons_zero, List.set_cons_succ, q0, q2, q3, q6]
            clear q0 q2 q3 q6
            clear hR
            obtain ⟨A3, c3, hv3, hown3⟩ := q5
            rw [hv3]
            go_wp2_with fail
            go_ret2
            have hll : (⟨e.label, C, e.bot, U - 1⟩ :: r : List Ent).length = 1 + (n - 2) := by simp; omega
            exact ⟨A3, c3, by rw [HV2.out]; simp only [hll]; rfl, by rw [HV2.out]; simp only [hll]; exact hown3, bthen HW.out (bthen (below_drew _) (grow_below hX8))⟩
end Go.Proofs.Ytmpaockaeoknmaa

/- What the statements of layer 22 call: plain, same, small. No condition but sizes. -/
import Derived.Test.YtbabkcdhihmomaaX22j
import Derived.Deep.DeepCutAuto
namespace Go.Proofs.Ytbabkcdhihmomaa
open Go.RowKit
set_option linter.unusedVariables false
set_option maxRecDepth 20000
set_option linter.unusedSimpArgs false

theorem obs_snoc (l : List Ob) (x : Ob) : obs (l ++ [x]) = obs l ++ x.cells := by simp [obs]
set_option maxHeartbeats 4000000 in
theorem plain22_any (A : Option Addr) (n c : Nat) (l : List Xo) (w : World) (hr : Row w w.heap.size 3 A n (xos l)) (hok : ∀ x ∈ l, x.ok w) (hn : n ≤ 1000000000) :
    Calls Try.prog 11 #[.slice A n c] w fun e w' => ∃ A' c', e = .returned (.slice A' n c') ∧ Own w' w.heap.size 66 3 A' n c' (obs (l.map Xo.ob)) ∧ Below w.heap.size w w' := by
  have HL := Lib.hid (xo_len hr)
  have HR := Lib.hid hr
  have HOK := Lib.hid hok
  clear hr hok
  go_enter Try.func11, Try.ntmps11
  go_wp2_with fail
  go_loopw [3, 4] (fun v i wr => ∃ (k : Nat) (A2 : Option Addr) (c2 : Nat), k ≤ n ∧ i = .int .i64 (k : Nat) ∧ v = .slice A2 k c2 ∧ Own wr w.heap.size 66 3 A2 k c2 (obs ((l.take k).map Xo.ob)) ∧ Below w.heap.size w wr) (fun _ i _ => n - (intOf i).toNat)
  case atStart => exact ⟨0, none, 0, by omega, rfl, rfl, Own.nil _ _ _ _ _, Below.refl _ _⟩
  case round =>
    obtain ⟨k, A2, c2, hk, rfl, rfl, hown, hbe⟩ := hrel
    have HOB := Lib.hid hown
    have HBE := Lib.hid hbe
    clear hown hbe
    by_cases hlt : k < n
    · obtain ⟨x, hx⟩ : ∃ x, l[k]? = some x := ⟨_, List.getElem?_eq_getElem (by rw [HL.out]; omega)⟩
      obtain ⟨b, o, hA, hbb, a0, a1, a2⟩ := xo_row (HR.out.below HBE.out) k x hx
      subst hA
      have HXO := Lib.hid ((HOK.out x (List.mem_of_getElem? hx)).on HBE.out)
      have HX := Lib.hid hx
      have hbw : b < wr.heap.size := Nat.lt_of_lt_of_le hbb HBE.out.size
      have hkn : (k : Int) < (n : Int) := by omega
      clear hx hbb
      go_wp2_with fail
      refine (wpIn_wide (n := 3)).1 ?_
      refine wpIn_region_last2 19 (fun A B => A.grownBy B none) (fun A => grown_refl A _) (fun A B C h k => grown_trans h k) (relAt (List.cons (fun v _ => v = .slice A2 k c2) (List.cons (fun v _ => v = .slice (some ⟨b, o, none⟩) n c) (List.cons (fun v _ => v = .int .i64 (k : Int)) (List.cons (fun v _ => v = .pointer (some ⟨b, o + k * 3, none⟩)) (List.cons (fun v _ => v = .pointer (some ⟨b, o + k * 3, none⟩)) (List.cons (fun v _ => v = .int .u8 x.cls) (List.cons (fun v _ => v = .slice (some ⟨b, o, none⟩) n c) (List.cons (fun v _ => v = .int .i64 (k : Int)) (List.cons (fun v _ => v = .pointer (some ⟨b, o + k * 3, none⟩)) (List.cons (fun v _ => v = .pointer (some ⟨b, o + k * 3 + 1, none⟩)) (List.cons (fun v _ => v = .int .u8 x.kind) (List.cons (fun v _ => v = .slice (some ⟨b, o, none⟩) n c) (List.cons (fun v _ => v = .int .i64 (k : Int)) (List.cons (fun v _ => v = .pointer (some ⟨b, o + k * 3, none⟩)) (List.cons (fun v _ => v = .pointer (some ⟨b, o + k * 3 + 2, none⟩)) (List.cons (fun v _ => v = .slice x.A x.n x.c) (List.cons (fun v _ => v = str x.body) (List.cons (fun v _ => v = .agg (Ob.cells x.ob).toArray) (List.cons (fun v W => ∃ g, v = .slice (some ⟨g, 0, none⟩) 1 1 ∧ Row W W.heap.size 3 (some ⟨g, 0, none⟩) 1 (Ob.cells x.ob)) ([]))))))))))))))))))))) (MonoL.at_ (.cons (mono_val _) (.cons (mono_val _) (.cons (mono_val _) (.cons (mono_val _) (.cons (mono_val _) (.cons (mono_val _) (.cons (mono_val _) (.cons (mono_val _) (.cons (mono_val _) (.cons (mono_val _) (.cons (mono_val _) (.cons (mono_val _) (.cons (mono_val _) (.cons (mono_val _) (.cons (mono_val _) (.cons (mono_val _) (.cons (mono_val _) (.cons (mono_val _) (.cons (fun _ _ _ ⟨g, h1, h2⟩ k => ⟨g, h1, (h2.below (grow_below k)).more k.size⟩) .nil)))))))))))))))))))) (by kernel_rfl) (by kernel_rfl) rfl (by kernel_rfl) _ rfl rfl _ rfl rfl ⟨?_, ?_, ?_, ?_, ?_, ?_, ?_, ?_, ?_, ?_, ?_, ?_, ?_, ?_, ?_, ?_, ?_, ?_, ?_, trivial⟩ ?_
      · intro a vs W hX hR he hf K hK
        rw [if_pos (wanted_none rfl)]
        have e3 : a.eval (.tmp 3) = .slice A2 k c2 := hf 3 (by kernel_rfl)
        refine wp_value (v := .slice A2 k c2) ?_ (hK _ _ rfl (grown_refl W _))
        simp only [execOp, e3]
        try go_simp
        try (first | rfl | omega | (simp only [IntKind.wrap_i64, IntKind.wrap_u8, IntKind.wrap_u64, IntKind.wrap_u16, IntKind.wrap_u32]; omega) | (rw [Int.tmod_eq_emod_of_nonneg (by omega)]) | (rw [Int.tmod_eq_emod_of_nonneg (by omega)]; omega))
      · intro a vs W hX hR he hf K hK
        rw [if_pos (wanted_none rfl)]
        have e0 : a.eval (.tmp 0) = .slice (some ⟨b, o, none⟩) n c := hf 0 (by kernel_rfl)
        refine wp_value (v := .slice (some ⟨b, o, none⟩) n c) ?_ (hK _ _ rfl (grown_refl W _))
        simp only [execOp, e0]
        try go_simp
        try (first | rfl | omega | (simp only [IntKind.wrap_i64, IntKind.wrap_u8, IntKind.wrap_u64, IntKind.wrap_u16, IntKind.wrap_u32]; omega) | (rw [Int.tmod_eq_emod_of_nonneg (by omega)]) | (rw [Int.tmod_eq_emod_of_nonneg (by omega)]; omega))
      · intro a vs W hX hR he hf K hK
        rw [if_pos (wanted_none rfl)]
        have e4 : a.eval (.tmp 4) = .int .i64 (k : Int) := hf 4 (by kernel_rfl)
        refine wp_value (v := .int .i64 (k : Int)) ?_ (hK _ _ rfl (grown_refl W _))
        simp only [execOp, e4]
        try go_simp
        try (first | rfl | omega | (simp only [IntKind.wrap_i64, IntKind.wrap_u8, IntKind.wrap_u64, IntKind.wrap_u16, IntKind.wrap_u32]; omega) | (rw [Int.tmod_eq_emod_of_nonneg (by omega)]) | (rw [Int.tmod_eq_emod_of_nonneg (by omega)]; omega))
      · intro a vs W hX hR he hf K hK
        rw [if_pos (wanted_none rfl)]
        have e12 : a.eval (.tmp 12) = .slice (some ⟨b, o, none⟩) n c := (he 1 12 (by kernel_rfl) rfl).trans (hR 1 (by kernel_rfl))
        have e13 : a.eval (.tmp 13) = .int .i64 (k : Int) := (he 2 13 (by kernel_rfl) rfl).trans (hR 2 (by kernel_rfl))
        refine wp_value (v := .pointer (some ⟨b, o + k * 3, none⟩)) ?_ (hK _ _ rfl (grown_refl W _))
        simp only [execOp, e12, e13]
        try go_simp
        try (first | rfl | omega | (simp only [IntKind.wrap_i64, IntKind.wrap_u8, IntKind.wrap_u64, IntKind.wrap_u16, IntKind.wrap_u32]; omega) | (rw [Int.tmod_eq_emod_of_nonneg (by omega)]) | (rw [Int.tmod_eq_emod_of_nonneg (by omega)]; omega))
      · intro a vs W hX hR he hf K hK
        rw [if_pos (wanted_none rfl)]
        have e14 : a.eval (.tmp 14) = .pointer (some ⟨b, o + k * 3, none⟩) := (he 3 14 (by kernel_rfl) rfl).trans (hR 3 (by kernel_rfl))
        refine wp_value (v := .pointer (some ⟨b, o + k * 3, none⟩)) ?_ (hK _ _ rfl (grown_refl W _))
        simp only [execOp, e14]
        try go_simp
        try (first | rfl | omega | (simp only [IntKind.wrap_i64, IntKind.wrap_u8, IntKind.wrap_u64, IntKind.wrap_u16, IntKind.wrap_u32]; omega) | (rw [Int.tmod_eq_emod_of_nonneg (by omega)]) | (rw [Int.tmod_eq_emod_of_nonneg (by omega)]; omega))
      · intro a vs W hX hR he hf K hK
        rw [if_pos (wanted_none rfl)]
        have e15 : a.eval (.tmp 15) = .pointer (some ⟨b, o + k * 3, none⟩) := (he 4 15 (by kernel_rfl) rfl).trans (hR 4 (by kernel_rfl))
        have hbW := bthen (below_drew _) (grow_below hX)
        have hc : W.cell? ⟨b, o + k * 3, none⟩ = some (.int .u8 x.cls) := (hbW.cell (p := ⟨b, o + k * 3, none⟩) hbw).trans a0
        refine wp_value (v := _) ?_ (hK _ _ rfl (grown_refl W _))
        simp only [execOp, e15]
        go_simp
      · intro a vs W hX hR he hf K hK
        rw [if_pos (wanted_none rfl)]
        have e0 : a.eval (.tmp 0) = .slice (some ⟨b, o, none⟩) n c := hf 0 (by kernel_rfl)
        refine wp_value (v := .slice (some ⟨b, o, none⟩) n c) ?_ (hK _ _ rfl (grown_refl W _))
        simp only [execOp, e0]
        try go_simp
        try (first | rfl | omega | (simp only [IntKind.wrap_i64, IntKind.wrap_u8, IntKind.wrap_u64, IntKind.wrap_u16, IntKind.wrap_u32]; omega) | (rw [Int.tmod_eq_emod_of_nonneg (by omega)]) | (rw [Int.tmod_eq_emod_of_nonneg (by omega)]; omega))
      · intro a vs W hX hR he hf K hK
        rw [if_pos (wanted_none rfl)]
        have e4 : a.eval (.tmp 4) = .int .i64 (k : Int) := hf 4 (by kernel_rfl)
        refine wp_value (v := .int .i64 (k : Int)) ?_ (hK _ _ rfl (grown_refl W _))
        simp only [execOp, e4]
        try go_simp
        try (first | rfl | omega | (simp only [IntKind.wrap_i64, IntKind.wrap_u8, IntKind.wrap_u64, IntKind.wrap_u16, IntKind.wrap_u32]; omega) | (rw [Int.tmod_eq_emod_of_nonneg (by omega)]) | (rw [Int.tmod_eq_emod_of_nonneg (by omega)]; omega))
      · intro a vs W hX hR he hf K hK
        rw [if_pos (wanted_none rfl)]
        have e17 : a.eval (.tmp 17) = .slice (some ⟨b, o, none⟩) n c := (he 6 17 (by kernel_rfl) rfl).trans (hR 6 (by kernel_rfl))
        have e18 : a.eval (.tmp 18) = .int .i64 (k : Int) := (he 7 18 (by kernel_rfl) rfl).trans (hR 7 (by kernel_rfl))
        refine wp_value (v := .pointer (some ⟨b, o + k * 3, none⟩)) ?_ (hK _ _ rfl (grown_refl W _))
        simp only [execOp, e17, e18]
        try go_simp
        try (first | rfl | omega | (simp only [IntKind.wrap_i64, IntKind.wrap_u8, IntKind.wrap_u64, IntKind.wrap_u16, IntKind.wrap_u32]; omega) | (rw [Int.tmod_eq_emod_of_nonneg (by omega)]) | (rw [Int.tmod_eq_emod_of_nonneg (by omega)]; omega))
      · intro a vs W hX hR he hf K hK
        rw [if_pos (wanted_none rfl)]
        have e19 : a.eval (.tmp 19) = .pointer (some ⟨b, o + k * 3, none⟩) := (he 8 19 (by kernel_rfl) rfl).trans (hR 8 (by kernel_rfl))
        refine wp_value (v := .pointer (some ⟨b, o + k * 3 + 1, none⟩)) ?_ (hK _ _ rfl (grown_refl W _))
        simp only [execOp, e19]
        try go_simp
        try (first | rfl | omega | (simp only [IntKind.wrap_i64, IntKind.wrap_u8, IntKind.wrap_u64, IntKind.wrap_u16, IntKind.wrap_u32]; omega) | (rw [Int.tmod_eq_emod_of_nonneg (by omega)]) | (rw [Int.tmod_eq_emod_of_nonneg (by omega)]; omega))
      · intro a vs W hX hR he hf K hK
        rw [if_pos (wanted_none rfl)]
        have e20 : a.eval (.tmp 20) = .pointer (some ⟨b, o + k * 3 + 1, none⟩) := (he 9 20 (by kernel_rfl) rfl).trans (hR 9 (by kernel_rfl))
        have hbW := bthen (below_drew _) (grow_below hX)
        have hc : W.cell? ⟨b, o + k * 3 + 1, none⟩ = some (.int .u8 x.kind) := (hbW.cell (p := ⟨b, o + k * 3 + 1, none⟩) hbw).trans a1
        refine wp_value (v := _) ?_ (hK _ _ rfl (grown_refl W _))
        simp only [execOp, e20]
        go_simp
      · intro a vs W hX hR he hf K hK
        rw [if_pos (wanted_none rfl)]
        have e0 : a.eval (.tmp 0) = .slice (some ⟨b, o, none⟩) n c := hf 0 (by kernel_rfl)
        refine wp_value (v := .slice (some ⟨b, o, none⟩) n c) ?_ (hK _ _ rfl (grown_refl W _))
        simp only [execOp, e0]
        try go_simp
        try (first | rfl | omega | (simp only [IntKind.wrap_i64, IntKind.wrap_u8, IntKind.wrap_u64, IntKind.wrap_u16, IntKind.wrap_u32]; omega) | (rw [Int.tmod_eq_emod_of_nonneg (by omega)]) | (rw [Int.tmod_eq_emod_of_nonneg (by omega)]; omega))
      · intro a vs W hX hR he hf K hK
        rw [if_pos (wanted_none rfl)]
        have e4 : a.eval (.tmp 4) = .int .i64 (k : Int) := hf 4 (by kernel_rfl)
        refine wp_value (v := .int .i64 (k : Int)) ?_ (hK _ _ rfl (grown_refl W _))
        simp only [execOp, e4]
        try go_simp
        try (first | rfl | omega | (simp only [IntKind.wrap_i64, IntKind.wrap_u8, IntKind.wrap_u64, IntKind.wrap_u16, IntKind.wrap_u32]; omega) | (rw [Int.tmod_eq_emod_of_nonneg (by omega)]) | (rw [Int.tmod_eq_emod_of_nonneg (by omega)]; omega))
      · intro a vs W hX hR he hf K hK
        rw [if_pos (wanted_none rfl)]
        have e22 : a.eval (.tmp 22) = .slice (some ⟨b, o, none⟩) n c := (he 11 22 (by kernel_rfl) rfl).trans (hR 11 (by kernel_rfl))
        have e23 : a.eval (.tmp 23) = .int .i64 (k : Int) := (he 12 23 (by kernel_rfl) rfl).trans (hR 12 (by kernel_rfl))
        refine wp_value (v := .pointer (some ⟨b, o + k * 3, none⟩)) ?_ (hK _ _ rfl (grown_refl W _))
        simp only [execOp, e22, e23]
        try go_simp
        try (first | rfl | omega | (simp only [IntKind.wrap_i64, IntKind.wrap_u8, IntKind.wrap_u64, IntKind.wrap_u16, IntKind.wrap_u32]; omega) | (rw [Int.tmod_eq_emod_of_nonneg (by omega)]) | (rw [Int.tmod_eq_emod_of_nonneg (by omega)]; omega))
      · intro a vs W hX hR he hf K hK
        rw [if_pos (wanted_none rfl)]
        have e24 : a.eval (.tmp 24) = .pointer (some ⟨b, o + k * 3, none⟩) := (he 13 24 (by kernel_rfl) rfl).trans (hR 13 (by kernel_rfl))
        refine wp_value (v := .pointer (some ⟨b, o + k * 3 + 2, none⟩)) ?_ (hK _ _ rfl (grown_refl W _))
        simp only [execOp, e24]
        try go_simp
        try (first | rfl | omega | (simp only [IntKind.wrap_i64, IntKind.wrap_u8, IntKind.wrap_u64, IntKind.wrap_u16, IntKind.wrap_u32]; omega) | (rw [Int.tmod_eq_emod_of_nonneg (by omega)]) | (rw [Int.tmod_eq_emod_of_nonneg (by omega)]; omega))
      · intro a vs W hX hR he hf K hK
        rw [if_pos (wanted_none rfl)]
        have e25 : a.eval (.tmp 25) = .pointer (some ⟨b, o + k * 3 + 2, none⟩) := (he 14 25 (by kernel_rfl) rfl).trans (hR 14 (by kernel_rfl))
        have hbW := bthen (below_drew _) (grow_below hX)
        have hc : W.cell? ⟨b, o + k * 3 + 2, none⟩ = some (.slice x.A x.n x.c) := (hbW.cell (p := ⟨b, o + k * 3 + 2, none⟩) hbw).trans a2
        refine wp_value (v := _) ?_ (hK _ _ rfl (grown_refl W _))
        simp only [execOp, e25]
        go_simp
      · intro a vs W hX hR he hf K hK
        rw [if_pos (wanted_none rfl)]
        have e26 : a.eval (.tmp 26) = .slice x.A x.n x.c := (he 15 26 (by kernel_rfl) rfl).trans (hR 15 (by kernel_rfl))
        have hbW := bthen (below_drew _) (grow_below hX)
        have ho9 := HXO.out.on hbW
        exact wp_value (exec_str 26 9 5 _ rfl Try.underlying26 Try.underlying5 Try.underlying9 x.A x.n x.c x.body e26 ⟨ho9.row, ho9.le, ho9.cap⟩) (hK _ _ rfl (grown_refl W _))
      · intro a vs W hX hR he hf K hK
        rw [if_pos (wanted_none rfl)]
        have e16 : a.eval (.tmp 16) = .int .u8 x.cls := (he 5 16 (by kernel_rfl) rfl).trans (hR 5 (by kernel_rfl))
        have e21 : a.eval (.tmp 21) = .int .u8 x.kind := (he 10 21 (by kernel_rfl) rfl).trans (hR 10 (by kernel_rfl))
        have e27 : a.eval (.tmp 27) = str x.body := (he 16 27 (by kernel_rfl) rfl).trans (hR 16 (by kernel_rfl))
        have f16 := e16
        simp only [Act.eval, Array.getD_eq_getD_getElem?] at f16
        have f21 := e21
        simp only [Act.eval, Array.getD_eq_getD_getElem?] at f21
        have f27 := e27
        simp only [Act.eval, Array.getD_eq_getD_getElem?] at f27
        refine wp_value (v := .agg (Ob.cells x.ob).toArray) ?_ (hK _ _ rfl (grown_refl W _))
        simp only [execOp, f16, f21, f27, e16, e21, e27, Ob.cells, Xo.ob]
        go_simp
      · intro a vs W hX hR he hf K hK
        rw [if_pos (wanted_none rfl)]
        have e28 : a.eval (.tmp 28) = .agg (Ob.cells x.ob).toArray := (he 17 28 (by kernel_rfl) rfl).trans (hR 17 (by kernel_rfl))
        have f28 := e28
        simp only [Act.eval, Array.getD_eq_getD_getElem?] at f28
        simp only [Ob.cells, Xo.ob] at e28 f28
        refine wp_value (v := .slice (some ⟨W.heap.size, 0, none⟩) 1 1) (w' := W.alloc (.cells (Ob.cells x.ob).toArray 66)) ?_ (hK _ _ ⟨_, rfl, by rw [World.size_alloc]; exact Row.new (n := 1) (sz := 3) W _ rfl⟩ (World.grownBy_alloc _ _ _))
        simp only [execOp, e28, f28, Ob.cells, Xo.ob]
        go_simp
      · intro vs W2 hX2 hR
        have q0 := hR 0 (by decide)
        have q1 := hR 1 (by decide)
        have q2 := hR 2 (by decide)
        have q3 := hR 3 (by decide)
        have q4 := hR 4 (by decide)
        have q5 := hR 5 (by decide)
        have q6 := hR 6 (by decide)
        have q7 := hR 7 (by decide)
        have q8 := hR 8 (by decide)
        have q9 := hR 9 (by decide)
        have q10 := hR 10 (by decide)
        have q11 := hR 11 (by decide)
        have q12 := hR 12 (by decide)
        have q13 := hR 13 (by decide)
        have q14 := hR 14 (by decide)
        have q15 := hR 15 (by decide)
        have q16 := hR 16 (by decide)
        have q17 := hR 17 (by decide)
        have q18 := hR 18 (by decide)
        change vs 0 = .slice A2 k c2 at q0
        change vs 1 = .slice (some ⟨b, o, none⟩) n c at q1
        change vs 2 = .int .i64 (k : Int) at q2
        change vs 3 = .pointer (some ⟨b, o + k * 3, none⟩) at q3
        change vs 4 = .pointer (some ⟨b, o + k * 3, none⟩) at q4
        change vs 5 = .int .u8 x.cls at q5
        change vs 6 = .slice (some ⟨b, o, none⟩) n c at q6
        change vs 7 = .int .i64 (k : Int) at q7
        change vs 8 = .pointer (some ⟨b, o + k * 3, none⟩) at q8
        change vs 9 = .pointer (some ⟨b, o + k * 3 + 1, none⟩) at q9
        change vs 10 = .int .u8 x.kind at q10
        change vs 11 = .slice (some ⟨b, o, none⟩) n c at q11
        change vs 12 = .int .i64 (k : Int) at q12
        change vs 13 = .pointer (some ⟨b, o + k * 3, none⟩) at q13
        change vs 14 = .pointer (some ⟨b, o + k * 3 + 2, none⟩) at q14
        change vs 15 = .slice x.A x.n x.c at q15
        change vs 16 = str x.body at q16
        change vs 17 = .agg (Ob.cells x.ob).toArray at q17
        change (fun v W => ∃ g, v = .slice (some ⟨g, 0, none⟩) 1 1 ∧ Row W W.heap.size 3 (some ⟨g, 0, none⟩) 1 (Ob.cells x.ob)) (vs 18) W2 at q18
        simp only [putAll, Act.put, List.setIfInBounds_toArray, List.set_cons_zero, List.set_cons_succ, List.take_succ_cons, List.take_zero, q0, q1, q2, q3, q4, q5, q6, q7, q8, q9, q10, q11, q12, q13, q14, q15, q16, q17]
        clear q0 q1 q2 q3 q4 q5 q6 q7 q8 q9 q10 q11 q12 q13 q14 q15 q16 q17
        clear hR
        obtain ⟨g2, hv2, hrow2⟩ := q18
        rw [hv2]
        have hbW := bthen (below_drew _) (grow_below hX2)
        refine wpIn_of_wp (wp_append_Own _ _ 32 rfl w.heap.size 66 _ 3 24 Try.underlying32 infoOb rfl (by decide) A2 k c2 _ rfl (HOB.out.below hbW) _ _ 1 1 _ rfl hrow2 (by intro u hu; simp [Ob.cells, Xo.ob] at hu; rcases hu with rfl | rfl | rfl <;> rfl) (by simp only [maxLen]; omega) (by omega) (by have h1 := hbW.size; have h2 := HBE.out.size; omega) ?_)
        intro A5 c5 w5 hown5 hg5
        refine wpIn_of_wp (wp_value (v := .slice A5 (k + 1) c5) (w' := w5) (by simp only [execOp]; go_simp) ?_)
        try simp only [List.getElem_toArray, List.getElem_cons_succ, List.getElem_cons_zero, Act.put, List.setIfInBounds_toArray, List.set_cons_zero, List.set_cons_succ]
        go_wp2_with fail
        go_roundw
        case rel =>
          refine ⟨k + 1, A5, c5, by omega, by simp, rfl, ?_, ?_⟩
          · rw [take_snoc l k x HX.out, List.map_append, show [x].map Xo.ob = [x.ob] from rfl, obs_snoc]
            exact hown5
          · exact bgrown' (HBE.out.trans (hbW.mono HBE.out.size)) hg5 (by have h1 := hbW.size; have h2 := HBE.out.size; omega) (fun g hg => (HOB.out.lt g hg).1)
        case measure => simp [intOf]; omega
    · have hkn : ¬ (k : Int) < (n : Int) := by omega
      obtain rfl : k = n := by omega
      go_wp2_with fail
      go_ret
      refine ⟨A2, c2, rfl, ?_, HBE.out⟩
      have := HOB.out
      rw [← HL.out, List.take_length] at this
      rw [← HL.out]
      exact this

set_option maxHeartbeats 2000000 in
theorem small22_any (A : Option Addr) (n c : Nat) (l : List Xo) (w : World) (hr : Row w w.heap.size 3 A n (xos l)) (hok : ∀ x ∈ l, x.ok w) (hn : n ≤ maxLen) :
    Calls Try.prog 8 #[.slice A n c] w fun e w' => e = .returned (.bool (l.all (fun x => decide (x.n ≤ 1100)) && decide (n ≤ 10))) ∧ w' = w := by
  have HL := Lib.hid (xo_len hr)
  have HR := Lib.hid hr
  have HOK := Lib.hid hok
  unfold maxLen at hn
  clear hr hok
  go_enter Try.func8, Try.ntmps8
  go_wp2_with fail
  go_loop [3] (fun i => ∃ (k : Nat), k ≤ n ∧ i = .int .i64 (k : Nat) ∧ ∀ (j : Nat) (x : Xo), j < k → l[j]? = some x → x.n ≤ 1100) (fun i => n - (intOf i).toNat)
  case atStart => exact ⟨0, by omega, rfl, fun j x h => by omega⟩
  case round =>
    obtain ⟨k, hk, rfl, hall⟩ := hrel
    have HA := Lib.hid hall
    clear hall
    by_cases hlt : k < n
    · obtain ⟨x, hx⟩ : ∃ x, l[k]? = some x := ⟨_, List.getElem?_eq_getElem (by rw [HL.out]; omega)⟩
      obtain ⟨b, o, hA, hbb, a0, a1, a2⟩ := xo_row HR.out k x hx
      subst hA
      have hkn : (k : Int) < (n : Int) := by omega
      have HX := Lib.hid hx
      have hxc := (HOK.out x (List.mem_of_getElem? hx)).le
      have hxm := (HOK.out x (List.mem_of_getElem? hx)).cap
      unfold maxLen at hxm
      clear hx
      by_cases hb : x.n ≤ 1100
      · have hbi : ¬ (1100 : Int) < (x.n : Int) := by omega
        go_wp2_with fail
        go_round
        case rel => exact ⟨k + 1, by omega, by simp, fun j y hj hy => by
          rcases Nat.lt_or_ge j k with h | h
          · exact HA.out j y h hy
          · obtain rfl : j = k := by omega
            rw [HX.out] at hy
            injection hy with hy
            subst hy
            exact hb⟩
        case measure => simp [intOf]; omega
      · have hbi : (1100 : Int) < (x.n : Int) := by omega
        go_wp2_with fail
        go_ret
        refine ⟨ret_bool ?_, rfl⟩
        have : l.all (fun x => decide (x.n ≤ 1100)) = false := by
          rw [Bool.eq_false_iff]
          intro h
          rw [List.all_eq_true] at h
          have := h x (List.mem_of_getElem? HX.out)
          simp at this
          omega
        rw [this]
        rfl
    · have hkn : ¬ (k : Int) < (n : Int) := by omega
      obtain rfl : k = n := by omega
      go_wp2_with fail
      go_ret
      refine ⟨ret_bool ?_, rfl⟩
      have : l.all (fun x => decide (x.n ≤ 1100)) = true := by
        rw [List.all_eq_true]
        intro x hx
        obtain ⟨j, hj, he⟩ := List.mem_iff_getElem.1 hx
        exact decide_eq_true (HA.out j x (by rw [← HL.out]; exact hj) (by rw [List.getElem?_eq_getElem hj, he]))
      rw [this]
      by_cases h10 : k ≤ 10
      · rw [decide_eq_true h10, decide_eq_true (by omega)]; rfl
      · rw [decide_eq_false h10, decide_eq_false (by omega)]; rfl

theorem infoObU : Try.prog.underlying 66 = Try.prog.underlying 66 := rfl
end Go.Proofs.Ytbabkcdhihmomaa

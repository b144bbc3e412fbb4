/- Texts of this claim put together, in build order: each one's own remark stands ahead of it. -/
import Derived.Test.YtdmgomknamdcfaaG02
import Derived.Test.YtdmgomknamdcfaaG27
import Derived.Test.YtdmgomknamdcfaaG11
import Derived.Deep.DeepCutAuto
/- slices.swapRangeCmpFunc, rotateCmpFunc: two stretches of a row of items change places. No condition but sizes. -/
namespace Go.Proofs.Ytdmgomknamdcfaa
open Go.RowKit
set_option linter.unusedVariables false
set_option maxRecDepth 20000
set_option linter.unusedSimpArgs false

set_option maxHeartbeats 4000000 in
theorem swaprange_any (base : Nat) (A : Option Addr) (n c : Nat) (d : Nat → Itm) (lo lp m : Nat) (hn : n ≤ 1000000) (hl : lo + m ≤ lp) (hh : lp + m ≤ n) (fv : Value) (w : World) (hR : Rd w base A n c d) :
  Calls Try.prog 84 #[.slice A n c, .int .i64 (lo : Nat), .int .i64 (lp : Nat), .int .i64 (m : Nat), fv] w fun e w' => e = .returned (.tuple #[]) ∧ Rd w' base A n c (fun k => d (swpI lo lp m k)) ∧ Kept (blkS A c) w w' := by
 have HR0 := Hh hR
 have HN := Hh hn
 clear hR
 go_enter Try.func84, Try.ntmps84
 go_wp2_with fail
 go_loopw [10] (fun s10 wr => ∃ (i : Nat), i ≤ m ∧ s10 = .int .i64 (i : Nat) ∧ Rd wr base A n c (fun k => d (swpI lo lp i k)) ∧ Kept (blkS A c) w wr) (fun s10 _ => m - (intOf s10).toNat)
 case atStart => exact ⟨0, Nat.zero_le _, rfl, HR0.out.congr (fun k _ => by rw [show swpI lo lp 0 k = k by unfold swpI; rw [if_neg (by omega), if_neg (by omega)]]), Kept.refl _ _⟩
 case round =>
  obtain ⟨i, hi, rfl, hR, hk⟩ := hrel
  have HR := Hh hR
  have HK0 := Hh hk
  clear hR hk
  by_cases hlt : i < m
  ·obtain ⟨p, hp⟩ : ∃ p, lo + i = p := ⟨_, rfl⟩
   obtain ⟨q, hq⟩ : ∃ q, lp + i = q := ⟨_, rfl⟩
   have HP := Hh (show (lo : Int) + (i : Int) = (p : Int) by omega)
   have HQ := Hh (show (lp : Int) + (i : Int) = (q : Int) by omega)
   have HPN := Hh hp
   have HQN := Hh hq
   obtain ⟨g, rfl, hgS, hgb, hgl⟩ := HR.out.at_ (k := q) (by omega)
   have HGS := Hh hgS
   obtain ⟨x, hx⟩ : ∃ x, d (swpI lo lp i p) = x := ⟨_, rfl⟩
   obtain ⟨y, hy⟩ : ∃ y, d (swpI lo lp i q) = y := ⟨_, rfl⟩
   have h1 := HR.out.cells (k := p) (by omega)
   have h2 := HR.out.cells (k := q) (by omega)
   have h3 := HR.out.fit p (by omega)
   have h4 := HR.out.fit q (by omega)
   simp only [hx, hy] at h1 h2 h3 h4
   have HXC := Hh h1
   have HYC := Hh h2
   have HXF := Hh h3
   have HYF := Hh h4
   have HX := Hh hx
   have HY := Hh hy
   have HGL := Hh hgl
   have hlt2 : (i : Int) < (m : Int) := by omega
   have hlt3 : (i : Int) ≤ 1000000 := by omega
   have hp6 : (p : Int) < (n : Int) := by omega
   have hq6 : (q : Int) < (n : Int) := by omega
   have hn6 : (n : Int) ≤ 1000000 := by omega
   clear hgS hgb hgl h1 h2 h3 h4 hx hy
   go_wp2_with fail
   refine wp_region_mid 21 23 [true, true, true, true, true, true, true, true, true, true, true, true, true, true, true, true, true, true, true, true, true, true, true] (fun _ => True) (fun _ W => Own W base 35 19 (some ⟨g, 0, none⟩) n c ((its (rowD n (fun k => d (swpI lo lp i k)))).take (p * 19) ++ itC y ++ (its (rowD n (fun k => d (swpI lo lp i k)))).drop (p * 19 + (itC y).length)) ∧ Kept (blkS (some ⟨g, 0, none⟩) c) wr W) (fun A B => A.grownBy B none) (fun A => grown_refl A _) (fun A B C h k => grown_trans h k) (relAt (List.cons (fun v _ => v = .slice (some ⟨g, 0, none⟩) n c) (List.cons (fun v _ => v = .int .i64 (lo : Nat)) (List.cons (fun v _ => v = .int .i64 (i : Nat)) (List.cons (fun v _ => v = .int .i64 (p : Nat)) (List.cons (fun v _ => v = .slice (some ⟨g, 0, none⟩) n c) (List.cons (fun v _ => v = .int .i64 (lp : Nat)) (List.cons (fun v _ => v = .int .i64 (i : Nat)) (List.cons (fun v _ => v = .int .i64 (q : Nat)) (List.cons (fun v _ => v = .slice (some ⟨g, 0, none⟩) n c) (List.cons (fun v _ => v = .int .i64 (lp : Nat)) (List.cons (fun v _ => v = .int .i64 (i : Nat)) (List.cons (fun v _ => v = .int .i64 (q : Nat)) (List.cons (fun v _ => v = .pointer (some ⟨g, q * 19, none⟩)) (List.cons (fun v _ => v = .agg (itC y).toArray) (List.cons (fun v _ => v = .slice (some ⟨g, 0, none⟩) n c) (List.cons (fun v _ => v = .int .i64 (lo : Nat)) (List.cons (fun v _ => v = .int .i64 (i : Nat)) (List.cons (fun v _ => v = .int .i64 (p : Nat)) (List.cons (fun v _ => v = .pointer (some ⟨g, p * 19, none⟩)) (List.cons (fun v _ => v = .agg (itC x).toArray) (List.cons (fun v _ => v = .pointer (some ⟨g, p * 19, none⟩)) (List.cons (fun _ _ => True) (List.cons (fun v _ => v = .pointer (some ⟨g, q * 19, none⟩)) ([]))))))))))))))))))))))))) (MonoL.at_ (.cons (mono_val _) (.cons (mono_val _) (.cons (mono_val _) (.cons (mono_val _) (.cons (mono_val _) (.cons (mono_val _) (.cons (mono_val _) (.cons (mono_val _) (.cons (mono_val _) (.cons (mono_val _) (.cons (mono_val _) (.cons (mono_val _) (.cons (mono_val _) (.cons (mono_val _) (.cons (mono_val _) (.cons (mono_val _) (.cons (mono_val _) (.cons (mono_val _) (.cons (mono_val _) (.cons (mono_val _) (.cons (mono_val _) (.cons ((fun _ _ _ h _ => h)) (.cons (mono_val _) .nil)))))))))))))))))))))))) (ConstL.at_ (.cons (fun _ _ _ h => h) (.cons (fun _ _ _ h => h) (.cons (fun _ _ _ h => h) (.cons (fun _ _ _ h => h) (.cons (fun _ _ _ h => h) (.cons (fun _ _ _ h => h) (.cons (fun _ _ _ h => h) (.cons (fun _ _ _ h => h) (.cons (fun _ _ _ h => h) (.cons (fun _ _ _ h => h) (.cons (fun _ _ _ h => h) (.cons (fun _ _ _ h => h) (.cons (fun _ _ _ h => h) (.cons (fun _ _ _ h => h) (.cons (fun _ _ _ h => h) (.cons (fun _ _ _ h => h) (.cons (fun _ _ _ h => h) (.cons (fun _ _ _ h => h) (.cons (fun _ _ _ h => h) (.cons (fun _ _ _ h => h) (.cons (fun _ _ _ h => h) (.cons (fun _ _ _ h => h) (.cons (fun _ _ _ h => h) .nil)))))))))))))))))))))))) (fun v W h => True.intro) (fun W hX => True.intro) (fun v W h => True.intro) (by kernel_rfl) (by kernel_rfl) rfl (by decide) (by kernel_rfl) (by kernel_rfl) _ rfl rfl ⟨?_, ?_, ?_, ?_, ?_, ?_, ?_, ?_, ?_, ?_, ?_, ?_, ?_, ?_, ?_, ?_, ?_, ?_, ?_, ?_, ?_, ?_, ?_, trivial⟩ ?_
   ·refine stepM_anc ?_ ?_ ?_
    ·rfl
    ·kernel_rfl
    intro a vs W hX hR he hf K hK
    refine wn rfl ?_
    have e0 : a.eval (.tmp 0) = .slice (some ⟨g, 0, none⟩) n c := hf 0 (by kernel_rfl)
    refine wV hK rfl ?_
    simp only [execOp, e0]
    try go_simp
   ·refine stepM_anc ?_ ?_ ?_
    ·rfl
    ·kernel_rfl
    intro a vs W hX hR he hf K hK
    refine wn rfl ?_
    have e1 : a.eval (.tmp 1) = .int .i64 (lo : Nat) := hf 1 (by kernel_rfl)
    refine wV hK rfl ?_
    simp only [execOp, e1]
    try go_simp
   ·refine stepM_anc ?_ ?_ ?_
    ·rfl
    ·kernel_rfl
    intro a vs W hX hR he hf K hK
    refine wn rfl ?_
    have e10 : a.eval (.tmp 10) = .int .i64 (i : Nat) := hf 10 (by kernel_rfl)
    refine wV hK rfl ?_
    simp only [execOp, e10]
    try go_simp
   ·refine stepM_anc ?_ ?_ ?_
    ·rfl
    ·kernel_rfl
    intro a vs W hX hR he hf K hK
    refine wn rfl ?_
    have e17 : a.eval (.tmp 17) = .int .i64 (lo : Nat) := eH he hR 1 (by kernel_rfl) rfl
    have e18 : a.eval (.tmp 18) = .int .i64 (i : Nat) := eH he hR 2 (by kernel_rfl) rfl
    refine wV hK rfl ?_
    rw [← HP.out]
    simp only [execOp, e17, e18]
    go_simp
    simp only [IntKind.wrap_i64]
    omega
   ·refine stepM_calm ?_ ?_ ?_
    ·rfl
    ·kernel_rfl
    intro a vs W hS hR he hf K hK
    refine wn rfl ?_
    have e0 : a.eval (.tmp 0) = .slice (some ⟨g, 0, none⟩) n c := hf 0 (by kernel_rfl)
    refine wp_value (v := .slice (some ⟨g, 0, none⟩) n c) ?_ (hK _ rfl)
    simp only [execOp, e0]
    try go_simp
   ·refine stepM_calm ?_ ?_ ?_
    ·rfl
    ·kernel_rfl
    intro a vs W hS hR he hf K hK
    refine wn rfl ?_
    have e2 : a.eval (.tmp 2) = .int .i64 (lp : Nat) := hf 2 (by kernel_rfl)
    refine wp_value (v := .int .i64 (lp : Nat)) ?_ (hK _ rfl)
    simp only [execOp, e2]
    try go_simp
   ·refine stepM_calm ?_ ?_ ?_
    ·rfl
    ·kernel_rfl
    intro a vs W hS hR he hf K hK
    refine wn rfl ?_
    have e10 : a.eval (.tmp 10) = .int .i64 (i : Nat) := hf 10 (by kernel_rfl)
    refine wp_value (v := .int .i64 (i : Nat)) ?_ (hK _ rfl)
    simp only [execOp, e10]
    try go_simp
   ·refine stepM_calm ?_ ?_ ?_
    ·rfl
    ·kernel_rfl
    intro a vs W hS hR he hf K hK
    refine wn rfl ?_
    have e21 : a.eval (.tmp 21) = .int .i64 (lp : Nat) := (he 5 21 (by kernel_rfl) rfl).trans (hR 5 (by kernel_rfl) rfl)
    have e22 : a.eval (.tmp 22) = .int .i64 (i : Nat) := (he 6 22 (by kernel_rfl) rfl).trans (hR 6 (by kernel_rfl) rfl)
    refine wp_value (v := .int .i64 (q : Nat)) ?_ (hK _ rfl)
    rw [← HQ.out]
    simp only [execOp, e21, e22]
    go_simp
    simp only [IntKind.wrap_i64]
    omega
   ·refine stepM_anc ?_ ?_ ?_
    ·rfl
    ·kernel_rfl
    intro a vs W hX hR he hf K hK
    refine wn rfl ?_
    have e0 : a.eval (.tmp 0) = .slice (some ⟨g, 0, none⟩) n c := hf 0 (by kernel_rfl)
    refine wV hK rfl ?_
    simp only [execOp, e0]
    try go_simp
   ·refine stepM_anc ?_ ?_ ?_
    ·rfl
    ·kernel_rfl
    intro a vs W hX hR he hf K hK
    refine wn rfl ?_
    have e2 : a.eval (.tmp 2) = .int .i64 (lp : Nat) := hf 2 (by kernel_rfl)
    refine wV hK rfl ?_
    simp only [execOp, e2]
    try go_simp
   ·refine stepM_anc ?_ ?_ ?_
    ·rfl
    ·kernel_rfl
    intro a vs W hX hR he hf K hK
    refine wn rfl ?_
    have e10 : a.eval (.tmp 10) = .int .i64 (i : Nat) := hf 10 (by kernel_rfl)
    refine wV hK rfl ?_
    simp only [execOp, e10]
    try go_simp
   ·refine stepM_anc ?_ ?_ ?_
    ·rfl
    ·kernel_rfl
    intro a vs W hX hR he hf K hK
    refine wn rfl ?_
    have e25 : a.eval (.tmp 25) = .int .i64 (lp : Nat) := eH he hR 9 (by kernel_rfl) rfl
    have e26 : a.eval (.tmp 26) = .int .i64 (i : Nat) := eH he hR 10 (by kernel_rfl) rfl
    refine wV hK rfl ?_
    rw [← HQ.out]
    simp only [execOp, e25, e26]
    go_simp
    simp only [IntKind.wrap_i64]
    omega
   ·refine stepM_anc ?_ ?_ ?_
    ·rfl
    ·kernel_rfl
    intro a vs W hX hR he hf K hK
    refine wn rfl ?_
    have e24 : a.eval (.tmp 24) = .slice (some ⟨g, 0, none⟩) n c := eH he hR 8 (by kernel_rfl) rfl
    have e27 : a.eval (.tmp 27) = .int .i64 (q : Nat) := eH he hR 11 (by kernel_rfl) rfl
    refine wV hK rfl ?_
    simp only [execOp, e24, e27]
    go_simp
   ·refine stepM_anc ?_ ?_ ?_
    ·rfl
    ·kernel_rfl
    intro a vs W hX hR he hf K hK
    refine wn rfl ?_
    have e28 : a.eval (.tmp 28) = .pointer (some ⟨g, q * 19, none⟩) := eH he hR 12 (by kernel_rfl) rfl
    have hbW := bthen (below_drew _) (grow_below hX)
    exact wp_value (exec_load_mid 35 _ rfl g (q * 19) e28 (itC y) _ (range_below hbW HGL.out HYC.out) Try.underlying35 rfl (sizeIt _ HYF.out.addr)) (gK hK rfl)
   ·refine stepM_anc ?_ ?_ ?_
    ·rfl
    ·kernel_rfl
    intro a vs W hX hR he hf K hK
    refine wn rfl ?_
    have e0 : a.eval (.tmp 0) = .slice (some ⟨g, 0, none⟩) n c := hf 0 (by kernel_rfl)
    refine wV hK rfl ?_
    simp only [execOp, e0]
    try go_simp
   ·refine stepM_anc ?_ ?_ ?_
    ·rfl
    ·kernel_rfl
    intro a vs W hX hR he hf K hK
    refine wn rfl ?_
    have e1 : a.eval (.tmp 1) = .int .i64 (lo : Nat) := hf 1 (by kernel_rfl)
    refine wV hK rfl ?_
    simp only [execOp, e1]
    try go_simp
   ·refine stepM_anc ?_ ?_ ?_
    ·rfl
    ·kernel_rfl
    intro a vs W hX hR he hf K hK
    refine wn rfl ?_
    have e10 : a.eval (.tmp 10) = .int .i64 (i : Nat) := hf 10 (by kernel_rfl)
    refine wV hK rfl ?_
    simp only [execOp, e10]
    try go_simp
   ·refine stepM_anc ?_ ?_ ?_
    ·rfl
    ·kernel_rfl
    intro a vs W hX hR he hf K hK
    refine wn rfl ?_
    have e31 : a.eval (.tmp 31) = .int .i64 (lo : Nat) := eH he hR 15 (by kernel_rfl) rfl
    have e32 : a.eval (.tmp 32) = .int .i64 (i : Nat) := eH he hR 16 (by kernel_rfl) rfl
    refine wV hK rfl ?_
    rw [← HP.out]
    simp only [execOp, e31, e32]
    go_simp
    simp only [IntKind.wrap_i64]
    omega
   ·refine stepM_anc ?_ ?_ ?_
    ·rfl
    ·kernel_rfl
    intro a vs W hX hR he hf K hK
    refine wn rfl ?_
    have e30 : a.eval (.tmp 30) = .slice (some ⟨g, 0, none⟩) n c := eH he hR 14 (by kernel_rfl) rfl
    have e33 : a.eval (.tmp 33) = .int .i64 (p : Nat) := eH he hR 17 (by kernel_rfl) rfl
    refine wV hK rfl ?_
    simp only [execOp, e30, e33]
    go_simp
   ·refine stepM_anc ?_ ?_ ?_
    ·rfl
    ·kernel_rfl
    intro a vs W hX hR he hf K hK
    refine wn rfl ?_
    have e34 : a.eval (.tmp 34) = .pointer (some ⟨g, p * 19, none⟩) := eH he hR 18 (by kernel_rfl) rfl
    have hbW := bthen (below_drew _) (grow_below hX)
    exact wp_value (exec_load_mid 35 _ rfl g (p * 19) e34 (itC x) _ (range_below hbW HGL.out HXC.out) Try.underlying35 rfl (sizeIt _ HXF.out.addr)) (gK hK rfl)
   ·refine stepM_anc ?_ ?_ ?_
    ·rfl
    ·kernel_rfl
    intro a vs W hX hR he hf K hK
    refine wn rfl ?_
    have e16 : a.eval (.tmp 16) = .slice (some ⟨g, 0, none⟩) n c := eH he hR 0 (by kernel_rfl) rfl
    have e19 : a.eval (.tmp 19) = .int .i64 (p : Nat) := eH he hR 3 (by kernel_rfl) rfl
    refine wV hK rfl ?_
    simp only [execOp, e16, e19]
    go_simp
   ·refine stepM_heavy ?_ ?_
    ·rfl
    intro a vs W hX hR he hf K hK
    refine wn rfl ?_
    have e36 : a.eval (.tmp 36) = .pointer (some ⟨g, p * 19, none⟩) := eH he hR 20 (by kernel_rfl) rfl
    have e29 : a.eval (.tmp 29) = .agg (itC y).toArray := eH he hR 13 (by kernel_rfl) rfl
    have hbW := bthen (below_drew _) (grow_below hX)
    refine wp_store_own 35 _ _ rfl g (p * 19) (itC y) e36 e29 (HR.out.own.below hbW) (sizeIt _ HYF.out.addr) (by rw [itC_length _ HYF.out.addr]; omega) (by omega) (oneIt _) ?_
    intro w' ho' hg' hs'
    exact hK _ _ ⟨ho', (Kept.of_below hbW).trans (T := blkS (some ⟨g, 0, none⟩) c) (Kept.of_grown hg' (fun k hk => by injection hk with hk; rw [← hk]; exact HGS.out)) (fun _ h _ => h)⟩
   ·refine stepM_calm ?_ ?_ ?_
    ·rfl
    ·kernel_rfl
    intro a vs W hS hR he hf K hK
    refine wn rfl ?_
    have e20 : a.eval (.tmp 20) = .slice (some ⟨g, 0, none⟩) n c := (he 4 20 (by kernel_rfl) rfl).trans (hR 4 (by kernel_rfl) rfl)
    have e23 : a.eval (.tmp 23) = .int .i64 (q : Nat) := (he 7 23 (by kernel_rfl) rfl).trans (hR 7 (by kernel_rfl) rfl)
    refine wp_value (v := .pointer (some ⟨g, q * 19, none⟩)) ?_ (hK _ rfl)
    simp only [execOp, e20, e23]
    go_simp
   intro vs wv hPv hR
   have q0 := hR 0 (by decide) rfl
   change vs 0 = .slice (some ⟨g, 0, none⟩) n c at q0
   have q1 := hR 1 (by decide) rfl
   change vs 1 = .int .i64 (lo : Nat) at q1
   have q2 := hR 2 (by decide) rfl
   change vs 2 = .int .i64 (i : Nat) at q2
   have q3 := hR 3 (by decide) rfl
   change vs 3 = .int .i64 (p : Nat) at q3
   have q4 := hR 4 (by decide) rfl
   change vs 4 = .slice (some ⟨g, 0, none⟩) n c at q4
   have q5 := hR 5 (by decide) rfl
   change vs 5 = .int .i64 (lp : Nat) at q5
   have q6 := hR 6 (by decide) rfl
   change vs 6 = .int .i64 (i : Nat) at q6
   have q7 := hR 7 (by decide) rfl
   change vs 7 = .int .i64 (q : Nat) at q7
   have q8 := hR 8 (by decide) rfl
   change vs 8 = .slice (some ⟨g, 0, none⟩) n c at q8
   have q9 := hR 9 (by decide) rfl
   change vs 9 = .int .i64 (lp : Nat) at q9
   have q10 := hR 10 (by decide) rfl
   change vs 10 = .int .i64 (i : Nat) at q10
   have q11 := hR 11 (by decide) rfl
   change vs 11 = .int .i64 (q : Nat) at q11
   have q12 := hR 12 (by decide) rfl
   change vs 12 = .pointer (some ⟨g, q * 19, none⟩) at q12
   have q13 := hR 13 (by decide) rfl
   change vs 13 = .agg (itC y).toArray at q13
   have q14 := hR 14 (by decide) rfl
   change vs 14 = .slice (some ⟨g, 0, none⟩) n c at q14
   have q15 := hR 15 (by decide) rfl
   change vs 15 = .int .i64 (lo : Nat) at q15
   have q16 := hR 16 (by decide) rfl
   change vs 16 = .int .i64 (i : Nat) at q16
   have q17 := hR 17 (by decide) rfl
   change vs 17 = .int .i64 (p : Nat) at q17
   have q18 := hR 18 (by decide) rfl
   change vs 18 = .pointer (some ⟨g, p * 19, none⟩) at q18
   have q19 := hR 19 (by decide) rfl
   change vs 19 = .agg (itC x).toArray at q19
   have q20 := hR 20 (by decide) rfl
   change vs 20 = .pointer (some ⟨g, p * 19, none⟩) at q20
   have q22 := hR 22 (by decide) rfl
   change vs 22 = .pointer (some ⟨g, q * 19, none⟩) at q22
   simp only [putAll, Act.put, List.setIfInBounds_toArray, List.set_cons_zero, List.set_cons_succ, List.take_succ_cons, List.take_zero, q0, q1, q2, q3, q4, q5, q6, q7, q8, q9, q10, q11, q12, q13, q14, q15, q16, q17, q18, q19, q20, q22]
   clear q0 q1 q2 q3 q4 q5 q6 q7 q8 q9 q10 q11 q12 q13 q14 q15 q16 q17 q18 q19 q20 q22
   clear hR
   generalize vs 21 = vh at hPv ⊢
   obtain ⟨hoy, hky⟩ := hPv
   have hRy := HR.out.put (i := p) (by omega) y HYF.out hoy
   refine wp_store_own 35 _ _ rfl g (q * 19) (itC x) rfl rfl hRy.own (sizeIt _ HXF.out.addr) (by rw [itC_length _ HXF.out.addr]; omega) (by omega) (oneIt _) ?_
   intro wz hoz hgz hsz
   have hkz := hky.trans (T := blkS (some ⟨g, 0, none⟩) c) (Kept.of_grown hgz (fun k hk => by injection hk with hk; rw [← hk]; exact HGS.out)) (fun _ h _ => h)
   try simp only [List.getElem_toArray, List.getElem_cons_succ, List.getElem_cons_zero, Act.put, List.setIfInBounds_toArray, List.set_cons_zero, List.set_cons_succ]
   have hRz := (HR.out.put (i := p) (by omega) y HYF.out hoy).put (i := q) (by omega) x HXF.out hoz
   have HRZ := Hh (hRz.congr (e := fun k => d (swpI lo lp (i + 1) k)) (fun k _ => by
    rw [← swp_step lo lp i m k (by omega) hlt, HPN.out, HQN.out]
    have h9 := congrFun (sw_eq (fun k => d (swpI lo lp i k)) p q) k
    unfold sw at h9
    simp only [HX.out, HY.out] at h9
    exact h9))
   have HKZ := Hh (HK0.out.trans (T := blkS (some ⟨g, 0, none⟩) c) hkz (fun _ h _ => h))
   clear hRz hkz
   go_wp2_with fail
   go_roundw
   case rel => exact ⟨i + 1, by omega, by simp, HRZ.out, HKZ.out⟩
   case measure => simp [intOf]; omega
  obtain rfl : i = m := by omega
  go_wp2_with fail
  exact bodyPost_end (results_none rfl _ _ _) rfl ⟨rfl, HR.out, HK0.out⟩
set_option maxHeartbeats 4000000 in
theorem rotate_any (base : Nat) (A : Option Addr) (n c : Nat) (d : Nat → Itm) (lo mid hi : Nat) (hn : n ≤ 1000000) (hl : lo < mid) (hm : mid < hi) (hh : hi ≤ n) (fv : Value) (w : World) (hR : Rd w base A n c d) :
  Calls Try.prog 83 #[.slice A n c, .int .i64 (lo : Nat), .int .i64 (mid : Nat), .int .i64 (hi : Nat), fv] w fun e w' => e = .returned (.tuple #[]) ∧ Rd w' base A n c (fun k => d (rotI lo mid hi k)) ∧ Kept (blkS A c) w w' := by
 have HR0 := Hh hR
 have HN := Hh hn
 clear hR
 go_enter Try.func83, Try.ntmps83
 have hn6 : (n : Int) ≤ 1000000 := by omega
 go_wp2_with fail
 go_loopw [10, 11] (fun s10 s11 wr => ∃ (i j : Nat) (e : Nat → Itm), 0 < i ∧ 0 < j ∧ i ≤ mid ∧ mid + j ≤ n ∧ s10 = .int .i64 (i : Nat) ∧ s11 = .int .i64 (j : Nat) ∧ Rd wr base A n c e ∧ (∀ k, e (rotI (mid - i) mid (mid + j) k) = d (rotI lo mid hi k)) ∧ Kept (blkS A c) w wr) (fun s10 s11 _ => (intOf s10).toNat + (intOf s11).toNat)
 case atStart => exact ⟨mid - lo, hi - mid, d, by omega, by omega, by omega, by omega, by congr 1; omega, by congr 1; omega, HR0.out, fun k => by rw [show mid - (mid - lo) = lo by omega, show mid + (hi - mid) = hi by omega], Kept.refl _ _⟩
 case round =>
  obtain ⟨i, j, e, hi0, hj0, him, hjn, rfl, rfl, hR, he, hk⟩ := hrel
  have HR := Hh hR
  have HE := Hh he
  have HK0 := Hh hk
  clear hR he hk
  rcases Nat.lt_trichotomy i j with hij | hij | hij
  ·have h1 : ¬ (i : Int) = (j : Int) := by omega
   have h2 : ¬ (j : Int) < (i : Int) := by omega
   have h3 : (mid : Int) ≤ 1000000 := by omega
   have h4 : (j : Int) ≤ 1000000 := by omega
   have h5 : (i : Int) ≤ (mid : Int) := by omega
   go_wp2_with fail
   rw [show (mid : Int) - (i : Int) = ((mid - i : Nat) : Int) by omega, show (mid : Int) + (j : Int) - (i : Int) = ((mid + j - i : Nat) : Int) by omega]
   refine (swaprange_any base A n c e (mid - i) (mid + j - i) i HN.out (by omega) (by omega) _ wr HR.out).mono ?_
   rintro e' w1 ⟨rfl, hR, hk⟩
   have HR1 := Hh hR
   have HK1 := Hh (HK0.out.trans (T := blkS A c) hk (fun _ h _ => h))
   clear hR hk
   go_wp2_with fail
   go_roundw
   case rel => exact ⟨i, j - i, _, by omega, by omega, by omega, by omega, rfl, by congr 1; omega, HR1.out, fun k => by show e _ = _; rw [rot_lt mid i j k (by omega) (by omega) (by omega)]; exact HE.out k, HK1.out⟩
   case measure => simp [intOf]; omega
  ·subst hij
   go_wp2_with fail
   rw [show (mid : Int) - (i : Int) = ((mid - i : Nat) : Int) by omega]
   refine (swaprange_any base A n c e (mid - i) mid i HN.out (by omega) (by omega) _ wr HR.out).mono ?_
   rintro e' w1 ⟨rfl, hR, hk⟩
   have HR1 := Hh (hR.congr (e := fun k => d (rotI lo mid hi k)) (fun k _ => by show e _ = _; rw [← rot_even mid i k (by omega)]; exact HE.out k))
   have HK1 := Hh (HK0.out.trans (T := blkS A c) hk (fun _ h _ => h))
   clear hR hk
   go_wp2_with fail
   exact bodyPost_end (results_none rfl _ _ _) rfl ⟨rfl, HR1.out, HK1.out⟩
  have h1 : ¬ (i : Int) = (j : Int) := by omega
  have h2 : (j : Int) < (i : Int) := by omega
  have h3 : (mid : Int) ≤ 1000000 := by omega
  have h4 : (j : Int) ≤ 1000000 := by omega
  have h5 : (i : Int) ≤ (mid : Int) := by omega
  go_wp2_with fail
  rw [show (mid : Int) - (i : Int) = ((mid - i : Nat) : Int) by omega]
  refine (swaprange_any base A n c e (mid - i) mid j HN.out (by omega) (by omega) _ wr HR.out).mono ?_
  rintro e' w1 ⟨rfl, hR, hk⟩
  have HR1 := Hh hR
  have HK1 := Hh (HK0.out.trans (T := blkS A c) hk (fun _ h _ => h))
  clear hR hk
  go_wp2_with fail
  go_roundw
  case rel => exact ⟨i - j, j, _, by omega, by omega, by omega, by omega, by congr 1; omega, rfl, HR1.out, fun k => by show e _ = _; rw [rot_gt mid i j k (by omega) (by omega) (by omega)]; exact HE.out k, HK1.out⟩
  case measure => simp [intOf]; omega
end Go.Proofs.Ytdmgomknamdcfaa


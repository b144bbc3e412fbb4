/- Texts of this claim put together, in build order: each one's own remark stands ahead of it. -/
import Derived.Test.YtdmgomknamdcfaaG02
import Derived.Test.YtdmgomknamdcfaaG27
import Derived.Test.YtdmgomknamdcfaaG11
import Derived.Deep.DeepCutAuto
/- slices.insertionSortCmpFunc turns a rising stretch of items end to end. No condition but sizes. -/
namespace Go.Proofs.Ytdmgomknamdcfaa
open Go.RowKit
set_option linter.unusedVariables false
set_option maxRecDepth 20000
set_option linter.unusedSimpArgs false

/-- a stretch turned up to i, the item there moved down to j -/
def insI (lo i j k : Nat) : Nat := if k = j then i else if j < k ∧ k ≤ i then revI lo i (k - 1) else revI lo i k
theorem ins_start (lo i k : Nat) : insI lo i i k = revI lo i k := by
 unfold insI revI
 repeat' split
 all_goals omega
theorem ins_step (lo i j k : Nat) (h : lo ≤ j) (hj : j + 1 ≤ i) : insI lo i (j + 1) (swI (j + 1) j k) = insI lo i j k := by
 unfold insI revI swI
 repeat' split
 all_goals omega
theorem ins_end (lo i k : Nat) (h : lo < i) : insI lo i lo k = revI lo (i + 1) k := by
 unfold insI revI
 repeat' split
 all_goals omega
theorem rev_one (lo k : Nat) : revI lo (lo + 1) k = k := by
 unfold revI
 split <;> omega
theorem rev_none (lo k : Nat) : revI lo lo k = k := by
 unfold revI
 split <;> omega
set_option maxHeartbeats 4000000 in
theorem insert_any (base : Nat) (A : Option Addr) (n c : Nat) (d : Nat → Itm) (lo hi : Nat) (hn : n ≤ 1000000) (hl : lo ≤ hi) (hh : hi ≤ n) (hd : ∀ i j, lo ≤ i → i < j → j < hi → (d i).1.len < (d j).1.len) (w : World) (hR : Rd w base A n c d) :
  Calls Try.prog 77 #[.slice A n c, .int .i64 (lo : Nat), .int .i64 (hi : Nat), cmpV] w fun e w' => e = .returned (.tuple #[]) ∧ Rd w' base A n c (fun k => d (revI lo hi k)) ∧ Kept (blkS A c) w w' := by
 have HR0 := Hh hR
 have HD := Hh hd
 have HN := Hh hn
 have HLO := Hh hl
 have HHI := Hh hh
 clear hR hd
 unfold cmpV
 go_enter Try.func77, Try.ntmps77
 go_wp2_with fail
 go_loopw [8, 9] (fun s8 _ wr => ∃ (i : Nat), lo + 1 ≤ i ∧ (i ≤ hi ∨ i = lo + 1) ∧ s8 = .int .i64 (i : Nat) ∧ Rd wr base A n c (fun k => d (revI lo i k)) ∧ Kept (blkS A c) w wr) (fun s8 _ _ => hi - (intOf s8).toNat)
 case atStart => exact ⟨lo + 1, Nat.le_refl _, .inr rfl, by simp, HR0.out.congr (fun k _ => by rw [rev_one]), Kept.refl _ _⟩
 case round =>
  obtain ⟨i, hi1, hi2, rfl, hR, hk⟩ := hrel
  have HR := Hh hR
  have HK0 := Hh hk
  clear hR hk
  by_cases hlt : i < hi
  ·obtain ⟨g, rfl, hgS, hgb, hgl⟩ := HR.out.at_ (k := i) (by omega)
   have HGS := Hh hgS
   have hlt2 : (i : Int) < (hi : Int) := by omega
   have hlt3 : (i : Int) ≤ 1000000 := by omega
   clear hgS hgb hgl
   go_wp2_with fail
   go_loopw [9] (fun s9 wr => ∃ (j : Nat), lo ≤ j ∧ j ≤ i ∧ s9 = .int .i64 (j : Nat) ∧ Rd wr base (some ⟨g, 0, none⟩) n c (fun k => d (insI lo i j k)) ∧ Kept (blkS (some ⟨g, 0, none⟩) c) w wr) (fun s9 _ => (intOf s9).toNat)
   case atStart => exact ⟨i, by omega, Nat.le_refl _, rfl, HR.out.congr (fun k _ => by rw [ins_start]), HK0.out⟩
   case round =>
    obtain ⟨j, hj1, hj2, rfl, hR, hk⟩ := hrel
    clear HR HK0
    have HR := Hh hR
    have HK0 := Hh hk
    clear hR hk
    by_cases hjl : lo < j
    ·obtain ⟨q, rfl⟩ : ∃ q, j = q + 1 := ⟨j - 1, by omega⟩
     have hxi : insI lo i (q + 1) (q + 1) = i := by unfold insI; rw [if_pos rfl]
     have hyi : lo ≤ insI lo i (q + 1) q ∧ insI lo i (q + 1) q < i := by
      unfold insI revI
      repeat' split
      all_goals omega
     obtain ⟨x, hx⟩ : ∃ x, d i = x := ⟨_, rfl⟩
     obtain ⟨y, hy⟩ : ∃ y, d (insI lo i (q + 1) q) = y := ⟨_, rfl⟩
     have HLT := Hh (show y.1.len < x.1.len by rw [← hx, ← hy]; exact HD.out _ _ hyi.1 hyi.2 hlt)
     have h1 := HR.out.cells (k := q + 1) (by omega)
     have h2 := HR.out.cells (k := q) (by omega)
     have h3 := HR.out.fit (q + 1) (by omega)
     have h4 := HR.out.fit q (by omega)
     simp only [hxi, hx, hy] at h1 h2 h3 h4
     have HXC := Hh h1
     have HYC := Hh h2
     have HXF := Hh h3
     have HYF := Hh h4
     have HX := Hh (show d (insI lo i (q + 1) (q + 1)) = x by rw [hxi]; exact hx)
     have HY := Hh hy
     have HGL := Hh (HR.out.lt (k := q) (by omega))
     obtain ⟨j, hjq⟩ : ∃ j, q + 1 = j := ⟨_, rfl⟩
     rw [hjq] at hj1 hj2 hjl HR HXC HX HY
     try rw [hjq]
     have HJQ := Hh (show (j : Int) - 1 = (q : Int) by omega)
     have HJ := Hh hjq.symm
     have hj5 : (lo : Int) < (j : Int) := by omega
     have hj6 : (j : Int) < (n : Int) := by omega
     have hj7 : (q : Int) < (n : Int) := by omega
     clear hxi hyi hx hy h1 h2 h3 h4 hjq
     go_wp2_with fail
     refine wp_region_rel (fun A B => A.grownBy B none) (fun A => grown_refl A _) (fun A B C h k => grown_trans h k) (relAt (eqs [.int .i64 (j : Nat), .int .i64 (lo : Nat), .bool true, .bool true, .func (.func 42) #[] #[], .slice (some ⟨g, 0, none⟩) n c, .int .i64 (j : Nat), .pointer (some ⟨g, j * 19, none⟩), .agg (itC x).toArray, .slice (some ⟨g, 0, none⟩) n c, .int .i64 (j : Nat), .int .i64 (q : Nat), .pointer (some ⟨g, q * 19, none⟩), .agg (itC y).toArray, .int .i64 (cmpL x y), .bool true, .bool true])) (MonoL.at_ (eqs_mono _)) (by kernel_rfl) (by kernel_rfl) ⟨?_, ?_, ?_, ?_, ?_, ?_, ?_, ?_, ?_, ?_, ?_, ?_, ?_, ?_, ?_, ?_, ?_, trivial⟩ ?_
     ·intro a vs W hX hR he hf K hK
      refine wn rfl ?_
      have e9 : a.eval (.tmp 9) = .int .i64 (j : Nat) := hf 9 (by kernel_rfl)
      refine wV hK rfl ?_
      simp only [execOp, e9]
      try go_simp
     ·intro a vs W hX hR he hf K hK
      refine wn rfl ?_
      have e1 : a.eval (.tmp 1) = .int .i64 (lo : Nat) := hf 1 (by kernel_rfl)
      refine wV hK rfl ?_
      simp only [execOp, e1]
      try go_simp
     ·intro a vs W hX hR he hf K hK
      refine wn rfl ?_
      have e18 : a.eval (.tmp 18) = .int .i64 (j : Nat) := eH he hR 0 (by kernel_rfl) rfl
      have e19 : a.eval (.tmp 19) = .int .i64 (lo : Nat) := eH he hR 1 (by kernel_rfl) rfl
      refine wV hK rfl ?_
      simp only [execOp, e18, e19]
      go_simp
      try omega
     ·intro a vs W hX hR he hf K hK
      refine wn rfl ?_
      have e20 : a.eval (.tmp 20) = .bool true := eH he hR 2 (by kernel_rfl) rfl
      refine wV hK rfl ?_
      simp only [execOp, e20]
      try go_simp
     ·intro a vs W hX hR he hf K hK
      have e21 : a.eval (.tmp 21) = .bool true := eH he hR 3 (by kernel_rfl) rfl
      refine gT e21 rfl rfl rfl ?_
      have e3 : a.eval (.tmp 3) = .func (.func 42) #[] #[] := hf 3 (by kernel_rfl)
      refine wV hK rfl ?_
      simp only [execOp, e3]
      try go_simp
     ·intro a vs W hX hR he hf K hK
      have e21 : a.eval (.tmp 21) = .bool true := eH he hR 3 (by kernel_rfl) rfl
      refine gT e21 rfl rfl rfl ?_
      have e0 : a.eval (.tmp 0) = .slice (some ⟨g, 0, none⟩) n c := hf 0 (by kernel_rfl)
      refine wV hK rfl ?_
      simp only [execOp, e0]
      try go_simp
     ·intro a vs W hX hR he hf K hK
      have e21 : a.eval (.tmp 21) = .bool true := eH he hR 3 (by kernel_rfl) rfl
      refine gT e21 rfl rfl rfl ?_
      have e9 : a.eval (.tmp 9) = .int .i64 (j : Nat) := hf 9 (by kernel_rfl)
      refine wV hK rfl ?_
      simp only [execOp, e9]
      try go_simp
     ·intro a vs W hX hR he hf K hK
      have e21 : a.eval (.tmp 21) = .bool true := eH he hR 3 (by kernel_rfl) rfl
      refine gT e21 rfl rfl rfl ?_
      have e23 : a.eval (.tmp 23) = .slice (some ⟨g, 0, none⟩) n c := eH he hR 5 (by kernel_rfl) rfl
      have e24 : a.eval (.tmp 24) = .int .i64 (j : Nat) := eH he hR 6 (by kernel_rfl) rfl
      refine wV hK rfl ?_
      simp only [execOp, e23, e24]
      go_simp
     ·intro a vs W hX hR he hf K hK
      have e21 : a.eval (.tmp 21) = .bool true := eH he hR 3 (by kernel_rfl) rfl
      refine gT e21 rfl rfl rfl ?_
      have e25 : a.eval (.tmp 25) = .pointer (some ⟨g, j * 19, none⟩) := eH he hR 7 (by kernel_rfl) rfl
      have hbW := bthen (below_drew _) (grow_below hX)
      exact wp_value (exec_load_mid 35 _ rfl g (j * 19) e25 (itC x) _ (range_below hbW HGL.out HXC.out) Try.underlying35 rfl (sizeIt _ HXF.out.addr)) (gK hK rfl)
     ·intro a vs W hX hR he hf K hK
      have e21 : a.eval (.tmp 21) = .bool true := eH he hR 3 (by kernel_rfl) rfl
      refine gT e21 rfl rfl rfl ?_
      have e0 : a.eval (.tmp 0) = .slice (some ⟨g, 0, none⟩) n c := hf 0 (by kernel_rfl)
      refine wV hK rfl ?_
      simp only [execOp, e0]
      try go_simp
     ·intro a vs W hX hR he hf K hK
      have e21 : a.eval (.tmp 21) = .bool true := eH he hR 3 (by kernel_rfl) rfl
      refine gT e21 rfl rfl rfl ?_
      have e9 : a.eval (.tmp 9) = .int .i64 (j : Nat) := hf 9 (by kernel_rfl)
      refine wV hK rfl ?_
      simp only [execOp, e9]
      try go_simp
     ·intro a vs W hX hR he hf K hK
      have e21 : a.eval (.tmp 21) = .bool true := eH he hR 3 (by kernel_rfl) rfl
      refine gT e21 rfl rfl rfl ?_
      have e28 : a.eval (.tmp 28) = .int .i64 (j : Nat) := eH he hR 10 (by kernel_rfl) rfl
      refine wV hK rfl ?_
      rw [← HJQ.out]
      simp only [execOp, e28]
      go_simp
      simp only [IntKind.wrap_i64]
      omega
     ·intro a vs W hX hR he hf K hK
      have e21 : a.eval (.tmp 21) = .bool true := eH he hR 3 (by kernel_rfl) rfl
      refine gT e21 rfl rfl rfl ?_
      have e27 : a.eval (.tmp 27) = .slice (some ⟨g, 0, none⟩) n c := eH he hR 9 (by kernel_rfl) rfl
      have e29 : a.eval (.tmp 29) = .int .i64 (q : Nat) := eH he hR 11 (by kernel_rfl) rfl
      refine wV hK rfl ?_
      simp only [execOp, e27, e29]
      go_simp
     ·intro a vs W hX hR he hf K hK
      have e21 : a.eval (.tmp 21) = .bool true := eH he hR 3 (by kernel_rfl) rfl
      refine gT e21 rfl rfl rfl ?_
      have e30 : a.eval (.tmp 30) = .pointer (some ⟨g, q * 19, none⟩) := eH he hR 12 (by kernel_rfl) rfl
      have hbW := bthen (below_drew _) (grow_below hX)
      exact wp_value (exec_load_mid 35 _ rfl g (q * 19) e30 (itC y) _ (range_below hbW HGL.out HYC.out) Try.underlying35 rfl (sizeIt _ HYF.out.addr)) (gK hK rfl)
     ·intro a vs W hX hR he hf K hK
      have e21 : a.eval (.tmp 21) = .bool true := eH he hR 3 (by kernel_rfl) rfl
      refine gT e21 rfl rfl rfl ?_
      have e22 : a.eval (.tmp 22) = .func (.func 42) #[] #[] := eH he hR 4 (by kernel_rfl) rfl
      have e26 : a.eval (.tmp 26) = .agg (itC x).toArray := eH he hR 8 (by kernel_rfl) rfl
      have e31 : a.eval (.tmp 31) = .agg (itC y).toArray := eH he hR 13 (by kernel_rfl) rfl
      refine wp_enter (f := 42) (args := #[.agg (itC x).toArray, .agg (itC y).toArray]) (exec_callv2 _ _ _ _ _ #[] _ _ rfl e22 e26 e31 (by kernel_rfl)) ((less_any x y HXF.out HYF.out W).mono ?_)
      rintro e w' ⟨rfl, hb⟩
      exact ⟨_, rfl, hK _ _ rfl (below_grow hb _)⟩
     ·intro a vs W hX hR he hf K hK
      have e21 : a.eval (.tmp 21) = .bool true := eH he hR 3 (by kernel_rfl) rfl
      refine gT e21 rfl rfl rfl ?_
      have e32 : a.eval (.tmp 32) = .int .i64 (cmpL x y) := eH he hR 14 (by kernel_rfl) rfl
      refine wV hK rfl ?_
      have h9 := cmpL_lt HLT.out
      simp only [execOp, e32]
      go_simp
      try omega
     ·intro a vs W hX hR he hf K hK
      refine wn rfl ?_
      have e21 : a.eval (.tmp 21) = .bool true := eH he hR 3 (by kernel_rfl) rfl
      have e33 : a.eval (.tmp 33) = .bool true := eH he hR 15 (by kernel_rfl) rfl
      refine wV hK rfl ?_
      simp only [execOp, e21, e33]
      try go_simp
     intro vs wx hXx hR
     rw [put_eqs hR rfl]
     simp only [putL, Act.put, List.setIfInBounds_toArray, List.set_cons_zero, List.set_cons_succ]
     clear hR
     replace HR := Hh (HR.out.on (bthen (below_drew _) (grow_below hXx)))
     replace HK0 := Hh (HK0.out.then_below (bthen (below_drew _) (grow_below hXx)))
     replace HXC := Hh (range_below (bthen (below_drew _) (grow_below hXx)) HGL.out HXC.out)
     replace HYC := Hh (range_below (bthen (below_drew _) (grow_below hXx)) HGL.out HYC.out)
     replace HGL := Hh (Nat.lt_of_lt_of_le HGL.out (bthen (below_drew _) (grow_below hXx)).size)
     clear hXx
     go_wp2_with fail
     refine wp_region_mid 15 17 [true, true, true, true, true, true, true, true, true, true, true, true, true, true, true, true, true] (fun _ => True) (fun _ W => Own W base 35 19 (some ⟨g, 0, none⟩) n c ((its (rowD n (fun k => d (insI lo i j k)))).take (j * 19) ++ itC y ++ (its (rowD n (fun k => d (insI lo i j k)))).drop (j * 19 + (itC y).length)) ∧ Kept (blkS (some ⟨g, 0, none⟩) c) wx W) (fun A B => A.grownBy B none) (fun A => grown_refl A _) (fun A B C h k => grown_trans h k) (relAt (List.cons (fun v _ => v = .slice (some ⟨g, 0, none⟩) n c) (List.cons (fun v _ => v = .int .i64 (j : Nat)) (List.cons (fun v _ => v = .slice (some ⟨g, 0, none⟩) n c) (List.cons (fun v _ => v = .int .i64 (j : Nat)) (List.cons (fun v _ => v = .int .i64 (q : Nat)) (List.cons (fun v _ => v = .slice (some ⟨g, 0, none⟩) n c) (List.cons (fun v _ => v = .int .i64 (j : Nat)) (List.cons (fun v _ => v = .int .i64 (q : Nat)) (List.cons (fun v _ => v = .pointer (some ⟨g, q * 19, none⟩)) (List.cons (fun v _ => v = .agg (itC y).toArray) (List.cons (fun v _ => v = .slice (some ⟨g, 0, none⟩) n c) (List.cons (fun v _ => v = .int .i64 (j : Nat)) (List.cons (fun v _ => v = .pointer (some ⟨g, j * 19, none⟩)) (List.cons (fun v _ => v = .agg (itC x).toArray) (List.cons (fun v _ => v = .pointer (some ⟨g, j * 19, none⟩)) (List.cons (fun _ _ => True) (List.cons (fun v _ => v = .pointer (some ⟨g, q * 19, none⟩)) ([]))))))))))))))))))) (MonoL.at_ (.cons (mono_val _) (.cons (mono_val _) (.cons (mono_val _) (.cons (mono_val _) (.cons (mono_val _) (.cons (mono_val _) (.cons (mono_val _) (.cons (mono_val _) (.cons (mono_val _) (.cons (mono_val _) (.cons (mono_val _) (.cons (mono_val _) (.cons (mono_val _) (.cons (mono_val _) (.cons (mono_val _) (.cons ((fun _ _ _ h _ => h)) (.cons (mono_val _) .nil)))))))))))))))))) (ConstL.at_ (.cons (fun _ _ _ h => h) (.cons (fun _ _ _ h => h) (.cons (fun _ _ _ h => h) (.cons (fun _ _ _ h => h) (.cons (fun _ _ _ h => h) (.cons (fun _ _ _ h => h) (.cons (fun _ _ _ h => h) (.cons (fun _ _ _ h => h) (.cons (fun _ _ _ h => h) (.cons (fun _ _ _ h => h) (.cons (fun _ _ _ h => h) (.cons (fun _ _ _ h => h) (.cons (fun _ _ _ h => h) (.cons (fun _ _ _ h => h) (.cons (fun _ _ _ h => h) (.cons (fun _ _ _ h => h) (.cons (fun _ _ _ h => h) .nil)))))))))))))))))) (fun v W h => True.intro) (fun W hX => True.intro) (fun v W h => True.intro) (by kernel_rfl) (by kernel_rfl) rfl (by decide) (by kernel_rfl) (by kernel_rfl) _ rfl rfl ⟨?_, ?_, ?_, ?_, ?_, ?_, ?_, ?_, ?_, ?_, ?_, ?_, ?_, ?_, ?_, ?_, ?_, trivial⟩ ?_
     ·refine stepM_anc ?_ ?_ ?_
      ·rfl
      ·kernel_rfl
      intro a vs W hX hR he hf K hK
      refine wn rfl ?_
      have e0 : a.eval (.tmp 0) = .slice (some ⟨g, 0, none⟩) n c := hf 0 (by kernel_rfl)
      refine wV hK rfl ?_
      simp only [execOp, e0]
      try go_simp
     ·refine stepM_anc ?_ ?_ ?_
      ·rfl
      ·kernel_rfl
      intro a vs W hX hR he hf K hK
      refine wn rfl ?_
      have e9 : a.eval (.tmp 9) = .int .i64 (j : Nat) := hf 9 (by kernel_rfl)
      refine wV hK rfl ?_
      simp only [execOp, e9]
      try go_simp
     ·refine stepM_calm ?_ ?_ ?_
      ·rfl
      ·kernel_rfl
      intro a vs W hS hR he hf K hK
      refine wn rfl ?_
      have e0 : a.eval (.tmp 0) = .slice (some ⟨g, 0, none⟩) n c := hf 0 (by kernel_rfl)
      refine wp_value (v := .slice (some ⟨g, 0, none⟩) n c) ?_ (hK _ rfl)
      simp only [execOp, e0]
      try go_simp
     ·refine stepM_calm ?_ ?_ ?_
      ·rfl
      ·kernel_rfl
      intro a vs W hS hR he hf K hK
      refine wn rfl ?_
      have e9 : a.eval (.tmp 9) = .int .i64 (j : Nat) := hf 9 (by kernel_rfl)
      refine wp_value (v := .int .i64 (j : Nat)) ?_ (hK _ rfl)
      simp only [execOp, e9]
      try go_simp
     ·refine stepM_calm ?_ ?_ ?_
      ·rfl
      ·kernel_rfl
      intro a vs W hS hR he hf K hK
      refine wn rfl ?_
      have e40 : a.eval (.tmp 40) = .int .i64 (j : Nat) := (he 3 40 (by kernel_rfl) rfl).trans (hR 3 (by kernel_rfl) rfl)
      refine wp_value (v := .int .i64 (q : Nat)) ?_ (hK _ rfl)
      rw [← HJQ.out]
      simp only [execOp, e40]
      go_simp
      simp only [IntKind.wrap_i64]
      omega
     ·refine stepM_anc ?_ ?_ ?_
      ·rfl
      ·kernel_rfl
      intro a vs W hX hR he hf K hK
      refine wn rfl ?_
      have e0 : a.eval (.tmp 0) = .slice (some ⟨g, 0, none⟩) n c := hf 0 (by kernel_rfl)
      refine wV hK rfl ?_
      simp only [execOp, e0]
      try go_simp
     ·refine stepM_anc ?_ ?_ ?_
      ·rfl
      ·kernel_rfl
      intro a vs W hX hR he hf K hK
      refine wn rfl ?_
      have e9 : a.eval (.tmp 9) = .int .i64 (j : Nat) := hf 9 (by kernel_rfl)
      refine wV hK rfl ?_
      simp only [execOp, e9]
      try go_simp
     ·refine stepM_anc ?_ ?_ ?_
      ·rfl
      ·kernel_rfl
      intro a vs W hX hR he hf K hK
      refine wn rfl ?_
      have e43 : a.eval (.tmp 43) = .int .i64 (j : Nat) := eH he hR 6 (by kernel_rfl) rfl
      refine wV hK rfl ?_
      rw [← HJQ.out]
      simp only [execOp, e43]
      go_simp
      simp only [IntKind.wrap_i64]
      omega
     ·refine stepM_anc ?_ ?_ ?_
      ·rfl
      ·kernel_rfl
      intro a vs W hX hR he hf K hK
      refine wn rfl ?_
      have e42 : a.eval (.tmp 42) = .slice (some ⟨g, 0, none⟩) n c := eH he hR 5 (by kernel_rfl) rfl
      have e44 : a.eval (.tmp 44) = .int .i64 (q : Nat) := eH he hR 7 (by kernel_rfl) rfl
      refine wV hK rfl ?_
      simp only [execOp, e42, e44]
      go_simp
     ·refine stepM_anc ?_ ?_ ?_
      ·rfl
      ·kernel_rfl
      intro a vs W hX hR he hf K hK
      refine wn rfl ?_
      have e45 : a.eval (.tmp 45) = .pointer (some ⟨g, q * 19, none⟩) := eH he hR 8 (by kernel_rfl) rfl
      have hbW := bthen (below_drew _) (grow_below hX)
      exact wp_value (exec_load_mid 35 _ rfl g (q * 19) e45 (itC y) _ (range_below hbW HGL.out HYC.out) Try.underlying35 rfl (sizeIt _ HYF.out.addr)) (gK hK rfl)
     ·refine stepM_anc ?_ ?_ ?_
      ·rfl
      ·kernel_rfl
      intro a vs W hX hR he hf K hK
      refine wn rfl ?_
      have e0 : a.eval (.tmp 0) = .slice (some ⟨g, 0, none⟩) n c := hf 0 (by kernel_rfl)
      refine wV hK rfl ?_
      simp only [execOp, e0]
      try go_simp
     ·refine stepM_anc ?_ ?_ ?_
      ·rfl
      ·kernel_rfl
      intro a vs W hX hR he hf K hK
      refine wn rfl ?_
      have e9 : a.eval (.tmp 9) = .int .i64 (j : Nat) := hf 9 (by kernel_rfl)
      refine wV hK rfl ?_
      simp only [execOp, e9]
      try go_simp
     ·refine stepM_anc ?_ ?_ ?_
      ·rfl
      ·kernel_rfl
      intro a vs W hX hR he hf K hK
      refine wn rfl ?_
      have e47 : a.eval (.tmp 47) = .slice (some ⟨g, 0, none⟩) n c := eH he hR 10 (by kernel_rfl) rfl
      have e48 : a.eval (.tmp 48) = .int .i64 (j : Nat) := eH he hR 11 (by kernel_rfl) rfl
      refine wV hK rfl ?_
      simp only [execOp, e47, e48]
      go_simp
     ·refine stepM_anc ?_ ?_ ?_
      ·rfl
      ·kernel_rfl
      intro a vs W hX hR he hf K hK
      refine wn rfl ?_
      have e49 : a.eval (.tmp 49) = .pointer (some ⟨g, j * 19, none⟩) := eH he hR 12 (by kernel_rfl) rfl
      have hbW := bthen (below_drew _) (grow_below hX)
      exact wp_value (exec_load_mid 35 _ rfl g (j * 19) e49 (itC x) _ (range_below hbW HGL.out HXC.out) Try.underlying35 rfl (sizeIt _ HXF.out.addr)) (gK hK rfl)
     ·refine stepM_anc ?_ ?_ ?_
      ·rfl
      ·kernel_rfl
      intro a vs W hX hR he hf K hK
      refine wn rfl ?_
      have e37 : a.eval (.tmp 37) = .slice (some ⟨g, 0, none⟩) n c := eH he hR 0 (by kernel_rfl) rfl
      have e38 : a.eval (.tmp 38) = .int .i64 (j : Nat) := eH he hR 1 (by kernel_rfl) rfl
      refine wV hK rfl ?_
      simp only [execOp, e37, e38]
      go_simp
     ·refine stepM_heavy ?_ ?_
      ·rfl
      intro a vs W hX hR he hf K hK
      refine wn rfl ?_
      have e51 : a.eval (.tmp 51) = .pointer (some ⟨g, j * 19, none⟩) := eH he hR 14 (by kernel_rfl) rfl
      have e46 : a.eval (.tmp 46) = .agg (itC y).toArray := eH he hR 9 (by kernel_rfl) rfl
      have hbW := bthen (below_drew _) (grow_below hX)
      refine wp_store_own 35 _ _ rfl g (j * 19) (itC y) e51 e46 (HR.out.own.below hbW) (sizeIt _ HYF.out.addr) (by rw [itC_length _ HYF.out.addr]; omega) (by omega) (oneIt _) ?_
      intro w' ho' hg' hs'
      exact hK _ _ ⟨ho', (Kept.of_below hbW).trans (T := blkS (some ⟨g, 0, none⟩) c) (Kept.of_grown hg' (fun k hk => by injection hk with hk; rw [← hk]; exact HGS.out)) (fun _ h _ => h)⟩
     ·refine stepM_calm ?_ ?_ ?_
      ·rfl
      ·kernel_rfl
      intro a vs W hS hR he hf K hK
      refine wn rfl ?_
      have e39 : a.eval (.tmp 39) = .slice (some ⟨g, 0, none⟩) n c := (he 2 39 (by kernel_rfl) rfl).trans (hR 2 (by kernel_rfl) rfl)
      have e41 : a.eval (.tmp 41) = .int .i64 (q : Nat) := (he 4 41 (by kernel_rfl) rfl).trans (hR 4 (by kernel_rfl) rfl)
      refine wp_value (v := .pointer (some ⟨g, q * 19, none⟩)) ?_ (hK _ rfl)
      simp only [execOp, e39, e41]
      go_simp
     intro vs wv hPv hR
     have q0 := hR 0 (by decide) rfl
     change vs 0 = .slice (some ⟨g, 0, none⟩) n c at q0
     have q1 := hR 1 (by decide) rfl
     change vs 1 = .int .i64 (j : Nat) at q1
     have q2 := hR 2 (by decide) rfl
     change vs 2 = .slice (some ⟨g, 0, none⟩) n c at q2
     have q3 := hR 3 (by decide) rfl
     change vs 3 = .int .i64 (j : Nat) at q3
     have q4 := hR 4 (by decide) rfl
     change vs 4 = .int .i64 (q : Nat) at q4
     have q5 := hR 5 (by decide) rfl
     change vs 5 = .slice (some ⟨g, 0, none⟩) n c at q5
     have q6 := hR 6 (by decide) rfl
     change vs 6 = .int .i64 (j : Nat) at q6
     have q7 := hR 7 (by decide) rfl
     change vs 7 = .int .i64 (q : Nat) at q7
     have q8 := hR 8 (by decide) rfl
     change vs 8 = .pointer (some ⟨g, q * 19, none⟩) at q8
     have q9 := hR 9 (by decide) rfl
     change vs 9 = .agg (itC y).toArray at q9
     have q10 := hR 10 (by decide) rfl
     change vs 10 = .slice (some ⟨g, 0, none⟩) n c at q10
     have q11 := hR 11 (by decide) rfl
     change vs 11 = .int .i64 (j : Nat) at q11
     have q12 := hR 12 (by decide) rfl
     change vs 12 = .pointer (some ⟨g, j * 19, none⟩) at q12
     have q13 := hR 13 (by decide) rfl
     change vs 13 = .agg (itC x).toArray at q13
     have q14 := hR 14 (by decide) rfl
     change vs 14 = .pointer (some ⟨g, j * 19, none⟩) at q14
     have q16 := hR 16 (by decide) rfl
     change vs 16 = .pointer (some ⟨g, q * 19, none⟩) at q16
     simp only [putAll, Act.put, List.setIfInBounds_toArray, List.set_cons_zero, List.set_cons_succ, List.take_succ_cons, List.take_zero, q0, q1, q2, q3, q4, q5, q6, q7, q8, q9, q10, q11, q12, q13, q14, q16]
     clear q0 q1 q2 q3 q4 q5 q6 q7 q8 q9 q10 q11 q12 q13 q14 q16
     clear hR
     generalize vs 15 = vh at hPv ⊢
     obtain ⟨hoy, hky⟩ := hPv
     have hRy := HR.out.put (i := j) (by omega) y HYF.out hoy
     refine wp_store_own 35 _ _ rfl g (q * 19) (itC x) rfl rfl hRy.own (sizeIt _ HXF.out.addr) (by rw [itC_length _ HXF.out.addr]; omega) (by omega) (oneIt _) ?_
     intro wz hoz hgz hsz
     have hkz := hky.trans (T := blkS (some ⟨g, 0, none⟩) c) (Kept.of_grown hgz (fun k hk => by injection hk with hk; rw [← hk]; exact HGS.out)) (fun _ h _ => h)
     try simp only [List.getElem_toArray, List.getElem_cons_succ, List.getElem_cons_zero, Act.put, List.setIfInBounds_toArray, List.set_cons_zero, List.set_cons_succ]
     have hRz := (HR.out.put (i := j) (by omega) y HYF.out hoy).put (i := q) (by omega) x HXF.out hoz
     have HRZ := Hh (hRz.congr (e := fun k => d (insI lo i q k)) (fun k _ => by
      rw [← ins_step lo i q k (by have := HJ.out; omega) (by have := HJ.out; omega), ← HJ.out]
      have h9 := congrFun (sw_eq (fun k => d (insI lo i j k)) j q) k
      unfold sw at h9
      simp only [HX.out, HY.out] at h9
      exact h9))
     have HKZ := Hh (HK0.out.trans (T := blkS (some ⟨g, 0, none⟩) c) hkz (fun _ h _ => h))
     clear hRz hkz
     go_wp2_with fail
     go_roundw
     case rel => exact ⟨q, by have := HJ.out; omega, by have := HJ.out; omega, by rw [← HJQ.out], HRZ.out, HKZ.out⟩
     case measure => simp [intOf]; have := HJ.out; omega
    obtain rfl : lo = j := by omega
    have HE := Hh (HR.out.congr (e := fun k => d (revI lo (i + 1) k)) (fun k _ => by show d _ = d _; rw [ins_end lo i k (by omega)]))
    have hj5 : ¬ (lo : Int) < (lo : Int) := by omega
    go_wp2_with fail
    refine wp_region_rel (fun A B => A.grownBy B none) (fun A => grown_refl A _) (fun A B C h k => grown_trans h k) (relAt (eqs [.int .i64 (lo : Nat), .int .i64 (lo : Nat), .bool false, .bool false, undef, undef, undef, undef, undef, undef, undef, undef, undef, undef, undef, undef, .bool false])) (MonoL.at_ (eqs_mono _)) (by kernel_rfl) (by kernel_rfl) ⟨?_, ?_, ?_, ?_, ?_, ?_, ?_, ?_, ?_, ?_, ?_, ?_, ?_, ?_, ?_, ?_, ?_, trivial⟩ ?_
    ·intro a vs W hX hR he hf K hK
     refine wn rfl ?_
     have e9 : a.eval (.tmp 9) = .int .i64 (lo : Nat) := hf 9 (by kernel_rfl)
     refine wV hK rfl ?_
     simp only [execOp, e9]
     try go_simp
    ·intro a vs W hX hR he hf K hK
     refine wn rfl ?_
     have e1 : a.eval (.tmp 1) = .int .i64 (lo : Nat) := hf 1 (by kernel_rfl)
     refine wV hK rfl ?_
     simp only [execOp, e1]
     try go_simp
    ·intro a vs W hX hR he hf K hK
     refine wn rfl ?_
     have e18 : a.eval (.tmp 18) = .int .i64 (lo : Nat) := eH he hR 0 (by kernel_rfl) rfl
     have e19 : a.eval (.tmp 19) = .int .i64 (lo : Nat) := eH he hR 1 (by kernel_rfl) rfl
     refine wV hK rfl ?_
     simp only [execOp, e18, e19]
     go_simp
     try omega
    ·intro a vs W hX hR he hf K hK
     refine wn rfl ?_
     have e20 : a.eval (.tmp 20) = .bool false := eH he hR 2 (by kernel_rfl) rfl
     refine wV hK rfl ?_
     simp only [execOp, e20]
     try go_simp
    ·intro a vs W hX hR he hf K hK
     have e21 : a.eval (.tmp 21) = .bool false := eH he hR 3 (by kernel_rfl) rfl
     exact gN e21 rfl rfl rfl (gK hK rfl)
    ·intro a vs W hX hR he hf K hK
     have e21 : a.eval (.tmp 21) = .bool false := eH he hR 3 (by kernel_rfl) rfl
     exact gN e21 rfl rfl rfl (gK hK rfl)
    ·intro a vs W hX hR he hf K hK
     have e21 : a.eval (.tmp 21) = .bool false := eH he hR 3 (by kernel_rfl) rfl
     exact gN e21 rfl rfl rfl (gK hK rfl)
    ·intro a vs W hX hR he hf K hK
     have e21 : a.eval (.tmp 21) = .bool false := eH he hR 3 (by kernel_rfl) rfl
     exact gN e21 rfl rfl rfl (gK hK rfl)
    ·intro a vs W hX hR he hf K hK
     have e21 : a.eval (.tmp 21) = .bool false := eH he hR 3 (by kernel_rfl) rfl
     exact gN e21 rfl rfl rfl (gK hK rfl)
    ·intro a vs W hX hR he hf K hK
     have e21 : a.eval (.tmp 21) = .bool false := eH he hR 3 (by kernel_rfl) rfl
     exact gN e21 rfl rfl rfl (gK hK rfl)
    ·intro a vs W hX hR he hf K hK
     have e21 : a.eval (.tmp 21) = .bool false := eH he hR 3 (by kernel_rfl) rfl
     exact gN e21 rfl rfl rfl (gK hK rfl)
    ·intro a vs W hX hR he hf K hK
     have e21 : a.eval (.tmp 21) = .bool false := eH he hR 3 (by kernel_rfl) rfl
     exact gN e21 rfl rfl rfl (gK hK rfl)
    ·intro a vs W hX hR he hf K hK
     have e21 : a.eval (.tmp 21) = .bool false := eH he hR 3 (by kernel_rfl) rfl
     exact gN e21 rfl rfl rfl (gK hK rfl)
    ·intro a vs W hX hR he hf K hK
     have e21 : a.eval (.tmp 21) = .bool false := eH he hR 3 (by kernel_rfl) rfl
     exact gN e21 rfl rfl rfl (gK hK rfl)
    ·intro a vs W hX hR he hf K hK
     have e21 : a.eval (.tmp 21) = .bool false := eH he hR 3 (by kernel_rfl) rfl
     exact gN e21 rfl rfl rfl (gK hK rfl)
    ·intro a vs W hX hR he hf K hK
     have e21 : a.eval (.tmp 21) = .bool false := eH he hR 3 (by kernel_rfl) rfl
     exact gN e21 rfl rfl rfl (gK hK rfl)
    ·intro a vs W hX hR he hf K hK
     refine wn rfl ?_
     have e21 : a.eval (.tmp 21) = .bool false := eH he hR 3 (by kernel_rfl) rfl
     have e33 : a.eval (.tmp 33) = undef := eH he hR 15 (by kernel_rfl) rfl
     refine wV hK rfl ?_
     simp only [execOp, e21, e33]
     try go_simp
    intro vs wx hXx hR
    rw [put_eqs hR rfl]
    simp only [putL, Act.put, List.setIfInBounds_toArray, List.set_cons_zero, List.set_cons_succ]
    clear hR
    replace HE := Hh (HE.out.on (bthen (below_drew _) (grow_below hXx)))
    replace HK0 := Hh (HK0.out.then_below (bthen (below_drew _) (grow_below hXx)))
    clear hXx
    go_wp2_with fail
    go_roundw
    case rel => exact ⟨i + 1, by omega, .inl (by omega), by simp, HE.out, HK0.out⟩
    case measure => simp [intOf]; omega
  go_wp2_with fail
  refine bodyPost_end (results_none rfl _ _ _) rfl ⟨rfl, HR.out.congr (fun k _ => ?_), HK0.out⟩
  rcases hi2 with h | h
  ·rw [show i = hi by omega]
  rcases Nat.lt_or_ge lo hi with h9 | h9
  ·rw [show i = hi by omega]
  rw [show hi = lo by omega, h, rev_one, rev_none]
end Go.Proofs.Ytdmgomknamdcfaa


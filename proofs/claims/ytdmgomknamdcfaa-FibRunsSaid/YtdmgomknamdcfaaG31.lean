/- Texts of this claim put together, in build order: each one's own remark stands ahead of it. -/
import Derived.Test.YtdmgomknamdcfaaG02
import Derived.Test.YtdmgomknamdcfaaG30
import Derived.Deep.DeepCutAuto
/- slices.symMergeCmpFunc: a stretch, and one of longer prefixes behind it, change places. No condition but sizes. -/
namespace Go.Proofs.Ytdmgomknamdcfaa
open Go.RowKit
set_option linter.unusedVariables false
set_option maxRecDepth 20000
set_option linter.unusedSimpArgs false

def mvI (lo k t : Nat) : Nat := if lo ≤ t ∧ t < k then t + 1 else if t = k then lo else t
def mwI (m k t : Nat) : Nat := if t = k then m else if k < t ∧ t ≤ m then t - 1 else t
theorem mv_start (lo t : Nat) : mvI lo lo t = t := by
 unfold mvI; repeat' split
 all_goals omega
theorem mv_step (lo k t : Nat) (h : lo ≤ k) : mvI lo k (swI k (k + 1) t) = mvI lo (k + 1) t := by
 unfold mvI swI; repeat' split
 all_goals omega
theorem mv_end (lo hi t : Nat) (h : lo + 1 < hi) : mvI lo (hi - 1) t = rotI lo (lo + 1) hi t := by
 unfold mvI rotI; repeat' split
 all_goals omega
theorem mw_start (m t : Nat) : mwI m m t = t := by
 unfold mwI; repeat' split
 all_goals omega
theorem mw_step (m k t : Nat) (h : k + 1 ≤ m) : mwI m (k + 1) (swI (k + 1) k t) = mwI m k t := by
 unfold mwI swI; repeat' split
 all_goals omega
theorem mw_end (lo m t : Nat) (h : lo < m) : mwI m lo t = rotI lo m (m + 1) t := by
 unfold mwI rotI; repeat' split
 all_goals omega
theorem rot_left (lo S m hi H t : Nat) (h1 : S + hi = H + m) (h2 : lo ≤ S) (h3 : S < m) (h4 : m < hi) (h5 : H < m) : rotI S m hi (rotI lo S H t) = rotI lo m hi t := by
 unfold rotI; repeat' split
 all_goals omega
theorem rot_right (lo m E hi H t : Nat) (h1 : E + lo = H + m) (h2 : lo < m) (h3 : m < E) (h4 : E ≤ hi) (h5 : m ≤ H) : rotI lo m E (rotI H E hi t) = rotI lo m hi t := by
 unfold rotI; repeat' split
 all_goals omega
/-- what the merge is asked of, and what it gives -/
def MergeOK (lo mid hi : Nat) : Prop := ∀ (base : Nat) (A : Option Addr) (n c : Nat) (d : Nat → Itm), n ≤ 1000000 → lo < mid → mid < hi → hi ≤ n → (∀ i j, lo ≤ i → i < mid → mid ≤ j → j < hi → (d i).1.len < (d j).1.len) → ∀ (w : World), Rd w base A n c d →
  Calls Try.prog 78 #[.slice A n c, .int .i64 (lo : Nat), .int .i64 (mid : Nat), .int .i64 (hi : Nat), cmpV] w fun e w' => e = .returned (.tuple #[]) ∧ Rd w' base A n c (fun k => d (rotI lo mid hi k)) ∧ Kept (blkS A c) w w'
set_option maxHeartbeats 4000000 in
theorem merge_first (lo hi : Nat) : MergeOK lo (lo + 1) hi := by
 intro base A n c d hn hl hm hh hd w hR
 have HR0 := Hh hR
 have HD := Hh hd
 have HN := Hh hn
 clear hR hd
 obtain ⟨g, rfl, hgS, hgb, hgl⟩ := HR0.out.at_ (k := lo) (by omega)
 have HGS := Hh hgS
 clear hgS hgb hgl
 unfold cmpV
 go_enter Try.func78, Try.ntmps78
 obtain ⟨mid, hmid⟩ : ∃ mid, lo + 1 = mid := ⟨_, rfl⟩
 have HMID := Hh hmid
 rw [hmid]
 rw [hmid] at hl hm HD
 have hm1 : (mid : Int) - (lo : Int) = 1 := by omega
 have hn6 : (n : Int) ≤ 1000000 := by omega
 clear hmid
 go_wp2_with fail
 go_loopw [10, 11, 12] (fun s10 s11 _ wr => ∃ (i : Nat), mid ≤ i ∧ i ≤ hi ∧ s10 = .int .i64 (i : Nat) ∧ s11 = .int .i64 (hi : Nat) ∧ Rd wr base (some ⟨g, 0, none⟩) n c d ∧ Kept (blkS (some ⟨g, 0, none⟩) c) w wr) (fun s10 _ _ _ => hi - (intOf s10).toNat)
 case atStart => exact ⟨mid, Nat.le_refl _, by omega, rfl, rfl, HR0.out, Kept.refl _ _⟩
 case round =>
  obtain ⟨i, hi1, hi2, rfl, rfl, hR, hk⟩ := hrel
  clear HR0 hm1
  have HR := Hh hR
  have HK0 := Hh hk
  clear hR hk
  by_cases hlt : i < hi
  ·obtain ⟨h, hh9⟩ : ∃ h, (i + hi) / 2 = h := ⟨_, rfl⟩
   have h8 : i ≤ h ∧ h < hi := by omega
   have HH := Hh (show ((i : Int) + (hi : Int)) / 2 = (h : Int) by omega)
   have HH8 := Hh h8
   obtain ⟨x, hx⟩ : ∃ x, d h = x := ⟨_, rfl⟩
   obtain ⟨y, hy⟩ : ∃ y, d lo = y := ⟨_, rfl⟩
   have HLT := Hh (show y.1.len < x.1.len by rw [← hx, ← hy]; exact HD.out lo h (Nat.le_refl _) hl (by omega) h8.2)
   have h1 := HR.out.cells (k := h) (by omega)
   have h2 := HR.out.cells (k := lo) (by omega)
   have h3 := HR.out.fit h (by omega)
   have h4 := HR.out.fit lo (by omega)
   rw [hx] at h1 h3
   rw [hy] at h2 h4
   have HXC := Hh h1
   have HYC := Hh h2
   have HXF := Hh h3
   have HYF := Hh h4
   have HGL := Hh (HR.out.lt (k := lo) (by omega))
   have hlt2 : (i : Int) < (hi : Int) := by omega
   have hlt3 : (hi : Int) ≤ 1000000 := by omega
   have hh6 : (h : Int) < (n : Int) := by omega
   have hl6 : (lo : Int) < (n : Int) := by omega
   have hh7 : (h : Int) + 1 ≤ 1000000 := by omega
   clear h1 h2 h3 h4 hx hy hh9 h8
   go_wp2_with fail
   rw [HH.out]
   refine wp_region_rel (fun A B => A.grownBy B none) (fun A => grown_refl A _) (fun A B C h k => grown_trans h k) (relAt (eqs [.func (.func 42) #[] #[], .slice (some ⟨g, 0, none⟩) n c, .int .i64 (h : Nat), .pointer (some ⟨g, h * 19, none⟩), .agg (itC x).toArray, .slice (some ⟨g, 0, none⟩) n c, .int .i64 (lo : Nat), .pointer (some ⟨g, lo * 19, none⟩), .agg (itC y).toArray, .int .i64 (cmpL x y), .bool true])) (MonoL.at_ (eqs_mono _)) (by kernel_rfl) (by kernel_rfl) ⟨?_, ?_, ?_, ?_, ?_, ?_, ?_, ?_, ?_, ?_, ?_, trivial⟩ ?_
   ·intro a vs W hX hR he hf K hK
    refine wn rfl ?_
    have e4 : a.eval (.tmp 4) = .func (.func 42) #[] #[] := hf 4 (by kernel_rfl)
    refine wV hK rfl ?_
    simp only [execOp, e4]
    try go_simp
   ·intro a vs W hX hR he hf K hK
    refine wn rfl ?_
    have e0 : a.eval (.tmp 0) = .slice (some ⟨g, 0, none⟩) n c := hf 0 (by kernel_rfl)
    refine wV hK rfl ?_
    simp only [execOp, e0]
    try go_simp
   ·intro a vs W hX hR he hf K hK
    refine wn rfl ?_
    have e12 : a.eval (.tmp 12) = .int .i64 (h : Nat) := hf 12 (by kernel_rfl)
    refine wV hK rfl ?_
    simp only [execOp, e12]
    try go_simp
   ·intro a vs W hX hR he hf K hK
    refine wn rfl ?_
    have e41 : a.eval (.tmp 41) = .slice (some ⟨g, 0, none⟩) n c := eH he hR 1 (by kernel_rfl) rfl
    have e42 : a.eval (.tmp 42) = .int .i64 (h : Nat) := eH he hR 2 (by kernel_rfl) rfl
    refine wV hK rfl ?_
    simp only [execOp, e41, e42]
    go_simp
   ·intro a vs W hX hR he hf K hK
    refine wn rfl ?_
    have e43 : a.eval (.tmp 43) = .pointer (some ⟨g, h * 19, none⟩) := eH he hR 3 (by kernel_rfl) rfl
    have hbW := bthen (below_drew _) (grow_below hX)
    exact wp_value (exec_load_mid 35 _ rfl g (h * 19) e43 (itC x) _ (range_below hbW HGL.out HXC.out) Try.underlying35 rfl (sizeIt _ HXF.out.addr)) (gK hK rfl)
   ·intro a vs W hX hR he hf K hK
    refine wn rfl ?_
    have e0 : a.eval (.tmp 0) = .slice (some ⟨g, 0, none⟩) n c := hf 0 (by kernel_rfl)
    refine wV hK rfl ?_
    simp only [execOp, e0]
    try go_simp
   ·intro a vs W hX hR he hf K hK
    refine wn rfl ?_
    have e1 : a.eval (.tmp 1) = .int .i64 (lo : Nat) := hf 1 (by kernel_rfl)
    refine wV hK rfl ?_
    simp only [execOp, e1]
    try go_simp
   ·intro a vs W hX hR he hf K hK
    refine wn rfl ?_
    have e45 : a.eval (.tmp 45) = .slice (some ⟨g, 0, none⟩) n c := eH he hR 5 (by kernel_rfl) rfl
    have e46 : a.eval (.tmp 46) = .int .i64 (lo : Nat) := eH he hR 6 (by kernel_rfl) rfl
    refine wV hK rfl ?_
    simp only [execOp, e45, e46]
    go_simp
   ·intro a vs W hX hR he hf K hK
    refine wn rfl ?_
    have e47 : a.eval (.tmp 47) = .pointer (some ⟨g, lo * 19, none⟩) := eH he hR 7 (by kernel_rfl) rfl
    have hbW := bthen (below_drew _) (grow_below hX)
    exact wp_value (exec_load_mid 35 _ rfl g (lo * 19) e47 (itC y) _ (range_below hbW HGL.out HYC.out) Try.underlying35 rfl (sizeIt _ HYF.out.addr)) (gK hK rfl)
   ·intro a vs W hX hR he hf K hK
    refine wn rfl ?_
    have e40 : a.eval (.tmp 40) = .func (.func 42) #[] #[] := eH he hR 0 (by kernel_rfl) rfl
    have e44 : a.eval (.tmp 44) = .agg (itC x).toArray := eH he hR 4 (by kernel_rfl) rfl
    have e48 : a.eval (.tmp 48) = .agg (itC y).toArray := eH he hR 8 (by kernel_rfl) rfl
    refine wp_enter (f := 42) (args := #[.agg (itC x).toArray, .agg (itC y).toArray]) (exec_callv2 _ _ _ _ _ #[] _ _ rfl e40 e44 e48 (by kernel_rfl)) ((less_any x y HXF.out HYF.out W).mono ?_)
    rintro e w' ⟨rfl, hb⟩
    exact ⟨_, rfl, hK _ _ rfl (below_grow hb _)⟩
   ·intro a vs W hX hR he hf K hK
    refine wn rfl ?_
    have e49 : a.eval (.tmp 49) = .int .i64 (cmpL x y) := eH he hR 9 (by kernel_rfl) rfl
    refine wV hK rfl ?_
    have h9 := cmpL_lt HLT.out
    simp only [execOp, e49]
    go_simp
    try omega
   intro vs wx hXx hR
   rw [put_eqs hR rfl]
   simp only [putL, Act.put, List.setIfInBounds_toArray, List.set_cons_zero, List.set_cons_succ]
   clear hR
   replace HR := Hh (HR.out.on (bthen (below_drew _) (grow_below hXx)))
   replace HK0 := Hh (HK0.out.then_below (bthen (below_drew _) (grow_below hXx)))
   clear hXx
   go_wp2_with fail
   go_roundw
   case rel => exact ⟨h + 1, by have := HH8.out; omega, by have := HH8.out; omega, by simp, rfl, HR.out, HK0.out⟩
   case measure => simp [intOf]; have := HH8.out; omega
  obtain rfl : i = hi := by omega
  go_wp2_with fail
  go_loopw [13] (fun s13 wr => ∃ (k : Nat), lo ≤ k ∧ k + 1 ≤ i ∧ s13 = .int .i64 (k : Nat) ∧ Rd wr base (some ⟨g, 0, none⟩) n c (fun t => d (mvI lo k t)) ∧ Kept (blkS (some ⟨g, 0, none⟩) c) w wr) (fun s13 _ => i - (intOf s13).toNat)
  case atStart => exact ⟨lo, Nat.le_refl _, by omega, rfl, HR.out.congr (fun t _ => by rw [mv_start]), HK0.out⟩
  case round =>
   obtain ⟨k, hk1, hk2, rfl, hR, hk⟩ := hrel
   clear HR HK0
   have HR := Hh hR
   have HK0 := Hh hk
   clear hR hk
   by_cases hlt : k + 1 < i
   ·obtain ⟨q, hq⟩ : ∃ q, k + 1 = q := ⟨_, rfl⟩
    have HQ := Hh hq
    obtain ⟨x, hx⟩ : ∃ x, d (mvI lo k k) = x := ⟨_, rfl⟩
    obtain ⟨y, hy⟩ : ∃ y, d (mvI lo k q) = y := ⟨_, rfl⟩
    have h1 := HR.out.cells (k := k) (by omega)
    have h2 := HR.out.cells (k := q) (by omega)
    have h3 := HR.out.fit k (by omega)
    have h4 := HR.out.fit q (by omega)
    simp only [hx, hy] at h1 h2 h3 h4
    have HXC := Hh h1
    have HYC := Hh h2
    have HXF := Hh h3
    have HYF := Hh h4
    have HX := Hh hx
    have HY := Hh hy
    have HGL := Hh (HR.out.lt (k := k) (by omega))
    clear h1 h2 h3 h4
    have hk6 : (k : Int) < (n : Int) := by omega
    have hq6 : (q : Int) < (n : Int) := by omega
    have hk7 : (k : Int) < (i : Int) - 1 := by omega
    have hk8 : (i : Int) ≤ (n : Int) := by omega
    have HQ1 := Hh (show (k : Int) + 1 = (q : Int) by omega)
    clear hx hy hq
    go_wp2_with fail
    refine wp_region_mid 15 17 [true, true, true, true, true, true, true, true, true, true, true, true, true, true, true, true, true] (fun _ => True) (fun _ W => Own W base 35 19 (some ⟨g, 0, none⟩) n c ((its (rowD n (fun t => d (mvI lo k t)))).take (k * 19) ++ itC y ++ (its (rowD n (fun t => d (mvI lo k t)))).drop (k * 19 + (itC y).length)) ∧ Kept (blkS (some ⟨g, 0, none⟩) c) wr W) (fun A B => A.grownBy B none) (fun A => grown_refl A _) (fun A B C h k => grown_trans h k) (relAt (List.cons (fun v _ => v = .slice (some ⟨g, 0, none⟩) n c) (List.cons (fun v _ => v = .int .i64 (k : Nat)) (List.cons (fun v _ => v = .slice (some ⟨g, 0, none⟩) n c) (List.cons (fun v _ => v = .int .i64 (k : Nat)) (List.cons (fun v _ => v = .int .i64 (q : Nat)) (List.cons (fun v _ => v = .slice (some ⟨g, 0, none⟩) n c) (List.cons (fun v _ => v = .int .i64 (k : Nat)) (List.cons (fun v _ => v = .int .i64 (q : Nat)) (List.cons (fun v _ => v = .pointer (some ⟨g, q * 19, none⟩)) (List.cons (fun v _ => v = .agg (itC y).toArray) (List.cons (fun v _ => v = .slice (some ⟨g, 0, none⟩) n c) (List.cons (fun v _ => v = .int .i64 (k : Nat)) (List.cons (fun v _ => v = .pointer (some ⟨g, k * 19, none⟩)) (List.cons (fun v _ => v = .agg (itC x).toArray) (List.cons (fun v _ => v = .pointer (some ⟨g, k * 19, none⟩)) (List.cons (fun _ _ => True) (List.cons (fun v _ => v = .pointer (some ⟨g, q * 19, none⟩)) ([]))))))))))))))))))) (MonoL.at_ (.cons (mono_val _) (.cons (mono_val _) (.cons (mono_val _) (.cons (mono_val _) (.cons (mono_val _) (.cons (mono_val _) (.cons (mono_val _) (.cons (mono_val _) (.cons (mono_val _) (.cons (mono_val _) (.cons (mono_val _) (.cons (mono_val _) (.cons (mono_val _) (.cons (mono_val _) (.cons (mono_val _) (.cons ((fun _ _ _ h _ => h)) (.cons (mono_val _) .nil)))))))))))))))))) (ConstL.at_ (.cons (fun _ _ _ h => h) (.cons (fun _ _ _ h => h) (.cons (fun _ _ _ h => h) (.cons (fun _ _ _ h => h) (.cons (fun _ _ _ h => h) (.cons (fun _ _ _ h => h) (.cons (fun _ _ _ h => h) (.cons (fun _ _ _ h => h) (.cons (fun _ _ _ h => h) (.cons (fun _ _ _ h => h) (.cons (fun _ _ _ h => h) (.cons (fun _ _ _ h => h) (.cons (fun _ _ _ h => h) (.cons (fun _ _ _ h => h) (.cons (fun _ _ _ h => h) (.cons (fun _ _ _ h => h) (.cons (fun _ _ _ h => h) .nil)))))))))))))))))) (fun v W h => True.intro) (fun W hX => True.intro) (fun v W h => True.intro) (by kernel_rfl) (by kernel_rfl) rfl (by decide) (by kernel_rfl) (by kernel_rfl) _ rfl rfl ⟨?_, ?_, ?_, ?_, ?_, ?_, ?_, ?_, ?_, ?_, ?_, ?_, ?_, ?_, ?_, ?_, ?_, trivial⟩ ?_
    ·refine stepM_anc ?_ ?_ ?_
     ·rfl
     ·kernel_rfl
     intro a vs W hX hR he hf K hK
     refine wn rfl ?_
     have e0 : a.eval (.tmp 0) = .slice (some ⟨g, 0, none⟩) n c := hf 0 (by kernel_rfl)
     refine wV hK rfl ?_
     simp only [execOp, e0]
     try go_simp
    ·refine stepM_anc ?_ ?_ ?_
     ·rfl
     ·kernel_rfl
     intro a vs W hX hR he hf K hK
     refine wn rfl ?_
     have e13 : a.eval (.tmp 13) = .int .i64 (k : Nat) := hf 13 (by kernel_rfl)
     refine wV hK rfl ?_
     simp only [execOp, e13]
     try go_simp
    ·refine stepM_calm ?_ ?_ ?_
     ·rfl
     ·kernel_rfl
     intro a vs W hS hR he hf K hK
     refine wn rfl ?_
     have e0 : a.eval (.tmp 0) = .slice (some ⟨g, 0, none⟩) n c := hf 0 (by kernel_rfl)
     refine wp_value (v := .slice (some ⟨g, 0, none⟩) n c) ?_ (hK _ rfl)
     simp only [execOp, e0]
     try go_simp
    ·refine stepM_calm ?_ ?_ ?_
     ·rfl
     ·kernel_rfl
     intro a vs W hS hR he hf K hK
     refine wn rfl ?_
     have e13 : a.eval (.tmp 13) = .int .i64 (k : Nat) := hf 13 (by kernel_rfl)
     refine wp_value (v := .int .i64 (k : Nat)) ?_ (hK _ rfl)
     simp only [execOp, e13]
     try go_simp
    ·refine stepM_calm ?_ ?_ ?_
     ·rfl
     ·kernel_rfl
     intro a vs W hS hR he hf K hK
     refine wn rfl ?_
     have e64 : a.eval (.tmp 64) = .int .i64 (k : Nat) := (he 3 64 (by kernel_rfl) rfl).trans (hR 3 (by kernel_rfl) rfl)
     refine wp_value (v := .int .i64 (q : Nat)) ?_ (hK _ rfl)
     rw [← HQ1.out]
     simp only [execOp, e64]
     go_simp
     simp only [IntKind.wrap_i64]
     omega
    ·refine stepM_anc ?_ ?_ ?_
     ·rfl
     ·kernel_rfl
     intro a vs W hX hR he hf K hK
     refine wn rfl ?_
     have e0 : a.eval (.tmp 0) = .slice (some ⟨g, 0, none⟩) n c := hf 0 (by kernel_rfl)
     refine wV hK rfl ?_
     simp only [execOp, e0]
     try go_simp
    ·refine stepM_anc ?_ ?_ ?_
     ·rfl
     ·kernel_rfl
     intro a vs W hX hR he hf K hK
     refine wn rfl ?_
     have e13 : a.eval (.tmp 13) = .int .i64 (k : Nat) := hf 13 (by kernel_rfl)
     refine wV hK rfl ?_
     simp only [execOp, e13]
     try go_simp
    ·refine stepM_anc ?_ ?_ ?_
     ·rfl
     ·kernel_rfl
     intro a vs W hX hR he hf K hK
     refine wn rfl ?_
     have e67 : a.eval (.tmp 67) = .int .i64 (k : Nat) := eH he hR 6 (by kernel_rfl) rfl
     refine wV hK rfl ?_
     rw [← HQ1.out]
     simp only [execOp, e67]
     go_simp
     simp only [IntKind.wrap_i64]
     omega
    ·refine stepM_anc ?_ ?_ ?_
     ·rfl
     ·kernel_rfl
     intro a vs W hX hR he hf K hK
     refine wn rfl ?_
     have e66 : a.eval (.tmp 66) = .slice (some ⟨g, 0, none⟩) n c := eH he hR 5 (by kernel_rfl) rfl
     have e68 : a.eval (.tmp 68) = .int .i64 (q : Nat) := eH he hR 7 (by kernel_rfl) rfl
     refine wV hK rfl ?_
     simp only [execOp, e66, e68]
     go_simp
    ·refine stepM_anc ?_ ?_ ?_
     ·rfl
     ·kernel_rfl
     intro a vs W hX hR he hf K hK
     refine wn rfl ?_
     have e69 : a.eval (.tmp 69) = .pointer (some ⟨g, q * 19, none⟩) := eH he hR 8 (by kernel_rfl) rfl
     have hbW := bthen (below_drew _) (grow_below hX)
     exact wp_value (exec_load_mid 35 _ rfl g (q * 19) e69 (itC y) _ (range_below hbW HGL.out HYC.out) Try.underlying35 rfl (sizeIt _ HYF.out.addr)) (gK hK rfl)
    ·refine stepM_anc ?_ ?_ ?_
     ·rfl
     ·kernel_rfl
     intro a vs W hX hR he hf K hK
     refine wn rfl ?_
     have e0 : a.eval (.tmp 0) = .slice (some ⟨g, 0, none⟩) n c := hf 0 (by kernel_rfl)
     refine wV hK rfl ?_
     simp only [execOp, e0]
     try go_simp
    ·refine stepM_anc ?_ ?_ ?_
     ·rfl
     ·kernel_rfl
     intro a vs W hX hR he hf K hK
     refine wn rfl ?_
     have e13 : a.eval (.tmp 13) = .int .i64 (k : Nat) := hf 13 (by kernel_rfl)
     refine wV hK rfl ?_
     simp only [execOp, e13]
     try go_simp
    ·refine stepM_anc ?_ ?_ ?_
     ·rfl
     ·kernel_rfl
     intro a vs W hX hR he hf K hK
     refine wn rfl ?_
     have e71 : a.eval (.tmp 71) = .slice (some ⟨g, 0, none⟩) n c := eH he hR 10 (by kernel_rfl) rfl
     have e72 : a.eval (.tmp 72) = .int .i64 (k : Nat) := eH he hR 11 (by kernel_rfl) rfl
     refine wV hK rfl ?_
     simp only [execOp, e71, e72]
     go_simp
    ·refine stepM_anc ?_ ?_ ?_
     ·rfl
     ·kernel_rfl
     intro a vs W hX hR he hf K hK
     refine wn rfl ?_
     have e73 : a.eval (.tmp 73) = .pointer (some ⟨g, k * 19, none⟩) := eH he hR 12 (by kernel_rfl) rfl
     have hbW := bthen (below_drew _) (grow_below hX)
     exact wp_value (exec_load_mid 35 _ rfl g (k * 19) e73 (itC x) _ (range_below hbW HGL.out HXC.out) Try.underlying35 rfl (sizeIt _ HXF.out.addr)) (gK hK rfl)
    ·refine stepM_anc ?_ ?_ ?_
     ·rfl
     ·kernel_rfl
     intro a vs W hX hR he hf K hK
     refine wn rfl ?_
     have e61 : a.eval (.tmp 61) = .slice (some ⟨g, 0, none⟩) n c := eH he hR 0 (by kernel_rfl) rfl
     have e62 : a.eval (.tmp 62) = .int .i64 (k : Nat) := eH he hR 1 (by kernel_rfl) rfl
     refine wV hK rfl ?_
     simp only [execOp, e61, e62]
     go_simp
    ·refine stepM_heavy ?_ ?_
     ·rfl
     intro a vs W hX hR he hf K hK
     refine wn rfl ?_
     have e75 : a.eval (.tmp 75) = .pointer (some ⟨g, k * 19, none⟩) := eH he hR 14 (by kernel_rfl) rfl
     have e70 : a.eval (.tmp 70) = .agg (itC y).toArray := eH he hR 9 (by kernel_rfl) rfl
     have hbW := bthen (below_drew _) (grow_below hX)
     refine wp_store_own 35 _ _ rfl g (k * 19) (itC y) e75 e70 (HR.out.own.below hbW) (sizeIt _ HYF.out.addr) (by rw [itC_length _ HYF.out.addr]; omega) (by omega) (oneIt _) ?_
     intro w' ho' hg' hs'
     exact hK _ _ ⟨ho', (Kept.of_below hbW).trans (T := blkS (some ⟨g, 0, none⟩) c) (Kept.of_grown hg' (fun k hk => by injection hk with hk; rw [← hk]; exact HGS.out)) (fun _ h _ => h)⟩
    ·refine stepM_calm ?_ ?_ ?_
     ·rfl
     ·kernel_rfl
     intro a vs W hS hR he hf K hK
     refine wn rfl ?_
     have e63 : a.eval (.tmp 63) = .slice (some ⟨g, 0, none⟩) n c := (he 2 63 (by kernel_rfl) rfl).trans (hR 2 (by kernel_rfl) rfl)
     have e65 : a.eval (.tmp 65) = .int .i64 (q : Nat) := (he 4 65 (by kernel_rfl) rfl).trans (hR 4 (by kernel_rfl) rfl)
     refine wp_value (v := .pointer (some ⟨g, q * 19, none⟩)) ?_ (hK _ rfl)
     simp only [execOp, e63, e65]
     go_simp
    intro vs wv hPv hR
    have q0 := hR 0 (by decide) rfl
    change vs 0 = .slice (some ⟨g, 0, none⟩) n c at q0
    have q1 := hR 1 (by decide) rfl
    change vs 1 = .int .i64 (k : Nat) at q1
    have q2 := hR 2 (by decide) rfl
    change vs 2 = .slice (some ⟨g, 0, none⟩) n c at q2
    have q3 := hR 3 (by decide) rfl
    change vs 3 = .int .i64 (k : Nat) at q3
    have q4 := hR 4 (by decide) rfl
    change vs 4 = .int .i64 (q : Nat) at q4
    have q5 := hR 5 (by decide) rfl
    change vs 5 = .slice (some ⟨g, 0, none⟩) n c at q5
    have q6 := hR 6 (by decide) rfl
    change vs 6 = .int .i64 (k : Nat) at q6
    have q7 := hR 7 (by decide) rfl
    change vs 7 = .int .i64 (q : Nat) at q7
    have q8 := hR 8 (by decide) rfl
    change vs 8 = .pointer (some ⟨g, q * 19, none⟩) at q8
    have q9 := hR 9 (by decide) rfl
    change vs 9 = .agg (itC y).toArray at q9
    have q10 := hR 10 (by decide) rfl
    change vs 10 = .slice (some ⟨g, 0, none⟩) n c at q10
    have q11 := hR 11 (by decide) rfl
    change vs 11 = .int .i64 (k : Nat) at q11
    have q12 := hR 12 (by decide) rfl
    change vs 12 = .pointer (some ⟨g, k * 19, none⟩) at q12
    have q13 := hR 13 (by decide) rfl
    change vs 13 = .agg (itC x).toArray at q13
    have q14 := hR 14 (by decide) rfl
    change vs 14 = .pointer (some ⟨g, k * 19, none⟩) at q14
    have q16 := hR 16 (by decide) rfl
    change vs 16 = .pointer (some ⟨g, q * 19, none⟩) at q16
    simp only [putAll, Act.put, List.setIfInBounds_toArray, List.set_cons_zero, List.set_cons_succ, List.take_succ_cons, List.take_zero, q0, q1, q2, q3, q4, q5, q6, q7, q8, q9, q10, q11, q12, q13, q14, q16]
    clear q0 q1 q2 q3 q4 q5 q6 q7 q8 q9 q10 q11 q12 q13 q14 q16
    clear hR
    generalize vs 15 = vh at hPv ⊢
    obtain ⟨hoy, hky⟩ := hPv
    have hRy := HR.out.put (i := k) (by omega) y HYF.out hoy
    refine wp_store_own 35 _ _ rfl g (q * 19) (itC x) rfl rfl hRy.own (sizeIt _ HXF.out.addr) (by rw [itC_length _ HXF.out.addr]; omega) (by omega) (oneIt _) ?_
    intro wz hoz hgz hsz
    have hkz := hky.trans (T := blkS (some ⟨g, 0, none⟩) c) (Kept.of_grown hgz (fun k hk => by injection hk with hk; rw [← hk]; exact HGS.out)) (fun _ h _ => h)
    try simp only [List.getElem_toArray, List.getElem_cons_succ, List.getElem_cons_zero, Act.put, List.setIfInBounds_toArray, List.set_cons_zero, List.set_cons_succ]
    have hRz := (HR.out.put (i := k) (by omega) y HYF.out hoy).put (i := q) (by omega) x HXF.out hoz
    have HRZ := Hh (hRz.congr (e := fun t => d (mvI lo q t)) (fun t _ => by
     rw [← HQ.out, ← mv_step lo k t hk1, HQ.out]
     have h9 := congrFun (sw_eq (fun t => d (mvI lo k t)) k q) t
     unfold sw at h9
     simp only [HX.out, HY.out] at h9
     exact h9))
    have HKZ := Hh (HK0.out.trans (T := blkS (some ⟨g, 0, none⟩) c) hkz (fun _ h _ => h))
    clear hRz hkz
    go_wp2_with fail
    go_roundw
    case rel => exact ⟨q, by have := HQ.out; omega, by have := HQ.out; omega, by rw [← HQ1.out], HRZ.out, HKZ.out⟩
    case measure => simp [intOf]; have := HQ.out; omega
   have hk7 : ¬ (k : Int) < (i : Int) - 1 := by omega
   have hk8 : (i : Int) ≤ (n : Int) := by omega
   have hk9 : (1 : Int) ≤ (i : Int) := by omega
   go_wp2_with fail
   refine bodyPost_ret (results_none rfl _ _ _) rfl ⟨rfl, HR.out.congr (fun t _ => ?_), HK0.out⟩
   rw [show k = i - 1 by omega, ← HMID.out, mv_end lo i t (by have := HMID.out; omega)]
set_option maxHeartbeats 4000000 in
theorem merge_last (lo mid : Nat) (hne : lo + 1 < mid) : MergeOK lo mid (mid + 1) := by
 intro base A n c d hn hl hm hh hd w hR
 have HR0 := Hh hR
 have HD := Hh hd
 have HN := Hh hn
 clear hR hd
 obtain ⟨g, rfl, hgS, hgb, hgl⟩ := HR0.out.at_ (k := lo) (by omega)
 have HGS := Hh hgS
 clear hgS hgb hgl
 unfold cmpV
 go_enter Try.func78, Try.ntmps78
 obtain ⟨hi, hhi⟩ : ∃ hi, mid + 1 = hi := ⟨_, rfl⟩
 have HHI := Hh hhi
 rw [hhi]
 rw [hhi] at hm hh HD
 have hm0 : ¬ (mid : Int) - (lo : Int) = 1 := by omega
 have hm1 : (hi : Int) - (mid : Int) = 1 := by omega
 have hn6 : (n : Int) ≤ 1000000 := by omega
 have hn7 : (hi : Int) ≤ (n : Int) := by omega
 clear hhi hne
 go_wp2_with fail
 go_loopw [14, 15, 16] (fun s14 s15 _ wr => ∃ (j : Nat), lo ≤ j ∧ j ≤ mid ∧ s14 = .int .i64 (lo : Nat) ∧ s15 = .int .i64 (j : Nat) ∧ Rd wr base (some ⟨g, 0, none⟩) n c d ∧ Kept (blkS (some ⟨g, 0, none⟩) c) w wr) (fun _ s15 _ _ => (intOf s15).toNat)
 case atStart => exact ⟨mid, by omega, Nat.le_refl _, rfl, rfl, HR0.out, Kept.refl _ _⟩
 case round =>
  obtain ⟨j, hj1, hj2, rfl, rfl, hR, hk⟩ := hrel
  clear HR0 hm1 hm0
  have HR := Hh hR
  have HK0 := Hh hk
  clear hR hk
  by_cases hlt : lo < j
  ·obtain ⟨h, hh9⟩ : ∃ h, (lo + j) / 2 = h := ⟨_, rfl⟩
   have h8 : lo ≤ h ∧ h < j := by omega
   have HH := Hh (show ((lo : Int) + (j : Int)) / 2 = (h : Int) by omega)
   have HH8 := Hh h8
   obtain ⟨x, hx⟩ : ∃ x, d mid = x := ⟨_, rfl⟩
   obtain ⟨y, hy⟩ : ∃ y, d h = y := ⟨_, rfl⟩
   have HLT := Hh (show y.1.len < x.1.len by rw [← hx, ← hy]; exact HD.out h mid h8.1 (by omega) (Nat.le_refl _) hm)
   have h1 := HR.out.cells (k := mid) (by omega)
   have h2 := HR.out.cells (k := h) (by omega)
   have h3 := HR.out.fit mid (by omega)
   have h4 := HR.out.fit h (by omega)
   rw [hx] at h1 h3
   rw [hy] at h2 h4
   have HXC := Hh h1
   have HYC := Hh h2
   have HXF := Hh h3
   have HYF := Hh h4
   have HGL := Hh (HR.out.lt (k := lo) (by omega))
   have hlt2 : (lo : Int) < (j : Int) := by omega
   have hlt3 : (j : Int) ≤ 1000000 := by omega
   have hh6 : (h : Int) < (n : Int) := by omega
   have hm6 : (mid : Int) < (n : Int) := by omega
   clear h1 h2 h3 h4 hx hy hh9 h8
   go_wp2_with fail
   rw [HH.out]
   refine wp_region_rel (fun A B => A.grownBy B none) (fun A => grown_refl A _) (fun A B C h k => grown_trans h k) (relAt (eqs [.func (.func 42) #[] #[], .slice (some ⟨g, 0, none⟩) n c, .int .i64 (mid : Nat), .pointer (some ⟨g, mid * 19, none⟩), .agg (itC x).toArray, .slice (some ⟨g, 0, none⟩) n c, .int .i64 (h : Nat), .pointer (some ⟨g, h * 19, none⟩), .agg (itC y).toArray, .int .i64 (cmpL x y), .bool true, .bool false])) (MonoL.at_ (eqs_mono _)) (by kernel_rfl) (by kernel_rfl) ⟨?_, ?_, ?_, ?_, ?_, ?_, ?_, ?_, ?_, ?_, ?_, ?_, trivial⟩ ?_
   ·intro a vs W hX hR he hf K hK
    refine wn rfl ?_
    have e4 : a.eval (.tmp 4) = .func (.func 42) #[] #[] := hf 4 (by kernel_rfl)
    refine wV hK rfl ?_
    simp only [execOp, e4]
    try go_simp
   ·intro a vs W hX hR he hf K hK
    refine wn rfl ?_
    have e0 : a.eval (.tmp 0) = .slice (some ⟨g, 0, none⟩) n c := hf 0 (by kernel_rfl)
    refine wV hK rfl ?_
    simp only [execOp, e0]
    try go_simp
   ·intro a vs W hX hR he hf K hK
    refine wn rfl ?_
    have e2 : a.eval (.tmp 2) = .int .i64 (mid : Nat) := hf 2 (by kernel_rfl)
    refine wV hK rfl ?_
    simp only [execOp, e2]
    try go_simp
   ·intro a vs W hX hR he hf K hK
    refine wn rfl ?_
    have e93 : a.eval (.tmp 93) = .slice (some ⟨g, 0, none⟩) n c := eH he hR 1 (by kernel_rfl) rfl
    have e94 : a.eval (.tmp 94) = .int .i64 (mid : Nat) := eH he hR 2 (by kernel_rfl) rfl
    refine wV hK rfl ?_
    simp only [execOp, e93, e94]
    go_simp
   ·intro a vs W hX hR he hf K hK
    refine wn rfl ?_
    have e95 : a.eval (.tmp 95) = .pointer (some ⟨g, mid * 19, none⟩) := eH he hR 3 (by kernel_rfl) rfl
    have hbW := bthen (below_drew _) (grow_below hX)
    exact wp_value (exec_load_mid 35 _ rfl g (mid * 19) e95 (itC x) _ (range_below hbW HGL.out HXC.out) Try.underlying35 rfl (sizeIt _ HXF.out.addr)) (gK hK rfl)
   ·intro a vs W hX hR he hf K hK
    refine wn rfl ?_
    have e0 : a.eval (.tmp 0) = .slice (some ⟨g, 0, none⟩) n c := hf 0 (by kernel_rfl)
    refine wV hK rfl ?_
    simp only [execOp, e0]
    try go_simp
   ·intro a vs W hX hR he hf K hK
    refine wn rfl ?_
    have e16 : a.eval (.tmp 16) = .int .i64 (h : Nat) := hf 16 (by kernel_rfl)
    refine wV hK rfl ?_
    simp only [execOp, e16]
    try go_simp
   ·intro a vs W hX hR he hf K hK
    refine wn rfl ?_
    have e97 : a.eval (.tmp 97) = .slice (some ⟨g, 0, none⟩) n c := eH he hR 5 (by kernel_rfl) rfl
    have e98 : a.eval (.tmp 98) = .int .i64 (h : Nat) := eH he hR 6 (by kernel_rfl) rfl
    refine wV hK rfl ?_
    simp only [execOp, e97, e98]
    go_simp
   ·intro a vs W hX hR he hf K hK
    refine wn rfl ?_
    have e99 : a.eval (.tmp 99) = .pointer (some ⟨g, h * 19, none⟩) := eH he hR 7 (by kernel_rfl) rfl
    have hbW := bthen (below_drew _) (grow_below hX)
    exact wp_value (exec_load_mid 35 _ rfl g (h * 19) e99 (itC y) _ (range_below hbW HGL.out HYC.out) Try.underlying35 rfl (sizeIt _ HYF.out.addr)) (gK hK rfl)
   ·intro a vs W hX hR he hf K hK
    refine wn rfl ?_
    have e92 : a.eval (.tmp 92) = .func (.func 42) #[] #[] := eH he hR 0 (by kernel_rfl) rfl
    have e96 : a.eval (.tmp 96) = .agg (itC x).toArray := eH he hR 4 (by kernel_rfl) rfl
    have e100 : a.eval (.tmp 100) = .agg (itC y).toArray := eH he hR 8 (by kernel_rfl) rfl
    refine wp_enter (f := 42) (args := #[.agg (itC x).toArray, .agg (itC y).toArray]) (exec_callv2 _ _ _ _ _ #[] _ _ rfl e92 e96 e100 (by kernel_rfl)) ((less_any x y HXF.out HYF.out W).mono ?_)
    rintro e w' ⟨rfl, hb⟩
    exact ⟨_, rfl, hK _ _ rfl (below_grow hb _)⟩
   ·intro a vs W hX hR he hf K hK
    refine wn rfl ?_
    have e101 : a.eval (.tmp 101) = .int .i64 (cmpL x y) := eH he hR 9 (by kernel_rfl) rfl
    refine wV hK rfl ?_
    have h9 := cmpL_lt HLT.out
    simp only [execOp, e101]
    go_simp
    try omega
   ·intro a vs W hX hR he hf K hK
    refine wn rfl ?_
    have e102 : a.eval (.tmp 102) = .bool true := eH he hR 10 (by kernel_rfl) rfl
    refine wV hK rfl ?_
    simp only [execOp, e102]
    try go_simp
   intro vs wx hXx hR
   rw [put_eqs hR rfl]
   simp only [putL, Act.put, List.setIfInBounds_toArray, List.set_cons_zero, List.set_cons_succ]
   clear hR
   replace HR := Hh (HR.out.on (bthen (below_drew _) (grow_below hXx)))
   replace HK0 := Hh (HK0.out.then_below (bthen (below_drew _) (grow_below hXx)))
   clear hXx
   go_wp2_with fail
   go_roundw
   case rel => exact ⟨h, by have := HH8.out; omega, by have := HH8.out; omega, rfl, rfl, HR.out, HK0.out⟩
   case measure => simp [intOf]; have := HH8.out; omega
  obtain rfl : lo = j := by omega
  go_wp2_with fail
  go_loopw [17] (fun s17 wr => ∃ (k : Nat), lo ≤ k ∧ k ≤ mid ∧ s17 = .int .i64 (k : Nat) ∧ Rd wr base (some ⟨g, 0, none⟩) n c (fun t => d (mwI mid k t)) ∧ Kept (blkS (some ⟨g, 0, none⟩) c) w wr) (fun s17 _ => (intOf s17).toNat)
  case atStart => exact ⟨mid, by omega, Nat.le_refl _, rfl, HR.out.congr (fun t _ => by rw [mw_start]), HK0.out⟩
  case round =>
   obtain ⟨k, hk1, hk2, rfl, hR, hk⟩ := hrel
   clear HR HK0
   have HR := Hh hR
   have HK0 := Hh hk
   clear hR hk
   by_cases hlt : lo < k
   ·obtain ⟨q, rfl⟩ : ∃ q, k = q + 1 := ⟨k - 1, by omega⟩
    obtain ⟨k, hq⟩ : ∃ k, q + 1 = k := ⟨_, rfl⟩
    rw [hq] at hk1 hk2 hlt HR
    try rw [hq]
    have HQ := Hh hq
    obtain ⟨x, hx⟩ : ∃ x, d (mwI mid k k) = x := ⟨_, rfl⟩
    obtain ⟨y, hy⟩ : ∃ y, d (mwI mid k q) = y := ⟨_, rfl⟩
    have h1 := HR.out.cells (k := k) (by omega)
    have h2 := HR.out.cells (k := q) (by omega)
    have h3 := HR.out.fit k (by omega)
    have h4 := HR.out.fit q (by omega)
    simp only [hx, hy] at h1 h2 h3 h4
    have HXC := Hh h1
    have HYC := Hh h2
    have HXF := Hh h3
    have HYF := Hh h4
    have HX := Hh hx
    have HY := Hh hy
    have HGL := Hh (HR.out.lt (k := k) (by omega))
    clear h1 h2 h3 h4
    have hk6 : (k : Int) < (n : Int) := by omega
    have hq6 : (q : Int) < (n : Int) := by omega
    have hk7 : (lo : Int) < (k : Int) := by omega
    have HQ1 := Hh (show (k : Int) - 1 = (q : Int) by omega)
    clear hx hy hq
    go_wp2_with fail
    refine wp_region_mid 15 17 [true, true, true, true, true, true, true, true, true, true, true, true, true, true, true, true, true] (fun _ => True) (fun _ W => Own W base 35 19 (some ⟨g, 0, none⟩) n c ((its (rowD n (fun t => d (mwI mid k t)))).take (k * 19) ++ itC y ++ (its (rowD n (fun t => d (mwI mid k t)))).drop (k * 19 + (itC y).length)) ∧ Kept (blkS (some ⟨g, 0, none⟩) c) wr W) (fun A B => A.grownBy B none) (fun A => grown_refl A _) (fun A B C h k => grown_trans h k) (relAt (List.cons (fun v _ => v = .slice (some ⟨g, 0, none⟩) n c) (List.cons (fun v _ => v = .int .i64 (k : Nat)) (List.cons (fun v _ => v = .slice (some ⟨g, 0, none⟩) n c) (List.cons (fun v _ => v = .int .i64 (k : Nat)) (List.cons (fun v _ => v = .int .i64 (q : Nat)) (List.cons (fun v _ => v = .slice (some ⟨g, 0, none⟩) n c) (List.cons (fun v _ => v = .int .i64 (k : Nat)) (List.cons (fun v _ => v = .int .i64 (q : Nat)) (List.cons (fun v _ => v = .pointer (some ⟨g, q * 19, none⟩)) (List.cons (fun v _ => v = .agg (itC y).toArray) (List.cons (fun v _ => v = .slice (some ⟨g, 0, none⟩) n c) (List.cons (fun v _ => v = .int .i64 (k : Nat)) (List.cons (fun v _ => v = .pointer (some ⟨g, k * 19, none⟩)) (List.cons (fun v _ => v = .agg (itC x).toArray) (List.cons (fun v _ => v = .pointer (some ⟨g, k * 19, none⟩)) (List.cons (fun _ _ => True) (List.cons (fun v _ => v = .pointer (some ⟨g, q * 19, none⟩)) ([]))))))))))))))))))) (MonoL.at_ (.cons (mono_val _) (.cons (mono_val _) (.cons (mono_val _) (.cons (mono_val _) (.cons (mono_val _) (.cons (mono_val _) (.cons (mono_val _) (.cons (mono_val _) (.cons (mono_val _) (.cons (mono_val _) (.cons (mono_val _) (.cons (mono_val _) (.cons (mono_val _) (.cons (mono_val _) (.cons (mono_val _) (.cons ((fun _ _ _ h _ => h)) (.cons (mono_val _) .nil)))))))))))))))))) (ConstL.at_ (.cons (fun _ _ _ h => h) (.cons (fun _ _ _ h => h) (.cons (fun _ _ _ h => h) (.cons (fun _ _ _ h => h) (.cons (fun _ _ _ h => h) (.cons (fun _ _ _ h => h) (.cons (fun _ _ _ h => h) (.cons (fun _ _ _ h => h) (.cons (fun _ _ _ h => h) (.cons (fun _ _ _ h => h) (.cons (fun _ _ _ h => h) (.cons (fun _ _ _ h => h) (.cons (fun _ _ _ h => h) (.cons (fun _ _ _ h => h) (.cons (fun _ _ _ h => h) (.cons (fun _ _ _ h => h) (.cons (fun _ _ _ h => h) .nil)))))))))))))))))) (fun v W h => True.intro) (fun W hX => True.intro) (fun v W h => True.intro) (by kernel_rfl) (by kernel_rfl) rfl (by decide) (by kernel_rfl) (by kernel_rfl) _ rfl rfl ⟨?_, ?_, ?_, ?_, ?_, ?_, ?_, ?_, ?_, ?_, ?_, ?_, ?_, ?_, ?_, ?_, ?_, trivial⟩ ?_
    ·refine stepM_anc ?_ ?_ ?_
     ·rfl
     ·kernel_rfl
     intro a vs W hX hR he hf K hK
     refine wn rfl ?_
     have e0 : a.eval (.tmp 0) = .slice (some ⟨g, 0, none⟩) n c := hf 0 (by kernel_rfl)
     refine wV hK rfl ?_
     simp only [execOp, e0]
     try go_simp
    ·refine stepM_anc ?_ ?_ ?_
     ·rfl
     ·kernel_rfl
     intro a vs W hX hR he hf K hK
     refine wn rfl ?_
     have e17 : a.eval (.tmp 17) = .int .i64 (k : Nat) := hf 17 (by kernel_rfl)
     refine wV hK rfl ?_
     simp only [execOp, e17]
     try go_simp
    ·refine stepM_calm ?_ ?_ ?_
     ·rfl
     ·kernel_rfl
     intro a vs W hS hR he hf K hK
     refine wn rfl ?_
     have e0 : a.eval (.tmp 0) = .slice (some ⟨g, 0, none⟩) n c := hf 0 (by kernel_rfl)
     refine wp_value (v := .slice (some ⟨g, 0, none⟩) n c) ?_ (hK _ rfl)
     simp only [execOp, e0]
     try go_simp
    ·refine stepM_calm ?_ ?_ ?_
     ·rfl
     ·kernel_rfl
     intro a vs W hS hR he hf K hK
     refine wn rfl ?_
     have e17 : a.eval (.tmp 17) = .int .i64 (k : Nat) := hf 17 (by kernel_rfl)
     refine wp_value (v := .int .i64 (k : Nat)) ?_ (hK _ rfl)
     simp only [execOp, e17]
     try go_simp
    ·refine stepM_calm ?_ ?_ ?_
     ·rfl
     ·kernel_rfl
     intro a vs W hS hR he hf K hK
     refine wn rfl ?_
     have e116 : a.eval (.tmp 116) = .int .i64 (k : Nat) := (he 3 116 (by kernel_rfl) rfl).trans (hR 3 (by kernel_rfl) rfl)
     refine wp_value (v := .int .i64 (q : Nat)) ?_ (hK _ rfl)
     rw [← HQ1.out]
     simp only [execOp, e116]
     go_simp
     simp only [IntKind.wrap_i64]
     omega
    ·refine stepM_anc ?_ ?_ ?_
     ·rfl
     ·kernel_rfl
     intro a vs W hX hR he hf K hK
     refine wn rfl ?_
     have e0 : a.eval (.tmp 0) = .slice (some ⟨g, 0, none⟩) n c := hf 0 (by kernel_rfl)
     refine wV hK rfl ?_
     simp only [execOp, e0]
     try go_simp
    ·refine stepM_anc ?_ ?_ ?_
     ·rfl
     ·kernel_rfl
     intro a vs W hX hR he hf K hK
     refine wn rfl ?_
     have e17 : a.eval (.tmp 17) = .int .i64 (k : Nat) := hf 17 (by kernel_rfl)
     refine wV hK rfl ?_
     simp only [execOp, e17]
     try go_simp
    ·refine stepM_anc ?_ ?_ ?_
     ·rfl
     ·kernel_rfl
     intro a vs W hX hR he hf K hK
     refine wn rfl ?_
     have e119 : a.eval (.tmp 119) = .int .i64 (k : Nat) := eH he hR 6 (by kernel_rfl) rfl
     refine wV hK rfl ?_
     rw [← HQ1.out]
     simp only [execOp, e119]
     go_simp
     simp only [IntKind.wrap_i64]
     omega
    ·refine stepM_anc ?_ ?_ ?_
     ·rfl
     ·kernel_rfl
     intro a vs W hX hR he hf K hK
     refine wn rfl ?_
     have e118 : a.eval (.tmp 118) = .slice (some ⟨g, 0, none⟩) n c := eH he hR 5 (by kernel_rfl) rfl
     have e120 : a.eval (.tmp 120) = .int .i64 (q : Nat) := eH he hR 7 (by kernel_rfl) rfl
     refine wV hK rfl ?_
     simp only [execOp, e118, e120]
     go_simp
    ·refine stepM_anc ?_ ?_ ?_
     ·rfl
     ·kernel_rfl
     intro a vs W hX hR he hf K hK
     refine wn rfl ?_
     have e121 : a.eval (.tmp 121) = .pointer (some ⟨g, q * 19, none⟩) := eH he hR 8 (by kernel_rfl) rfl
     have hbW := bthen (below_drew _) (grow_below hX)
     exact wp_value (exec_load_mid 35 _ rfl g (q * 19) e121 (itC y) _ (range_below hbW HGL.out HYC.out) Try.underlying35 rfl (sizeIt _ HYF.out.addr)) (gK hK rfl)
    ·refine stepM_anc ?_ ?_ ?_
     ·rfl
     ·kernel_rfl
     intro a vs W hX hR he hf K hK
     refine wn rfl ?_
     have e0 : a.eval (.tmp 0) = .slice (some ⟨g, 0, none⟩) n c := hf 0 (by kernel_rfl)
     refine wV hK rfl ?_
     simp only [execOp, e0]
     try go_simp
    ·refine stepM_anc ?_ ?_ ?_
     ·rfl
     ·kernel_rfl
     intro a vs W hX hR he hf K hK
     refine wn rfl ?_
     have e17 : a.eval (.tmp 17) = .int .i64 (k : Nat) := hf 17 (by kernel_rfl)
     refine wV hK rfl ?_
     simp only [execOp, e17]
     try go_simp
    ·refine stepM_anc ?_ ?_ ?_
     ·rfl
     ·kernel_rfl
     intro a vs W hX hR he hf K hK
     refine wn rfl ?_
     have e123 : a.eval (.tmp 123) = .slice (some ⟨g, 0, none⟩) n c := eH he hR 10 (by kernel_rfl) rfl
     have e124 : a.eval (.tmp 124) = .int .i64 (k : Nat) := eH he hR 11 (by kernel_rfl) rfl
     refine wV hK rfl ?_
     simp only [execOp, e123, e124]
     go_simp
    ·refine stepM_anc ?_ ?_ ?_
     ·rfl
     ·kernel_rfl
     intro a vs W hX hR he hf K hK
     refine wn rfl ?_
     have e125 : a.eval (.tmp 125) = .pointer (some ⟨g, k * 19, none⟩) := eH he hR 12 (by kernel_rfl) rfl
     have hbW := bthen (below_drew _) (grow_below hX)
     exact wp_value (exec_load_mid 35 _ rfl g (k * 19) e125 (itC x) _ (range_below hbW HGL.out HXC.out) Try.underlying35 rfl (sizeIt _ HXF.out.addr)) (gK hK rfl)
    ·refine stepM_anc ?_ ?_ ?_
     ·rfl
     ·kernel_rfl
     intro a vs W hX hR he hf K hK
     refine wn rfl ?_
     have e113 : a.eval (.tmp 113) = .slice (some ⟨g, 0, none⟩) n c := eH he hR 0 (by kernel_rfl) rfl
     have e114 : a.eval (.tmp 114) = .int .i64 (k : Nat) := eH he hR 1 (by kernel_rfl) rfl
     refine wV hK rfl ?_
     simp only [execOp, e113, e114]
     go_simp
    ·refine stepM_heavy ?_ ?_
     ·rfl
     intro a vs W hX hR he hf K hK
     refine wn rfl ?_
     have e127 : a.eval (.tmp 127) = .pointer (some ⟨g, k * 19, none⟩) := eH he hR 14 (by kernel_rfl) rfl
     have e122 : a.eval (.tmp 122) = .agg (itC y).toArray := eH he hR 9 (by kernel_rfl) rfl
     have hbW := bthen (below_drew _) (grow_below hX)
     refine wp_store_own 35 _ _ rfl g (k * 19) (itC y) e127 e122 (HR.out.own.below hbW) (sizeIt _ HYF.out.addr) (by rw [itC_length _ HYF.out.addr]; omega) (by omega) (oneIt _) ?_
     intro w' ho' hg' hs'
     exact hK _ _ ⟨ho', (Kept.of_below hbW).trans (T := blkS (some ⟨g, 0, none⟩) c) (Kept.of_grown hg' (fun k hk => by injection hk with hk; rw [← hk]; exact HGS.out)) (fun _ h _ => h)⟩
    ·refine stepM_calm ?_ ?_ ?_
     ·rfl
     ·kernel_rfl
     intro a vs W hS hR he hf K hK
     refine wn rfl ?_
     have e115 : a.eval (.tmp 115) = .slice (some ⟨g, 0, none⟩) n c := (he 2 115 (by kernel_rfl) rfl).trans (hR 2 (by kernel_rfl) rfl)
     have e117 : a.eval (.tmp 117) = .int .i64 (q : Nat) := (he 4 117 (by kernel_rfl) rfl).trans (hR 4 (by kernel_rfl) rfl)
     refine wp_value (v := .pointer (some ⟨g, q * 19, none⟩)) ?_ (hK _ rfl)
     simp only [execOp, e115, e117]
     go_simp
    intro vs wv hPv hR
    have q0 := hR 0 (by decide) rfl
    change vs 0 = .slice (some ⟨g, 0, none⟩) n c at q0
    have q1 := hR 1 (by decide) rfl
    change vs 1 = .int .i64 (k : Nat) at q1
    have q2 := hR 2 (by decide) rfl
    change vs 2 = .slice (some ⟨g, 0, none⟩) n c at q2
    have q3 := hR 3 (by decide) rfl
    change vs 3 = .int .i64 (k : Nat) at q3
    have q4 := hR 4 (by decide) rfl
    change vs 4 = .int .i64 (q : Nat) at q4
    have q5 := hR 5 (by decide) rfl
    change vs 5 = .slice (some ⟨g, 0, none⟩) n c at q5
    have q6 := hR 6 (by decide) rfl
    change vs 6 = .int .i64 (k : Nat) at q6
    have q7 := hR 7 (by decide) rfl
    change vs 7 = .int .i64 (q : Nat) at q7
    have q8 := hR 8 (by decide) rfl
    change vs 8 = .pointer (some ⟨g, q * 19, none⟩) at q8
    have q9 := hR 9 (by decide) rfl
    change vs 9 = .agg (itC y).toArray at q9
    have q10 := hR 10 (by decide) rfl
    change vs 10 = .slice (some ⟨g, 0, none⟩) n c at q10
    have q11 := hR 11 (by decide) rfl
    change vs 11 = .int .i64 (k : Nat) at q11
    have q12 := hR 12 (by decide) rfl
    change vs 12 = .pointer (some ⟨g, k * 19, none⟩) at q12
    have q13 := hR 13 (by decide) rfl
    change vs 13 = .agg (itC x).toArray at q13
    have q14 := hR 14 (by decide) rfl
    change vs 14 = .pointer (some ⟨g, k * 19, none⟩) at q14
    have q16 := hR 16 (by decide) rfl
    change vs 16 = .pointer (some ⟨g, q * 19, none⟩) at q16
    simp only [putAll, Act.put, List.setIfInBounds_toArray, List.set_cons_zero, List.set_cons_succ, List.take_succ_cons, List.take_zero, q0, q1, q2, q3, q4, q5, q6, q7, q8, q9, q10, q11, q12, q13, q14, q16]
    clear q0 q1 q2 q3 q4 q5 q6 q7 q8 q9 q10 q11 q12 q13 q14 q16
    clear hR
    generalize vs 15 = vh at hPv ⊢
    obtain ⟨hoy, hky⟩ := hPv
    have hRy := HR.out.put (i := k) (by omega) y HYF.out hoy
    refine wp_store_own 35 _ _ rfl g (q * 19) (itC x) rfl rfl hRy.own (sizeIt _ HXF.out.addr) (by rw [itC_length _ HXF.out.addr]; omega) (by omega) (oneIt _) ?_
    intro wz hoz hgz hsz
    have hkz := hky.trans (T := blkS (some ⟨g, 0, none⟩) c) (Kept.of_grown hgz (fun k hk => by injection hk with hk; rw [← hk]; exact HGS.out)) (fun _ h _ => h)
    try simp only [List.getElem_toArray, List.getElem_cons_succ, List.getElem_cons_zero, Act.put, List.setIfInBounds_toArray, List.set_cons_zero, List.set_cons_succ]
    have hRz := (HR.out.put (i := k) (by omega) y HYF.out hoy).put (i := q) (by omega) x HXF.out hoz
    have HRZ := Hh (hRz.congr (e := fun t => d (mwI mid q t)) (fun t _ => by
     rw [← mw_step mid q t (by have := HQ.out; omega), HQ.out]
     have h9 := congrFun (sw_eq (fun t => d (mwI mid k t)) k q) t
     unfold sw at h9
     simp only [HX.out, HY.out] at h9
     exact h9))
    have HKZ := Hh (HK0.out.trans (T := blkS (some ⟨g, 0, none⟩) c) hkz (fun _ h _ => h))
    clear hRz hkz
    go_wp2_with fail
    go_roundw
    case rel => exact ⟨q, by have := HQ.out; omega, by have := HQ.out; omega, by rw [← HQ1.out], HRZ.out, HKZ.out⟩
    case measure => simp [intOf]; have := HQ.out; omega
   obtain rfl : lo = k := by omega
   go_wp2_with fail
   refine bodyPost_ret (results_none rfl _ _ _) rfl ⟨rfl, HR.out.congr (fun t _ => ?_), HK0.out⟩
   rw [← HHI.out, mw_end lo mid t hl]
set_option maxHeartbeats 4000000 in
theorem merge_left (lo mid hi H : Nat) (hHd : H = (lo + hi) / 2) (h0 : lo + 1 < mid) (h1 : mid + 1 < hi) (hHm : H < mid) (ih : ∀ a b c', c' - a < hi - lo → MergeOK a b c') : MergeOK lo mid hi := by
 intro base A n c d hn hl hm hh hd w hR
 have HR0 := Hh hR
 have HD := Hh hd
 have HN := Hh hn
 have IH := Hh ih
 clear hR hd ih
 obtain ⟨g, rfl, hgS, hgb, hgl⟩ := HR0.out.at_ (k := lo) (by omega)
 have HGS := Hh hgS
 clear hgS hgb hgl
 unfold cmpV
 go_enter Try.func78, Try.ntmps78
 obtain ⟨S, E, R, hdef⟩ : ∃ S E R, S + hi = H + mid ∧ E = hi ∧ R = H := ⟨H + mid - hi, hi, H, by omega, rfl, rfl⟩
 have hlr : lo ≤ S ∧ S ≤ R ∧ S < mid ∧ mid < E ∧ E ≤ hi ∧ R ≤ mid := by omega
 have hrr : ∀ c9, S ≤ c9 → c9 < R → c9 < mid ∧ mid ≤ H + mid - 1 - c9 ∧ H + mid - 1 - c9 < hi := by intro c9 a1 a2; omega
 have HRR := Hh hrr
 have hm0 : ¬ (mid : Int) - (lo : Int) = 1 := by omega
 have hm1 : ¬ (hi : Int) - (mid : Int) = 1 := by omega
 have hn6 : (n : Int) ≤ 1000000 := by omega
 have hn7 : (hi : Int) ≤ (n : Int) := by omega
 have hl7 : (lo : Int) < (mid : Int) := by omega
 have hm7 : (mid : Int) < (hi : Int) := by omega
 have hc7 : (H : Int) < (mid : Int) := by omega
 have HHH := Hh (show ((lo : Int) + (hi : Int)) / 2 = (H : Int) by omega)
 have hHh : (H : Int) < (hi : Int) := by omega
 have hHl : (lo : Int) < (H : Int) := by omega
 have HDEF := Hh hdef
 have HHD := Hh hHd
 have HSI := Hh (show (H : Int) + (mid : Int) - (hi : Int) = (S : Int) by omega)
 clear hrr hdef hHd
 go_upto_region 25 with fail
 rw [HHH.out]
 go_upto_region 33 with fail
 rw [HSI.out]
 have hSi : (lo : Int) ≤ (S : Int) := by omega
 have hSm : (S : Int) < (mid : Int) := by omega
 go_loopw [20, 21, 23] (fun s20 s21 _ wr => ∃ (r : Nat), S ≤ r ∧ r ≤ R ∧ s20 = .int .i64 (S : Nat) ∧ s21 = .int .i64 (r : Nat) ∧ Rd wr base (some ⟨g, 0, none⟩) n c d ∧ Kept (blkS (some ⟨g, 0, none⟩) c) w wr) (fun _ s21 _ _ => (intOf s21).toNat)
 case atStart => exact ⟨R, hlr.2.1, Nat.le_refl _, rfl, by rw [HDEF.out.2.2], HR0.out, Kept.refl _ _⟩
 case round =>
  obtain ⟨r, hr1, hr2, rfl, rfl, hR, hk⟩ := hrel
  clear HR0
  have HR := Hh hR
  have HK0 := Hh hk
  clear hR hk
  by_cases hlt : S < r
  ·obtain ⟨h, hh9⟩ : ∃ h, (S + r) / 2 = h := ⟨_, rfl⟩
   have h8 : S ≤ h ∧ h < r := by omega
   obtain ⟨r1, r2, r3⟩ := HRR.out h h8.1 (by omega)
   obtain ⟨p, hp⟩ : ∃ p, H + mid - 1 - h = p := ⟨_, rfl⟩
   rw [hp] at r2 r3
   have HH := Hh (show ((S : Int) + (r : Int)) / 2 = (h : Int) by omega)
   have HH8 := Hh h8
   have HP := Hh (show (H : Int) + (mid : Int) - 1 - (h : Int) = (p : Int) by omega)
   obtain ⟨x, hx⟩ : ∃ x, d p = x := ⟨_, rfl⟩
   obtain ⟨y, hy⟩ : ∃ y, d h = y := ⟨_, rfl⟩
   have HLT := Hh (show y.1.len < x.1.len by rw [← hx, ← hy]; exact HD.out h p (by omega) r1 r2 r3)
   have h1 := HR.out.cells (k := p) (by omega)
   have h2 := HR.out.cells (k := h) (by omega)
   have h3 := HR.out.fit p (by omega)
   have h4 := HR.out.fit h (by omega)
   rw [hx] at h1 h3
   rw [hy] at h2 h4
   have HXC := Hh h1
   have HYC := Hh h2
   have HXF := Hh h3
   have HYF := Hh h4
   have HGL := Hh (HR.out.lt (k := lo) (by omega))
   have hlt2 : (S : Int) < (r : Int) := by omega
   have hlt3 : (r : Int) ≤ 1000000 := by omega
   have hh6 : (h : Int) < (n : Int) := by omega
   have hp6 : (p : Int) < (n : Int) := by omega
   clear h1 h2 h3 h4 hx hy hh9 h8 r1 r2 r3
   go_wp2_with fail
   rw [HH.out]
   refine wp_region_rel (fun A B => A.grownBy B none) (fun A => grown_refl A _) (fun A B C h k => grown_trans h k) (relAt (eqs [.func (.func 42) #[] #[], .slice (some ⟨g, 0, none⟩) n c, .int .i64 ((H : Int) + (mid : Int) - 1), .int .i64 (h : Nat), .int .i64 (p : Nat), .pointer (some ⟨g, p * 19, none⟩), .agg (itC x).toArray, .slice (some ⟨g, 0, none⟩) n c, .int .i64 (h : Nat), .pointer (some ⟨g, h * 19, none⟩), .agg (itC y).toArray, .int .i64 (cmpL x y), .bool true, .bool false])) (MonoL.at_ (eqs_mono _)) (by kernel_rfl) (by kernel_rfl) ⟨?_, ?_, ?_, ?_, ?_, ?_, ?_, ?_, ?_, ?_, ?_, ?_, ?_, ?_, trivial⟩ ?_
   ·intro a vs W hX hR he hf K hK
    refine wn rfl ?_
    have e4 : a.eval (.tmp 4) = .func (.func 42) #[] #[] := hf 4 (by kernel_rfl)
    refine wV hK rfl ?_
    simp only [execOp, e4]
    try go_simp
   ·intro a vs W hX hR he hf K hK
    refine wn rfl ?_
    have e0 : a.eval (.tmp 0) = .slice (some ⟨g, 0, none⟩) n c := hf 0 (by kernel_rfl)
    refine wV hK rfl ?_
    simp only [execOp, e0]
    try go_simp
   ·intro a vs W hX hR he hf K hK
    refine wn rfl ?_
    have e22 : a.eval (.tmp 22) = .int .i64 ((H : Int) + (mid : Int) - 1) := hf 22 (by kernel_rfl)
    refine wV hK rfl ?_
    simp only [execOp, e22]
    try go_simp
   ·intro a vs W hX hR he hf K hK
    refine wn rfl ?_
    have e23 : a.eval (.tmp 23) = .int .i64 (h : Nat) := hf 23 (by kernel_rfl)
    refine wV hK rfl ?_
    simp only [execOp, e23]
    try go_simp
   ·intro a vs W hX hR he hf K hK
    refine wn rfl ?_
    have e160 : a.eval (.tmp 160) = .int .i64 ((H : Int) + (mid : Int) - 1) := eH he hR 2 (by kernel_rfl) rfl
    have e161 : a.eval (.tmp 161) = .int .i64 (h : Nat) := eH he hR 3 (by kernel_rfl) rfl
    refine wV hK rfl ?_
    rw [← HP.out]
    simp only [execOp, e160, e161]
    go_simp
    simp only [IntKind.wrap_i64]
    omega
   ·intro a vs W hX hR he hf K hK
    refine wn rfl ?_
    have e159 : a.eval (.tmp 159) = .slice (some ⟨g, 0, none⟩) n c := eH he hR 1 (by kernel_rfl) rfl
    have e162 : a.eval (.tmp 162) = .int .i64 (p : Nat) := eH he hR 4 (by kernel_rfl) rfl
    refine wV hK rfl ?_
    simp only [execOp, e159, e162]
    go_simp
   ·intro a vs W hX hR he hf K hK
    refine wn rfl ?_
    have e163 : a.eval (.tmp 163) = .pointer (some ⟨g, p * 19, none⟩) := eH he hR 5 (by kernel_rfl) rfl
    have hbW := bthen (below_drew _) (grow_below hX)
    exact wp_value (exec_load_mid 35 _ rfl g (p * 19) e163 (itC x) _ (range_below hbW HGL.out HXC.out) Try.underlying35 rfl (sizeIt _ HXF.out.addr)) (gK hK rfl)
   ·intro a vs W hX hR he hf K hK
    refine wn rfl ?_
    have e0 : a.eval (.tmp 0) = .slice (some ⟨g, 0, none⟩) n c := hf 0 (by kernel_rfl)
    refine wV hK rfl ?_
    simp only [execOp, e0]
    try go_simp
   ·intro a vs W hX hR he hf K hK
    refine wn rfl ?_
    have e23 : a.eval (.tmp 23) = .int .i64 (h : Nat) := hf 23 (by kernel_rfl)
    refine wV hK rfl ?_
    simp only [execOp, e23]
    try go_simp
   ·intro a vs W hX hR he hf K hK
    refine wn rfl ?_
    have e165 : a.eval (.tmp 165) = .slice (some ⟨g, 0, none⟩) n c := eH he hR 7 (by kernel_rfl) rfl
    have e166 : a.eval (.tmp 166) = .int .i64 (h : Nat) := eH he hR 8 (by kernel_rfl) rfl
    refine wV hK rfl ?_
    simp only [execOp, e165, e166]
    go_simp
   ·intro a vs W hX hR he hf K hK
    refine wn rfl ?_
    have e167 : a.eval (.tmp 167) = .pointer (some ⟨g, h * 19, none⟩) := eH he hR 9 (by kernel_rfl) rfl
    have hbW := bthen (below_drew _) (grow_below hX)
    exact wp_value (exec_load_mid 35 _ rfl g (h * 19) e167 (itC y) _ (range_below hbW HGL.out HYC.out) Try.underlying35 rfl (sizeIt _ HYF.out.addr)) (gK hK rfl)
   ·intro a vs W hX hR he hf K hK
    refine wn rfl ?_
    have e158 : a.eval (.tmp 158) = .func (.func 42) #[] #[] := eH he hR 0 (by kernel_rfl) rfl
    have e164 : a.eval (.tmp 164) = .agg (itC x).toArray := eH he hR 6 (by kernel_rfl) rfl
    have e168 : a.eval (.tmp 168) = .agg (itC y).toArray := eH he hR 10 (by kernel_rfl) rfl
    refine wp_enter (f := 42) (args := #[.agg (itC x).toArray, .agg (itC y).toArray]) (exec_callv2 _ _ _ _ _ #[] _ _ rfl e158 e164 e168 (by kernel_rfl)) ((less_any x y HXF.out HYF.out W).mono ?_)
    rintro e w' ⟨rfl, hb⟩
    exact ⟨_, rfl, hK _ _ rfl (below_grow hb _)⟩
   ·intro a vs W hX hR he hf K hK
    refine wn rfl ?_
    have e169 : a.eval (.tmp 169) = .int .i64 (cmpL x y) := eH he hR 11 (by kernel_rfl) rfl
    refine wV hK rfl ?_
    have h9 := cmpL_lt HLT.out
    simp only [execOp, e169]
    go_simp
    try omega
   ·intro a vs W hX hR he hf K hK
    refine wn rfl ?_
    have e170 : a.eval (.tmp 170) = .bool true := eH he hR 12 (by kernel_rfl) rfl
    refine wV hK rfl ?_
    simp only [execOp, e170]
    try go_simp
   intro vs wx hXx hR
   rw [put_eqs hR rfl]
   simp only [putL, Act.put, List.setIfInBounds_toArray, List.set_cons_zero, List.set_cons_succ]
   clear hR
   replace HR := Hh (HR.out.on (bthen (below_drew _) (grow_below hXx)))
   replace HK0 := Hh (HK0.out.then_below (bthen (below_drew _) (grow_below hXx)))
   clear hXx
   go_wp2_with fail
   go_roundw
   case rel => exact ⟨h, by have := HH8.out; omega, by have := HH8.out; omega, rfl, rfl, HR.out, HK0.out⟩
   case measure => simp [intOf]; have := HH8.out; omega
  obtain rfl : S = r := by omega
  have hEi : (H : Int) + (mid : Int) - (S : Int) = (E : Int) := by have h1 := HDEF.out; omega
  have HEI := Hh hEi
  have hE7 : (mid : Int) < (E : Int) := by omega
  clear hEi
  go_upto_region 39 with fail
  rw [HEI.out]
  go_wp2_with fail
  refine (rotate_any base _ n c d S mid E HN.out (by omega) (by omega) (by omega) _ wr HR.out).mono ?_
  rintro e w1 ⟨rfl, hR, hk⟩
  replace HR := Hh hR
  replace HK0 := Hh (HK0.out.trans (T := blkS (some ⟨g, 0, none⟩) c) hk (fun _ h _ => h))
  clear hR hk
  by_cases hls : lo < S
  ·have hdef := HDEF.out
   have hHd := HHD.out
   have h5 : (lo : Int) < (S : Int) := by omega
   have h6 : (S : Int) < (H : Int) := by omega
   have h7 : ¬ (E : Int) < (hi : Int) := by omega
   have h8 : (H : Int) < (E : Int) := by omega
   have hrec := IH.out lo S H (by omega) base (some ⟨g, 0, none⟩) n c _ HN.out hls (by omega) (by omega) (by
    intro i j a1 a2 a3 a4
    have e1 : rotI S mid E i = i := by unfold rotI; rw [if_neg (by omega), if_neg (by omega)]
    have e2 : mid ≤ rotI S mid E j ∧ rotI S mid E j < hi := by unfold rotI; rw [if_pos (by omega)]; omega
    show (d (rotI S mid E i)).1.len < (d (rotI S mid E j)).1.len
    rw [e1]
    exact HD.out i _ a1 (by omega) e2.1 e2.2) w1 HR.out
   unfold cmpV at hrec
   have HREC := Hh hrec
   have HFIN := Hh (show ∀ k, d (rotI S mid E (rotI lo S H k)) = d (rotI lo mid hi k) from fun k => by
    rw [show E = hi by omega, rot_left lo S mid hi H k (by omega) (by omega) (by omega) (by omega) (by omega)])
   clear hrec hdef hHd
   go_wp2_with fail
   refine HREC.out.mono ?_
   rintro e w2 ⟨rfl, hR, hk⟩
   have HR2 := Hh (hR.congr (e := fun k => d (rotI lo mid hi k)) (fun k _ => HFIN.out k))
   have HK2 := Hh (HK0.out.trans (T := blkS (some ⟨g, 0, none⟩) c) hk (fun _ h _ => h))
   clear hR hk
   go_wp2_with fail
   exact bodyPost_end (results_none rfl _ _ _) rfl ⟨rfl, HR2.out, HK2.out⟩
  have hdef := HDEF.out
  have hHd := HHD.out
  have h5 : ¬ (lo : Int) < (S : Int) := by omega
  have h7 : ¬ (E : Int) < (hi : Int) := by omega
  have h8 : (H : Int) < (E : Int) := by omega
  have HR2 := Hh (HR.out.congr (e := fun k => d (rotI lo mid hi k)) (fun k _ => by rw [show E = hi by omega, show S = lo by omega]))
  clear hdef hHd
  go_wp2_with fail
  exact bodyPost_end (results_none rfl _ _ _) rfl ⟨rfl, HR2.out, HK0.out⟩
set_option maxHeartbeats 4000000 in
theorem merge_right (lo mid hi H : Nat) (hHd : H = (lo + hi) / 2) (h0 : lo + 1 < mid) (h1 : mid + 1 < hi) (hHm : mid ≤ H) (ih : ∀ a b c', c' - a < hi - lo → MergeOK a b c') : MergeOK lo mid hi := by
 intro base A n c d hn hl hm hh hd w hR
 have HR0 := Hh hR
 have HD := Hh hd
 have HN := Hh hn
 have IH := Hh ih
 clear hR hd ih
 obtain ⟨g, rfl, hgS, hgb, hgl⟩ := HR0.out.at_ (k := lo) (by omega)
 have HGS := Hh hgS
 clear hgS hgb hgl
 unfold cmpV
 go_enter Try.func78, Try.ntmps78
 obtain ⟨S, E, R, hdef⟩ : ∃ S E R, S = lo ∧ E + lo = H + mid ∧ R = mid := ⟨lo, H + mid - lo, mid, rfl, by omega, rfl⟩
 have hlr : lo ≤ S ∧ S ≤ R ∧ S < mid ∧ mid < E ∧ E ≤ hi ∧ R ≤ mid := by omega
 have hrr : ∀ c9, S ≤ c9 → c9 < R → c9 < mid ∧ mid ≤ H + mid - 1 - c9 ∧ H + mid - 1 - c9 < hi := by intro c9 a1 a2; omega
 have HRR := Hh hrr
 have hm0 : ¬ (mid : Int) - (lo : Int) = 1 := by omega
 have hm1 : ¬ (hi : Int) - (mid : Int) = 1 := by omega
 have hn6 : (n : Int) ≤ 1000000 := by omega
 have hn7 : (hi : Int) ≤ (n : Int) := by omega
 have hl7 : (lo : Int) < (mid : Int) := by omega
 have hm7 : (mid : Int) < (hi : Int) := by omega
 have hc7 : ¬ (H : Int) < (mid : Int) := by omega
 have HHH := Hh (show ((lo : Int) + (hi : Int)) / 2 = (H : Int) by omega)
 have hHh : (H : Int) < (hi : Int) := by omega
 have hHl : (lo : Int) < (H : Int) := by omega
 have HDEF := Hh hdef
 have HHD := Hh hHd
 clear hrr hdef hHd
 go_upto_region 25 with fail
 rw [HHH.out]
 go_upto_region 33 with fail

 have hSi : (lo : Int) ≤ (S : Int) := by omega
 have hSm : (S : Int) < (mid : Int) := by omega
 go_loopw [20, 21, 23] (fun s20 s21 _ wr => ∃ (r : Nat), S ≤ r ∧ r ≤ R ∧ s20 = .int .i64 (S : Nat) ∧ s21 = .int .i64 (r : Nat) ∧ Rd wr base (some ⟨g, 0, none⟩) n c d ∧ Kept (blkS (some ⟨g, 0, none⟩) c) w wr) (fun _ s21 _ _ => (intOf s21).toNat)
 case atStart => exact ⟨R, hlr.2.1, Nat.le_refl _, by rw [HDEF.out.1], by rw [HDEF.out.2.2], HR0.out, Kept.refl _ _⟩
 case round =>
  obtain ⟨r, hr1, hr2, rfl, rfl, hR, hk⟩ := hrel
  clear HR0
  have HR := Hh hR
  have HK0 := Hh hk
  clear hR hk
  by_cases hlt : S < r
  ·obtain ⟨h, hh9⟩ : ∃ h, (S + r) / 2 = h := ⟨_, rfl⟩
   have h8 : S ≤ h ∧ h < r := by omega
   obtain ⟨r1, r2, r3⟩ := HRR.out h h8.1 (by omega)
   obtain ⟨p, hp⟩ : ∃ p, H + mid - 1 - h = p := ⟨_, rfl⟩
   rw [hp] at r2 r3
   have HH := Hh (show ((S : Int) + (r : Int)) / 2 = (h : Int) by omega)
   have HH8 := Hh h8
   have HP := Hh (show (H : Int) + (mid : Int) - 1 - (h : Int) = (p : Int) by omega)
   obtain ⟨x, hx⟩ : ∃ x, d p = x := ⟨_, rfl⟩
   obtain ⟨y, hy⟩ : ∃ y, d h = y := ⟨_, rfl⟩
   have HLT := Hh (show y.1.len < x.1.len by rw [← hx, ← hy]; exact HD.out h p (by omega) r1 r2 r3)
   have h1 := HR.out.cells (k := p) (by omega)
   have h2 := HR.out.cells (k := h) (by omega)
   have h3 := HR.out.fit p (by omega)
   have h4 := HR.out.fit h (by omega)
   rw [hx] at h1 h3
   rw [hy] at h2 h4
   have HXC := Hh h1
   have HYC := Hh h2
   have HXF := Hh h3
   have HYF := Hh h4
   have HGL := Hh (HR.out.lt (k := lo) (by omega))
   have hlt2 : (S : Int) < (r : Int) := by omega
   have hlt3 : (r : Int) ≤ 1000000 := by omega
   have hh6 : (h : Int) < (n : Int) := by omega
   have hp6 : (p : Int) < (n : Int) := by omega
   clear h1 h2 h3 h4 hx hy hh9 h8 r1 r2 r3
   go_wp2_with fail
   rw [HH.out]
   refine wp_region_rel (fun A B => A.grownBy B none) (fun A => grown_refl A _) (fun A B C h k => grown_trans h k) (relAt (eqs [.func (.func 42) #[] #[], .slice (some ⟨g, 0, none⟩) n c, .int .i64 ((H : Int) + (mid : Int) - 1), .int .i64 (h : Nat), .int .i64 (p : Nat), .pointer (some ⟨g, p * 19, none⟩), .agg (itC x).toArray, .slice (some ⟨g, 0, none⟩) n c, .int .i64 (h : Nat), .pointer (some ⟨g, h * 19, none⟩), .agg (itC y).toArray, .int .i64 (cmpL x y), .bool true, .bool false])) (MonoL.at_ (eqs_mono _)) (by kernel_rfl) (by kernel_rfl) ⟨?_, ?_, ?_, ?_, ?_, ?_, ?_, ?_, ?_, ?_, ?_, ?_, ?_, ?_, trivial⟩ ?_
   ·intro a vs W hX hR he hf K hK
    refine wn rfl ?_
    have e4 : a.eval (.tmp 4) = .func (.func 42) #[] #[] := hf 4 (by kernel_rfl)
    refine wV hK rfl ?_
    simp only [execOp, e4]
    try go_simp
   ·intro a vs W hX hR he hf K hK
    refine wn rfl ?_
    have e0 : a.eval (.tmp 0) = .slice (some ⟨g, 0, none⟩) n c := hf 0 (by kernel_rfl)
    refine wV hK rfl ?_
    simp only [execOp, e0]
    try go_simp
   ·intro a vs W hX hR he hf K hK
    refine wn rfl ?_
    have e22 : a.eval (.tmp 22) = .int .i64 ((H : Int) + (mid : Int) - 1) := hf 22 (by kernel_rfl)
    refine wV hK rfl ?_
    simp only [execOp, e22]
    try go_simp
   ·intro a vs W hX hR he hf K hK
    refine wn rfl ?_
    have e23 : a.eval (.tmp 23) = .int .i64 (h : Nat) := hf 23 (by kernel_rfl)
    refine wV hK rfl ?_
    simp only [execOp, e23]
    try go_simp
   ·intro a vs W hX hR he hf K hK
    refine wn rfl ?_
    have e160 : a.eval (.tmp 160) = .int .i64 ((H : Int) + (mid : Int) - 1) := eH he hR 2 (by kernel_rfl) rfl
    have e161 : a.eval (.tmp 161) = .int .i64 (h : Nat) := eH he hR 3 (by kernel_rfl) rfl
    refine wV hK rfl ?_
    rw [← HP.out]
    simp only [execOp, e160, e161]
    go_simp
    simp only [IntKind.wrap_i64]
    omega
   ·intro a vs W hX hR he hf K hK
    refine wn rfl ?_
    have e159 : a.eval (.tmp 159) = .slice (some ⟨g, 0, none⟩) n c := eH he hR 1 (by kernel_rfl) rfl
    have e162 : a.eval (.tmp 162) = .int .i64 (p : Nat) := eH he hR 4 (by kernel_rfl) rfl
    refine wV hK rfl ?_
    simp only [execOp, e159, e162]
    go_simp
   ·intro a vs W hX hR he hf K hK
    refine wn rfl ?_
    have e163 : a.eval (.tmp 163) = .pointer (some ⟨g, p * 19, none⟩) := eH he hR 5 (by kernel_rfl) rfl
    have hbW := bthen (below_drew _) (grow_below hX)
    exact wp_value (exec_load_mid 35 _ rfl g (p * 19) e163 (itC x) _ (range_below hbW HGL.out HXC.out) Try.underlying35 rfl (sizeIt _ HXF.out.addr)) (gK hK rfl)
   ·intro a vs W hX hR he hf K hK
    refine wn rfl ?_
    have e0 : a.eval (.tmp 0) = .slice (some ⟨g, 0, none⟩) n c := hf 0 (by kernel_rfl)
    refine wV hK rfl ?_
    simp only [execOp, e0]
    try go_simp
   ·intro a vs W hX hR he hf K hK
    refine wn rfl ?_
    have e23 : a.eval (.tmp 23) = .int .i64 (h : Nat) := hf 23 (by kernel_rfl)
    refine wV hK rfl ?_
    simp only [execOp, e23]
    try go_simp
   ·intro a vs W hX hR he hf K hK
    refine wn rfl ?_
    have e165 : a.eval (.tmp 165) = .slice (some ⟨g, 0, none⟩) n c := eH he hR 7 (by kernel_rfl) rfl
    have e166 : a.eval (.tmp 166) = .int .i64 (h : Nat) := eH he hR 8 (by kernel_rfl) rfl
    refine wV hK rfl ?_
    simp only [execOp, e165, e166]
    go_simp
   ·intro a vs W hX hR he hf K hK
    refine wn rfl ?_
    have e167 : a.eval (.tmp 167) = .pointer (some ⟨g, h * 19, none⟩) := eH he hR 9 (by kernel_rfl) rfl
    have hbW := bthen (below_drew _) (grow_below hX)
    exact wp_value (exec_load_mid 35 _ rfl g (h * 19) e167 (itC y) _ (range_below hbW HGL.out HYC.out) Try.underlying35 rfl (sizeIt _ HYF.out.addr)) (gK hK rfl)
   ·intro a vs W hX hR he hf K hK
    refine wn rfl ?_
    have e158 : a.eval (.tmp 158) = .func (.func 42) #[] #[] := eH he hR 0 (by kernel_rfl) rfl
    have e164 : a.eval (.tmp 164) = .agg (itC x).toArray := eH he hR 6 (by kernel_rfl) rfl
    have e168 : a.eval (.tmp 168) = .agg (itC y).toArray := eH he hR 10 (by kernel_rfl) rfl
    refine wp_enter (f := 42) (args := #[.agg (itC x).toArray, .agg (itC y).toArray]) (exec_callv2 _ _ _ _ _ #[] _ _ rfl e158 e164 e168 (by kernel_rfl)) ((less_any x y HXF.out HYF.out W).mono ?_)
    rintro e w' ⟨rfl, hb⟩
    exact ⟨_, rfl, hK _ _ rfl (below_grow hb _)⟩
   ·intro a vs W hX hR he hf K hK
    refine wn rfl ?_
    have e169 : a.eval (.tmp 169) = .int .i64 (cmpL x y) := eH he hR 11 (by kernel_rfl) rfl
    refine wV hK rfl ?_
    have h9 := cmpL_lt HLT.out
    simp only [execOp, e169]
    go_simp
    try omega
   ·intro a vs W hX hR he hf K hK
    refine wn rfl ?_
    have e170 : a.eval (.tmp 170) = .bool true := eH he hR 12 (by kernel_rfl) rfl
    refine wV hK rfl ?_
    simp only [execOp, e170]
    try go_simp
   intro vs wx hXx hR
   rw [put_eqs hR rfl]
   simp only [putL, Act.put, List.setIfInBounds_toArray, List.set_cons_zero, List.set_cons_succ]
   clear hR
   replace HR := Hh (HR.out.on (bthen (below_drew _) (grow_below hXx)))
   replace HK0 := Hh (HK0.out.then_below (bthen (below_drew _) (grow_below hXx)))
   clear hXx
   go_wp2_with fail
   go_roundw
   case rel => exact ⟨h, by have := HH8.out; omega, by have := HH8.out; omega, rfl, rfl, HR.out, HK0.out⟩
   case measure => simp [intOf]; have := HH8.out; omega
  obtain rfl : S = r := by omega
  have hEi : (H : Int) + (mid : Int) - (S : Int) = (E : Int) := by have h1 := HDEF.out; omega
  have HEI := Hh hEi
  have hE7 : (mid : Int) < (E : Int) := by omega
  clear hEi
  go_upto_region 39 with fail
  rw [HEI.out]
  go_wp2_with fail
  refine (rotate_any base _ n c d S mid E HN.out (by omega) (by omega) (by omega) _ wr HR.out).mono ?_
  rintro e w1 ⟨rfl, hR, hk⟩
  replace HR := Hh hR
  replace HK0 := Hh (HK0.out.trans (T := blkS (some ⟨g, 0, none⟩) c) hk (fun _ h _ => h))
  clear hR hk
  by_cases hls : E < hi
  ·have hdef := HDEF.out
   have hHd := HHD.out
   have h5 : ¬ (lo : Int) < (S : Int) := by omega
   have h7 : (E : Int) < (hi : Int) := by omega
   have h8 : (H : Int) < (E : Int) := by omega
   have hrec := IH.out H E hi (by omega) base (some ⟨g, 0, none⟩) n c _ HN.out (by omega) hls (by omega) (by
    intro i j a1 a2 a3 a4
    have e1 : lo ≤ rotI S mid E i ∧ rotI S mid E i < mid := by unfold rotI; rw [if_neg (by omega), if_pos (by omega)]; omega
    have e2 : rotI S mid E j = j := by unfold rotI; rw [if_neg (by omega), if_neg (by omega)]
    show (d (rotI S mid E i)).1.len < (d (rotI S mid E j)).1.len
    rw [e2]
    exact HD.out _ j e1.1 e1.2 (by omega) a4) w1 HR.out
   unfold cmpV at hrec
   have HREC := Hh hrec
   have HFIN := Hh (show ∀ k, d (rotI S mid E (rotI H E hi k)) = d (rotI lo mid hi k) from fun k => by
    rw [show S = lo by omega, rot_right lo mid E hi H k (by omega) (by omega) (by omega) (by omega) (by omega)])
   clear hrec hdef hHd
   go_wp2_with fail
   refine HREC.out.mono ?_
   rintro e w2 ⟨rfl, hR, hk⟩
   have HR2 := Hh (hR.congr (e := fun k => d (rotI lo mid hi k)) (fun k _ => HFIN.out k))
   have HK2 := Hh (HK0.out.trans (T := blkS (some ⟨g, 0, none⟩) c) hk (fun _ h _ => h))
   clear hR hk
   go_wp2_with fail
   exact bodyPost_end (results_none rfl _ _ _) rfl ⟨rfl, HR2.out, HK2.out⟩
  have hdef := HDEF.out
  have hHd := HHD.out
  have h5 : ¬ (lo : Int) < (S : Int) := by omega
  have h7 : ¬ (E : Int) < (hi : Int) := by omega
  have h8 : (H : Int) < (E : Int) := by omega
  have HR2 := Hh (HR.out.congr (e := fun k => d (rotI lo mid hi k)) (fun k _ => by rw [show E = hi by omega, show S = lo by omega]))
  clear hdef hHd
  go_wp2_with fail
  exact bodyPost_end (results_none rfl _ _ _) rfl ⟨rfl, HR2.out, HK0.out⟩
theorem merge_any : ∀ (N lo mid hi : Nat), hi - lo ≤ N → MergeOK lo mid hi
 | 0, lo, mid, hi, hN => fun base A n c d hn hl hm => absurd hN (by omega)
 | N + 1, lo, mid, hi, hN => by
  intro base A n c d hn hl hm hh hd w hR
  by_cases h1 : mid = lo + 1
  ·subst h1
   exact merge_first lo hi base A n c d hn hl hm hh hd w hR
  by_cases h2 : hi = mid + 1
  ·subst h2
   exact merge_last lo mid (by omega) base A n c d hn hl hm hh hd w hR
  by_cases h3 : (lo + hi) / 2 < mid
  ·exact merge_left lo mid hi _ rfl (by omega) (by omega) h3 (fun a b c' h => merge_any N a b c' (by omega)) base A n c d hn hl hm hh hd w hR
  exact merge_right lo mid hi _ rfl (by omega) (by omega) (by omega) (fun a b c' h => merge_any N a b c' (by omega)) base A n c d hn hl hm hh hd w hR
end Go.Proofs.Ytdmgomknamdcfaa


/- Texts of this claim put together, in build order: each one's own remark stands ahead of it. -/
import Derived.Test.YtdmgomknamdcfaaG02
import Derived.Test.YtdmgomknamdcfaaG34
import Derived.Deep.DeepCutAuto
/- What the reference's All, Uses, Below and Above of both kinds compute; rows that are alike are told the same. No condition but sizes. -/
namespace Go.Proofs.Ytdmgomknamdcfaa
open Go.RowKit
set_option linter.unusedVariables false
set_option maxRecDepth 20000
set_option linter.unusedSimpArgs false

set_option maxHeartbeats 2000000 in
theorem rall10_any (F : Rf) (M : Bool → List Itm) (w : World) (hn : ∀ b, F.n b ≤ 65536) (hr : ∀ b, Row w w.heap.size 19 (F.A b) (F.n b) (its (M b))) :
  Calls Try.prog 26 #[.agg F.cells.toArray] w fun e w' => ∃ A' c', e = .returned (.slice A' (F.n false + F.n true) c') ∧ Own w' w.heap.size 57 19 A' (F.n false + F.n true) c' (its (M false ++ M true)) ∧ Below w.heap.size w w' := by
 have HN := Hh hn
 have HRW := Hh hr
 clear hn hr
 go_enter Try.func26, Try.ntmps26
 go_upto_region 1 with (refine wpList_box_blk (by rfl) 52 (.tmp 0) rfl F.cells rfl ?_; intro w1 hb1 hB1 hs1; clear hs1)
 obtain ⟨g1, hg1⟩ : ∃ g, w.heap.size = g := ⟨_, rfl⟩
 have HW := Hh hB1
 have HR4 := Hh ((HRW.out false).below hB1 |>.more hB1.size)
 have HR6 := Hh ((HRW.out true).below hB1 |>.more hB1.size)
 rw [hg1] at hb1
 try rw [hg1]
 have HF := Hh hb1
 clear hb1 hB1 hg1
 obtain ⟨A4, hA4⟩ : ∃ x, F.A false = x := ⟨_, rfl⟩
 obtain ⟨n4, hn4⟩ : ∃ x, F.n false = x := ⟨_, rfl⟩
 obtain ⟨k4, hk4⟩ : ∃ x, F.c false = x := ⟨_, rfl⟩
 obtain ⟨A6, hA6⟩ : ∃ x, F.A true = x := ⟨_, rfl⟩
 obtain ⟨n6, hn6⟩ : ∃ x, F.n true = x := ⟨_, rfl⟩
 obtain ⟨k6, hk6⟩ : ∃ x, F.c true = x := ⟨_, rfl⟩
 have c4 : w1.cell? ⟨g1, 3, none⟩ = some (.slice A4 n4 k4) := by rw [← hA4, ← hn4, ← hk4]; exact HF.out.cell 3
 have HC6 := Hh (show (F.cells)[7]? = some (.slice A6 n6 k6) by rw [← hA6, ← hn6, ← hk6]; rfl)
 have b4 : n4 ≤ 65536 := by rw [← hn4]; exact HN.out false
 have b6 : n6 ≤ 65536 := by rw [← hn6]; exact HN.out true
 rw [hA4, hn4] at HR4
 rw [hA6, hn6] at HR6
 have HE := Hh (show F.n false + F.n true = n4 + n6 by rw [hn4, hn6])
 clear hA4 hn4 hk4 hA6 hn6 hk6
 have H14 := Hh (its_one (M false))
 have H16 := Hh (its_one (M true))
 have HO := Hh (Own.nil w1 w.heap.size 57 19 none)
 go_upto_region 3 with (at_builtin; refine wpList_append_Own _ rfl _ _ 48 rfl w.heap.size 57 _ 19 40 Try.underlying48 infoItem rfl (by decide) _ _ _ _ rfl  HO.out w1.heap.size _ _ _ (its (M false)) rfl HR4.out H14.out (by simp only [maxLen]; omega) (by omega) HW.out.size ?_; intro A2 c2 w2 hown2 hg2 hA2)
 have hb2 : Below w1.heap.size w1 w2 := grow_below (by exact hg2)
 rw [List.nil_append, Nat.zero_add] at hown2
 have HO2 := Hh hown2
 replace HW := Hh (bthen HW.out hb2)
 replace HR6 := Hh (HR6.out.below hb2 |>.more hb2.size)
 have c6 : w2.cell? ⟨g1, 7, none⟩ = some (.slice A6 n6 k6) := ((HF.out.on hb2).cell 7).trans HC6.out
 clear hown2 hg2 hA2 hb2 c4 HO HR4
 go_wp2_with (at_builtin; refine wpList_append_Own _ rfl _ _ 48 rfl w.heap.size 57 _ 19 40 Try.underlying48 infoItem rfl (by decide) _ _ _ _ rfl  HO2.out w2.heap.size _ _ _ (its (M true)) rfl HR6.out H16.out (by simp only [maxLen]; omega) (by omega) HW.out.size ?_; intro A3 c3 w3 hown3 hg3 hA3)
 rw [← its_append] at hown3
 have hb3 : Below w.heap.size w w3 := HW.out.grown hg3 HW.out.size (fun g hg => (HO2.out.lt g hg).1)
 go_ret
 rw [HE.out]
 exact ⟨A3, c3, rfl, hown3, hb3⟩
set_option maxHeartbeats 2000000 in
theorem ruses10_any (F : Rf) (M : Bool → List Itm) (w : World) (hn : ∀ b, F.n b ≤ 65536) (hM : ∀ b, ∀ x ∈ M b, x.1.fit) (hr : ∀ b, Row w w.heap.size 19 (F.A b) (F.n b) (its (M b))) (vl : Int) :
  Calls Try.prog 24 #[.agg F.cells.toArray, .int .i64 vl] w fun e w' => e = .returned (.int .i64 (((M false ++ M true).filter fun x => decide (x.2 = vl)).length : Int)) ∧ Below w.heap.size w w' := by
 have HN := Hh hn
 have HRW := Hh hr
 have HMF := Hh (show ∀ x ∈ M false ++ M true, x.1.fit from fun x hx => (List.mem_append.1 hx).elim (hM false x) (hM true x))
 clear hn hr hM
 go_enter Try.func24, Try.ntmps24
 go_upto_region 1 with (refine wpList_box_blk (by rfl) 52 (.tmp 0) rfl F.cells rfl ?_; intro w1 hb1 hB1 hs1; clear hs1)
 obtain ⟨g1, hg1⟩ : ∃ g, w.heap.size = g := ⟨_, rfl⟩
 have HW := Hh hB1
 have HRA := Hh (fun b => (HRW.out b).below hB1 |>.more hB1.size)
 rw [hg1] at hb1
 try rw [hg1]
 have HF := Hh hb1
 clear hb1 hB1 hg1
 go_wp2_with (refine wpList_value (by rfl) (exec_load 52 _ rfl g1 (by rfl) 52 F.cells _ HF.out Try.underlying52 rfl (Rf.size _)) ?_)
 refine (rall10_any F M w1 HN.out HRA.out).mono ?_
 rintro e w2 ⟨A', c', rfl, hO, hb⟩
 have hmn : F.n false + F.n true ≤ 131072 := by have := HN.out false; have := HN.out true; omega
 obtain ⟨m, hm⟩ : ∃ m, F.n false + F.n true = m := ⟨_, rfl⟩
 obtain ⟨Z, hZ⟩ : ∃ Z, M false ++ M true = Z := ⟨_, rfl⟩
 rw [hm, hZ] at hO
 rw [hm] at hmn
 rw [hm]
 rw [hZ] at HMF
 have HZE := Hh hZ
 have HZL := Hh (its_row hO.row HMF.out)
 have HR2 := Hh hO.row
 have HW2 := Hh (bthen HW.out hb)
 have hmi : (m : Int) ≤ 131072 := by omega
 clear hO hb hm hZ HF
 go_wp2_with fail
 go_loopw [6, 7] (fun s6 s7 wr => ∃ (i : Nat), i ≤ m ∧ s7 = .int .i64 (i : Nat) ∧ s6 = .int .i64 ((((Z.take i).filter fun x => decide (x.2 = vl)).length : Nat) : Int) ∧ w2 = wr) (fun _ s7 _ => m - (intOf s7).toNat)
 case atStart => exact ⟨0, Nat.zero_le _, rfl, rfl, rfl⟩
 case round =>
  obtain ⟨i, hi, rfl, rfl, rfl⟩ := hrel
  by_cases hlt : i < m
  ·obtain ⟨x, hx⟩ := get_ex Z (k := i) (by rw [HZL.out]; exact hlt)
   obtain ⟨bM, oM, rfl, hbM, hcM⟩ := its_at2 HR2.out HMF.out i x hx
   have HXF := Hh (HMF.out x (List.mem_of_getElem? hx))
   have c18 : w2.cell? ⟨bM, oM + i * 19 + 18, none⟩ = some (.int .i64 x.2) := hcM 18 _ (it_val x HXF.out.addr)
   have HTK := Hh (show ((Z.take (i + 1)).filter fun x => decide (x.2 = vl)).length = ((Z.take i).filter fun x => decide (x.2 = vl)).length + (if x.2 = vl then 1 else 0) by
    rw [take_snoc Z i x hx, List.filter_append, List.length_append]
    congr 1
    by_cases h : x.2 = vl
    ·rw [List.filter_cons_of_pos (by simpa using h), if_pos h]; rfl
    rw [List.filter_cons_of_neg (by simpa using h), if_neg h]; rfl)
   obtain ⟨q, hqq⟩ : ∃ q, ((Z.take i).filter fun x => decide (x.2 = vl)).length = q := ⟨_, rfl⟩
   have hqm : (q : Int) ≤ (m : Int) := by
    have h1 : q ≤ m := by rw [← hqq, ← HZL.out]; exact Nat.le_trans (List.length_filter_le _ _) (by rw [List.length_take]; omega)
    omega
   rw [hqq] at HTK
   rw [hqq]
   obtain ⟨xv, hxv⟩ : ∃ v, x.2 = v := ⟨_, rfl⟩
   rw [hxv] at HTK c18
   have hlt2 : (i : Int) < (m : Int) := by omega
   clear hbM hcM hx hqq hxv
   by_cases hv : xv = vl
   ·have HTK2 := Hh (HTK.out.trans (by rw [if_pos hv]))
    subst hv
    go_wp2_with fail
    go_roundw
    case rel => exact ⟨i + 1, by omega, by simp, by rw [HTK2.out]; simp, by first | rfl | trivial⟩
    case measure => simp [intOf]; omega
   have HTK2 := Hh (HTK.out.trans (by rw [if_neg hv]))
   go_wp2_with fail
   go_roundw
   case rel => exact ⟨i + 1, by omega, by simp, by rw [HTK2.out]; simp, by first | rfl | trivial⟩
   case measure => simp [intOf]; omega
  obtain rfl : i = m := by omega
  have htk : Z.take i = Z := List.take_of_length_le (by rw [HZL.out]; exact Nat.le_refl _)
  rw [htk]
  obtain ⟨q, hqq⟩ : ∃ q, (Z.filter fun x => decide (x.2 = vl)).length = q := ⟨_, rfl⟩
  have HQ := Hh hqq
  rw [hqq]
  clear htk hqq
  go_wp2_with fail
  go_ret
  exact ⟨by rw [HZE.out, HQ.out]; rfl, HW2.out⟩
set_option maxHeartbeats 4000000 in
theorem same10_any (L : List Itm) (hL : ∀ x ∈ L, x.1.fit) (A : Option Addr) (n c : Nat) (A2 : Option Addr) (n2 c2 : Nat) (w : World) (h1 : Row w w.heap.size 19 A n (its L)) (h2 : Row w w.heap.size 19 A2 n2 (its L)) (hn : n ≤ 1000000) :
  Calls Try.prog 25 #[.slice A n c, .slice A2 n2 c2] w fun e w' => e = .returned (.bool true) ∧ Below w.heap.size w w' := by
 obtain rfl : n = n2 := (its_row h1 hL).symm.trans (its_row h2 hL)
 have HLN := Hh (its_row h1 hL)
 have HL := Hh hL
 have HR1 := Hh h1
 have HR2 := Hh h2
 have hni : (n : Int) ≤ 1000000 := by omega
 clear hL h1 h2
 go_enter Try.func25, Try.ntmps25
 go_wp2_with fail
 go_loopw [5] (fun s5 wr => ∃ (i : Nat), i ≤ n ∧ s5 = .int .i64 (i : Nat) ∧ Below w.heap.size w wr) (fun s5 _ => n - (intOf s5).toNat)
 case atStart => exact ⟨0, Nat.zero_le _, rfl, Below.refl _ _⟩
 case round =>
  obtain ⟨i, hi, rfl, hbe⟩ := hrel
  have HBE := Hh hbe
  clear hbe
  by_cases hlt : i < n
  ·obtain ⟨x, hx⟩ := get_ex L (k := i) (by rw [HLN.out]; exact hlt)
   obtain ⟨bM, oM, rfl, hbM, hcM⟩ := its_at2 HR1.out HL.out i x hx
   obtain ⟨bN, oN, rfl, hbN, hcN⟩ := its_at2 HR2.out HL.out i x hx
   have HXF := Hh (HL.out x (List.mem_of_getElem? hx))
   have HXM := Hh (range_below HBE.out hbM hcM)
   have HXN := Hh (range_below HBE.out hbN hcN)
   have HBM := Hh (Nat.lt_of_lt_of_le hbM HBE.out.size)
   have HBN := Hh (Nat.lt_of_lt_of_le hbN HBE.out.size)
   have hlt2 : (i : Int) < (n : Int) := by omega
   clear hbM hcM hbN hcN hx
   go_wp2_with fail
   refine wp_region_rel (fun A B => A.grownBy B none) (fun A => grown_refl A _) (fun A B C h k => grown_trans h k) (relAt (eqs [.slice (some ⟨bM, oM, none⟩) n c, .int .i64 (i : Nat), .pointer (some ⟨bM, oM + i * 19, none⟩), .pointer (some ⟨bM, oM + i * 19, none⟩), .agg x.1.cells.toArray, .slice (some ⟨bN, oN, none⟩) n c2, .int .i64 (i : Nat), .pointer (some ⟨bN, oN + i * 19, none⟩), .pointer (some ⟨bN, oN + i * 19, none⟩), .agg x.1.cells.toArray, .bool false, .bool false, .slice (some ⟨bM, oM, none⟩) n c, .int .i64 (i : Nat), .pointer (some ⟨bM, oM + i * 19, none⟩), .pointer (some ⟨bM, oM + i * 19 + 18, none⟩), .int .i64 x.2, .slice (some ⟨bN, oN, none⟩) n c2, .int .i64 (i : Nat), .pointer (some ⟨bN, oN + i * 19, none⟩), .pointer (some ⟨bN, oN + i * 19 + 18, none⟩), .int .i64 x.2, .bool false, .bool false])) (MonoL.at_ (eqs_mono _)) (by kernel_rfl) (by kernel_rfl) ⟨?_, ?_, ?_, ?_, ?_, ?_, ?_, ?_, ?_, ?_, ?_, ?_, ?_, ?_, ?_, ?_, ?_, ?_, ?_, ?_, ?_, ?_, ?_, ?_, trivial⟩ ?_
   ·intro a vs W hX hR he hf K hK
    refine wn rfl ?_
    have e0 : a.eval (.tmp 0) = .slice (some ⟨bM, oM, none⟩) n c := hf 0 (by kernel_rfl)
    refine wV hK rfl ?_
    simp only [execOp, e0]
    try go_simp
   ·intro a vs W hX hR he hf K hK
    refine wn rfl ?_
    have e5 : a.eval (.tmp 5) = .int .i64 (i : Nat) := hf 5 (by kernel_rfl)
    refine wV hK rfl ?_
    simp only [execOp, e5]
    try go_simp
   ·intro a vs W hX hR he hf K hK
    refine wn rfl ?_
    have e17 : a.eval (.tmp 17) = .slice (some ⟨bM, oM, none⟩) n c := eH he hR 0 (by kernel_rfl) rfl
    have e18 : a.eval (.tmp 18) = .int .i64 (i : Nat) := eH he hR 1 (by kernel_rfl) rfl
    refine wV hK rfl ?_
    simp only [execOp, e17, e18]
    go_simp
   ·intro a vs W hX hR he hf K hK
    refine wn rfl ?_
    have e19 : a.eval (.tmp 19) = .pointer (some ⟨bM, oM + i * 19, none⟩) := eH he hR 2 (by kernel_rfl) rfl
    refine wV hK rfl ?_
    simp only [execOp, e19]
    try go_simp
   ·intro a vs W hX hR he hf K hK
    refine wn rfl ?_
    have e20 : a.eval (.tmp 20) = .pointer (some ⟨bM, oM + i * 19, none⟩) := eH he hR 3 (by kernel_rfl) rfl
    have hbW := bthen (below_drew _) (grow_below hX)
    exact wp_value (exec_load_mid 30 _ rfl bM (oM + i * 19) e20 x.1.cells _ (range_below hbW HBM.out (it_px HXM.out)) Try.underlying30 rfl (sizePx _ HXF.out.addr)) (gK hK rfl)
   ·intro a vs W hX hR he hf K hK
    refine wn rfl ?_
    have e1 : a.eval (.tmp 1) = .slice (some ⟨bN, oN, none⟩) n c2 := hf 1 (by kernel_rfl)
    refine wV hK rfl ?_
    simp only [execOp, e1]
    try go_simp
   ·intro a vs W hX hR he hf K hK
    refine wn rfl ?_
    have e5 : a.eval (.tmp 5) = .int .i64 (i : Nat) := hf 5 (by kernel_rfl)
    refine wV hK rfl ?_
    simp only [execOp, e5]
    try go_simp
   ·intro a vs W hX hR he hf K hK
    refine wn rfl ?_
    have e22 : a.eval (.tmp 22) = .slice (some ⟨bN, oN, none⟩) n c2 := eH he hR 5 (by kernel_rfl) rfl
    have e23 : a.eval (.tmp 23) = .int .i64 (i : Nat) := eH he hR 6 (by kernel_rfl) rfl
    refine wV hK rfl ?_
    simp only [execOp, e22, e23]
    go_simp
   ·intro a vs W hX hR he hf K hK
    refine wn rfl ?_
    have e24 : a.eval (.tmp 24) = .pointer (some ⟨bN, oN + i * 19, none⟩) := eH he hR 7 (by kernel_rfl) rfl
    refine wV hK rfl ?_
    simp only [execOp, e24]
    try go_simp
   ·intro a vs W hX hR he hf K hK
    refine wn rfl ?_
    have e25 : a.eval (.tmp 25) = .pointer (some ⟨bN, oN + i * 19, none⟩) := eH he hR 8 (by kernel_rfl) rfl
    have hbW := bthen (below_drew _) (grow_below hX)
    exact wp_value (exec_load_mid 30 _ rfl bN (oN + i * 19) e25 x.1.cells _ (range_below hbW HBN.out (it_px HXN.out)) Try.underlying30 rfl (sizePx _ HXF.out.addr)) (gK hK rfl)
   ·intro a vs W hX hR he hf K hK
    refine wn rfl ?_
    have e21 : a.eval (.tmp 21) = .agg x.1.cells.toArray := eH he hR 4 (by kernel_rfl) rfl
    have e26 : a.eval (.tmp 26) = .agg x.1.cells.toArray := eH he hR 9 (by kernel_rfl) rfl
    exact wp_value (exec_nePx _ _ _ rfl x.1 x.1 HXF.out.addr HXF.out.addr true (decide_eq_true rfl) e21 e26) (gK hK rfl)
   ·intro a vs W hX hR he hf K hK
    refine wn rfl ?_
    have e27 : a.eval (.tmp 27) = .bool false := eH he hR 10 (by kernel_rfl) rfl
    refine wV hK rfl ?_
    simp only [execOp, e27]
    try go_simp
   ·intro a vs W hX hR he hf K hK
    have e28 : a.eval (.tmp 28) = .bool false := eH he hR 11 (by kernel_rfl) rfl
    refine gT e28 rfl rfl rfl ?_
    have e0 : a.eval (.tmp 0) = .slice (some ⟨bM, oM, none⟩) n c := hf 0 (by kernel_rfl)
    refine wV hK rfl ?_
    simp only [execOp, e0]
    try go_simp
   ·intro a vs W hX hR he hf K hK
    have e28 : a.eval (.tmp 28) = .bool false := eH he hR 11 (by kernel_rfl) rfl
    refine gT e28 rfl rfl rfl ?_
    have e5 : a.eval (.tmp 5) = .int .i64 (i : Nat) := hf 5 (by kernel_rfl)
    refine wV hK rfl ?_
    simp only [execOp, e5]
    try go_simp
   ·intro a vs W hX hR he hf K hK
    have e28 : a.eval (.tmp 28) = .bool false := eH he hR 11 (by kernel_rfl) rfl
    refine gT e28 rfl rfl rfl ?_
    have e29 : a.eval (.tmp 29) = .slice (some ⟨bM, oM, none⟩) n c := eH he hR 12 (by kernel_rfl) rfl
    have e30 : a.eval (.tmp 30) = .int .i64 (i : Nat) := eH he hR 13 (by kernel_rfl) rfl
    refine wV hK rfl ?_
    simp only [execOp, e29, e30]
    go_simp
   ·intro a vs W hX hR he hf K hK
    have e28 : a.eval (.tmp 28) = .bool false := eH he hR 11 (by kernel_rfl) rfl
    refine gT e28 rfl rfl rfl ?_
    have e31 : a.eval (.tmp 31) = .pointer (some ⟨bM, oM + i * 19, none⟩) := eH he hR 14 (by kernel_rfl) rfl
    refine wV hK rfl ?_
    simp only [execOp, e31]
    try go_simp
   ·intro a vs W hX hR he hf K hK
    have e28 : a.eval (.tmp 28) = .bool false := eH he hR 11 (by kernel_rfl) rfl
    refine gT e28 rfl rfl rfl ?_
    have e32 : a.eval (.tmp 32) = .pointer (some ⟨bM, oM + i * 19 + 18, none⟩) := eH he hR 15 (by kernel_rfl) rfl
    have hbW := bthen (below_drew _) (grow_below hX)
    have hc : W.cell? ⟨bM, oM + i * 19 + 18, none⟩ = some (.int .i64 x.2) := range_below hbW HBM.out HXM.out 18 _ (it_val x HXF.out.addr)
    refine wV hK rfl ?_
    simp only [execOp, e32]
    try go_simp
   ·intro a vs W hX hR he hf K hK
    have e28 : a.eval (.tmp 28) = .bool false := eH he hR 11 (by kernel_rfl) rfl
    refine gT e28 rfl rfl rfl ?_
    have e1 : a.eval (.tmp 1) = .slice (some ⟨bN, oN, none⟩) n c2 := hf 1 (by kernel_rfl)
    refine wV hK rfl ?_
    simp only [execOp, e1]
    try go_simp
   ·intro a vs W hX hR he hf K hK
    have e28 : a.eval (.tmp 28) = .bool false := eH he hR 11 (by kernel_rfl) rfl
    refine gT e28 rfl rfl rfl ?_
    have e5 : a.eval (.tmp 5) = .int .i64 (i : Nat) := hf 5 (by kernel_rfl)
    refine wV hK rfl ?_
    simp only [execOp, e5]
    try go_simp
   ·intro a vs W hX hR he hf K hK
    have e28 : a.eval (.tmp 28) = .bool false := eH he hR 11 (by kernel_rfl) rfl
    refine gT e28 rfl rfl rfl ?_
    have e34 : a.eval (.tmp 34) = .slice (some ⟨bN, oN, none⟩) n c2 := eH he hR 17 (by kernel_rfl) rfl
    have e35 : a.eval (.tmp 35) = .int .i64 (i : Nat) := eH he hR 18 (by kernel_rfl) rfl
    refine wV hK rfl ?_
    simp only [execOp, e34, e35]
    go_simp
   ·intro a vs W hX hR he hf K hK
    have e28 : a.eval (.tmp 28) = .bool false := eH he hR 11 (by kernel_rfl) rfl
    refine gT e28 rfl rfl rfl ?_
    have e36 : a.eval (.tmp 36) = .pointer (some ⟨bN, oN + i * 19, none⟩) := eH he hR 19 (by kernel_rfl) rfl
    refine wV hK rfl ?_
    simp only [execOp, e36]
    try go_simp
   ·intro a vs W hX hR he hf K hK
    have e28 : a.eval (.tmp 28) = .bool false := eH he hR 11 (by kernel_rfl) rfl
    refine gT e28 rfl rfl rfl ?_
    have e37 : a.eval (.tmp 37) = .pointer (some ⟨bN, oN + i * 19 + 18, none⟩) := eH he hR 20 (by kernel_rfl) rfl
    have hbW := bthen (below_drew _) (grow_below hX)
    have hc : W.cell? ⟨bN, oN + i * 19 + 18, none⟩ = some (.int .i64 x.2) := range_below hbW HBN.out HXN.out 18 _ (it_val x HXF.out.addr)
    refine wV hK rfl ?_
    simp only [execOp, e37]
    try go_simp
   ·intro a vs W hX hR he hf K hK
    have e28 : a.eval (.tmp 28) = .bool false := eH he hR 11 (by kernel_rfl) rfl
    refine gT e28 rfl rfl rfl ?_
    have e33 : a.eval (.tmp 33) = .int .i64 x.2 := eH he hR 16 (by kernel_rfl) rfl
    have e38 : a.eval (.tmp 38) = .int .i64 x.2 := eH he hR 21 (by kernel_rfl) rfl
    refine wV hK rfl ?_
    simp only [execOp, e33, e38]
    try go_simp
   ·intro a vs W hX hR he hf K hK
    refine wn rfl ?_
    have e28 : a.eval (.tmp 28) = .bool false := eH he hR 11 (by kernel_rfl) rfl
    have e39 : a.eval (.tmp 39) = .bool false := eH he hR 22 (by kernel_rfl) rfl
    refine wV hK rfl ?_
    simp only [execOp, e28, e39]
    try go_simp
   intro vs wx hXx hR
   rw [put_eqs hR rfl]
   simp only [putL, Act.put, List.setIfInBounds_toArray, List.set_cons_zero, List.set_cons_succ]
   clear hR
   replace HBE := Hh (bthen HBE.out (bthen (below_drew _) (grow_below hXx)))
   clear hXx
   go_wp2_with fail
   go_roundw
   case rel => exact ⟨i + 1, by omega, by simp, HBE.out⟩
   case measure => simp [intOf]; omega
  obtain rfl : i = n := by omega
  go_wp2_with fail
  go_ret
  exact ⟨rfl, HBE.out⟩
end Go.Proofs.Ytdmgomknamdcfaa

/- What the reference's Below and Above of both kinds compute. No condition but sizes. -/
namespace Go.Proofs.Ytdmgomknamdcfaa
open Go.RowKit
set_option linter.unusedVariables false
set_option maxRecDepth 20000
set_option linter.unusedSimpArgs false

set_option maxHeartbeats 4000000 in
theorem rbelow10_any (F : Rf) (M : Bool → List Itm) (w : World) (hn : ∀ b, F.n b ≤ 65536) (hM : ∀ b, ∀ x ∈ M b, x.1.good) (hr : ∀ b, Row w w.heap.size 19 (F.A b) (F.n b) (its (M b))) (p : Px) (hp : p.fit) :
  Calls Try.prog 28 #[.agg F.cells.toArray, .agg p.cells.toArray] w fun e w' => ∃ A' n' c', e = .returned (.slice A' n' c') ∧ Row w' w'.heap.size 19 A' n' (its (if chkP p = 0 then (M false ++ M true).filter (underB p) else [])) ∧ Below w.heap.size w w' := by
 obtain ⟨LL, hLL⟩ : ∃ LL, (if chkP p = 0 then (M false ++ M true).filter (underB p) else []) = LL := ⟨_, rfl⟩
 have HLL := Hh hLL
 rw [hLL]
 clear hLL
 have HN := Hh hn
 have HRW := Hh hr
 have HP := Hh hp
 have HMG := Hh (show ∀ x ∈ M false ++ M true, x.1.good from fun x hx => (List.mem_append.1 hx).elim (hM false x) (hM true x))
 clear hn hr hM hp
 go_enter Try.func28, Try.ntmps28
 go_upto_region 1 with (first
  | (refine wpList_box_blk (by rfl) 52 (.tmp 0) rfl F.cells rfl ?_; intro w1 hb1 hB1 hs1; clear hs1)
  | (refine wpList_box_blk (by rfl) 30 (.tmp 1) rfl p.cells rfl ?_; intro w2 hb2 hB2 hs2; clear hs2))
 obtain ⟨g2, hg2⟩ : ∃ g, w.heap.size = g := ⟨_, rfl⟩
 obtain ⟨g3, hg3⟩ : ∃ g, w1.heap.size = g := ⟨_, rfl⟩
 have HW := Hh (bthen hB1 hB2)
 have hk2 := hb1.on hB2
 rw [hg2] at hk2
 rw [hg3] at hb2
 try rw [hg2]
 try rw [hg3]
 have HF := Hh hk2
 have H3 := Hh hb2
 clear hb1 hB1 hb2 hB2 hk2 hg2 hg3
 go_wp2_with (refine wpList_value (by rfl) (exec_load 30 _ rfl g3 (by rfl) 30 p.cells _ H3.out Try.underlying30 rfl (sizePx _ HP.out.addr)) ?_)
 refine (rcheck_any p HP.out w2).mono ?_
 rintro e w3 ⟨rfl, hb⟩
 replace HW := Hh (bthen HW.out hb)
 replace HF := Hh (HF.out.on hb)
 replace H3 := Hh (H3.out.on hb)
 clear hb
 by_cases hq : chkP p = 0
 ·have HQ := Hh hq
  have HGP := Hh ((chkP_iff p HP.out.addr).1 hq)
  rw [hq]
  clear hq
  have HRA := Hh (fun b => (HRW.out b).below HW.out |>.more HW.out.size)
  go_wp2_with (refine wpList_value (by rfl) (exec_load 52 _ rfl g2 (by rfl) 52 F.cells _ HF.out Try.underlying52 rfl (Rf.size _)) ?_)
  refine (rall10_any F M w3 HN.out HRA.out).mono ?_
  rintro e w4 ⟨A', c', rfl, hO, hb⟩
  have hmn : F.n false + F.n true ≤ 131072 := by have := HN.out false; have := HN.out true; omega
  obtain ⟨m, hm⟩ : ∃ m, F.n false + F.n true = m := ⟨_, rfl⟩
  obtain ⟨Z, hZ⟩ : ∃ Z, M false ++ M true = Z := ⟨_, rfl⟩
  rw [hm, hZ] at hO
  rw [hm] at hmn
  rw [hm]
  rw [hZ] at HMG
  have HMF := Hh (fun x hx => (HMG.out x hx).fit)
  have HZE := Hh hZ
  have HZL := Hh (its_row hO.row HMF.out)
  have HR4 := Hh hO.row
  have HW4 := Hh (bthen HW.out hb)
  have H34 := Hh (H3.out.on hb)
  have HMN := Hh hmn
  have hmi : (m : Int) ≤ 131072 := by omega
  clear hO hb hm hZ HF H3 HRA hmn
  go_wp2_with fail
  go_loopw [6, 7] (fun s6 s7 wr => ∃ (i : Nat) (A2 : Option Addr) (c2 q : Nat), i ≤ m ∧ s7 = .int .i64 (i : Nat) ∧ s6 = .slice A2 q c2 ∧ q = ((Z.take i).filter (underB p)).length ∧ Own wr w4.heap.size 57 19 A2 q c2 (its ((Z.take i).filter (underB p))) ∧ Below w4.heap.size w4 wr) (fun _ s7 _ => m - (intOf s7).toNat)
  case atStart => exact ⟨0, none, 0, 0, Nat.zero_le _, rfl, rfl, rfl, Own.nil _ _ _ _ _, Below.refl _ _⟩
  case round =>
   obtain ⟨i, A2, c2, q, hi, rfl, rfl, hql, hO, hbe⟩ := hrel
   have HO := Hh hO
   have HBE := Hh hbe
   have HQL := Hh hql
   have HP3 := Hh (H34.out.on hbe)
   clear hO hbe hql
   by_cases hlt : i < m
   ·obtain ⟨x, hx⟩ := get_ex Z (k := i) (by rw [HZL.out]; exact hlt)
    obtain ⟨bM, oM, rfl, hbM, hcM⟩ := its_at2 HR4.out HMF.out i x hx
    have HXG := Hh (HMG.out x (List.mem_of_getElem? hx))
    have HXF := Hh HXG.out.fit
    have HXM := Hh (range_below HBE.out hbM hcM)
    have HBM := Hh (Nat.lt_of_lt_of_le hbM HBE.out.size)
    have HTK := Hh (show (Z.take (i + 1)).filter (underB p) = (Z.take i).filter (underB p) ++ (if underB p x then [x] else []) by
     rw [take_snoc Z i x hx, List.filter_append]
     congr 1
     cases h : underB p x
     ·rw [List.filter_cons_of_neg (by rw [h]; decide)]; rfl
     rw [List.filter_cons_of_pos (by rw [h])]; rfl)
    have hq9 : (q : Int) ≤ 131072 := by
     have h1 : q ≤ m := by rw [HQL.out, ← HZL.out]; exact Nat.le_trans (List.length_filter_le _ _) (by rw [List.length_take]; omega)
     omega
    have hlt2 : (i : Int) < (m : Int) := by omega
    clear hbM hcM hx
    obtain ⟨b, hb⟩ : ∃ b, underB p x = b := ⟨_, rfl⟩
    have HB := Hh hb
    rw [hb] at HTK
    clear hb
    go_wp2_with fail
    refine wp_region_rel (fun A B => A.grownBy B none) (fun A => grown_refl A _) (fun A B C h k => grown_trans h k) (relAt (eqs [.agg p.cells.toArray, .slice (some ⟨bM, oM, none⟩) m c', .int .i64 (i : Nat), .pointer (some ⟨bM, oM + i * 19, none⟩), .pointer (some ⟨bM, oM + i * 19, none⟩), .agg x.1.cells.toArray, .bool b])) (MonoL.at_ (eqs_mono _)) (by kernel_rfl) (by kernel_rfl) ⟨?_, ?_, ?_, ?_, ?_, ?_, ?_, trivial⟩ ?_
    ·intro a vs W hX hR he hf K hK
     refine wn rfl ?_
     have e3 : a.eval (.tmp 3) = .pointer (some ⟨g3, 0, none⟩) := hf 3 (by kernel_rfl)
     have hbW := bthen (below_drew _) (grow_below hX)
     exact wp_value (exec_load 30 _ rfl g3 e3 30 p.cells _ (HP3.out.on hbW) Try.underlying30 rfl (sizePx _ HP.out.addr)) (gK hK rfl)
    ·intro a vs W hX hR he hf K hK
     refine wn rfl ?_
     have e5 : a.eval (.tmp 5) = .slice (some ⟨bM, oM, none⟩) m c' := hf 5 (by kernel_rfl)
     refine wV hK rfl ?_
     simp only [execOp, e5]
     try go_simp
    ·intro a vs W hX hR he hf K hK
     refine wn rfl ?_
     have e7 : a.eval (.tmp 7) = .int .i64 (i : Nat) := hf 7 (by kernel_rfl)
     refine wV hK rfl ?_
     simp only [execOp, e7]
     try go_simp
    ·intro a vs W hX hR he hf K hK
     refine wn rfl ?_
     have e20 : a.eval (.tmp 20) = .slice (some ⟨bM, oM, none⟩) m c' := eH he hR 1 (by kernel_rfl) rfl
     have e21 : a.eval (.tmp 21) = .int .i64 (i : Nat) := eH he hR 2 (by kernel_rfl) rfl
     refine wV hK rfl ?_
     simp only [execOp, e20, e21]
     go_simp
    ·intro a vs W hX hR he hf K hK
     refine wn rfl ?_
     have e22 : a.eval (.tmp 22) = .pointer (some ⟨bM, oM + i * 19, none⟩) := eH he hR 3 (by kernel_rfl) rfl
     refine wV hK rfl ?_
     simp only [execOp, e22]
     try go_simp
    ·intro a vs W hX hR he hf K hK
     refine wn rfl ?_
     have e23 : a.eval (.tmp 23) = .pointer (some ⟨bM, oM + i * 19, none⟩) := eH he hR 4 (by kernel_rfl) rfl
     have hbW := bthen (below_drew _) (grow_below hX)
     exact wp_value (exec_load_mid 30 _ rfl bM (oM + i * 19) e23 x.1.cells _ (range_below hbW HBM.out (it_px HXM.out)) Try.underlying30 rfl (sizePx _ HXF.out.addr)) (gK hK rfl)
    ·intro a vs W hX hR he hf K hK
     refine wn rfl ?_
     have e19 : a.eval (.tmp 19) = .agg p.cells.toArray := eH he hR 0 (by kernel_rfl) rfl
     have e24 : a.eval (.tmp 24) = .agg x.1.cells.toArray := eH he hR 5 (by kernel_rfl) rfl
     refine wp_enter (f := 16) (args := #[.agg p.cells.toArray, .agg x.1.cells.toArray]) (by simp only [execOp, e19, e24]; go_simp; exact ⟨by simpa [Act.eval] using e19, by simpa [Act.eval] using e24⟩) ((rcovers_any p HGP.out x.1 HXG.out W).mono ?_)
     rintro e w' ⟨rfl, hb⟩
     rw [show covP p x.1 = b from HB.out]
     exact ⟨_, rfl, hK _ _ rfl (below_grow hb _)⟩
    intro vs wx hXx hR
    rw [put_eqs hR rfl]
    simp only [putL, Act.put, List.setIfInBounds_toArray, List.set_cons_zero, List.set_cons_succ]
    clear hR
    replace HO := Hh (HO.out.below (bthen (below_drew _) (grow_below hXx)))
    replace HXM := Hh (range_below (bthen (below_drew _) (grow_below hXx)) HBM.out HXM.out)
    replace HBE := Hh (HBE.out.trans ((bthen (below_drew _) (grow_below hXx)).mono HBE.out.size))
    replace HBM := Hh (Nat.lt_of_lt_of_le HBM.out (bthen (below_drew _) (grow_below hXx)).size)
    clear hXx
    cases b
    ·go_wp2_with fail
     go_roundw
     case rel => exact ⟨i + 1, A2, c2, q, by omega, by simp, rfl, by rw [HTK.out]; simpa using HQL.out, by rw [HTK.out]; simpa using HO.out, HBE.out⟩
     case measure => simp [intOf]; omega
    go_upto_region 9 with fail
    have hBk := Blk.new wx 57 (itC x)
    have hrw := hBk.row 19 0 1 (by rw [itC_length x HXF.out.addr]; omega)
    rw [List.drop_zero, Nat.one_mul, List.take_of_length_le (by rw [itC_length x HXF.out.addr]; omega)] at hrw
    have HRI := Hh hrw
    have HAL := Hh (alloc_below wx (.cells (itC x).toArray 57))
    have H2 := Hh (itC_one x)
    have HSZ : w4.heap.size ≤ wx.heap.size := HBE.out.size
    clear hBk hrw
    go_upto_region 7 with (first
     | (refine wpList_value (by rfl) (exec_load_mid 57 _ rfl bM (oM + i * 19) (by rfl) (itC x) _ HXM.out Try.underlying57 rfl (size57 _ HXF.out.addr)) ?_)
     | (refine wpList_value (by rfl) (exec_sliceI _ rfl x.1 HXF.out.addr x.2 rfl) ?_)
     | (at_builtin; refine wpList_append_Own _ rfl _ _ 48 rfl w4.heap.size 57 _ 19 40 Try.underlying48 infoItem rfl (by decide) _ _ _ _ rfl (HO.out.alloc _) (wx.alloc (.cells (itC x).toArray 57)).heap.size (some ⟨wx.heap.size, 0, none⟩) 1 1 (itC x) rfl HRI.out H2.out (by simp only [maxLen]; omega) (by omega) (Nat.le_trans HSZ HAL.out.size) ?_; intro A7 c7 w7 hown7 hg7 hA7))
    have hb7 : Below w4.heap.size wx w7 := (HAL.out.mono HSZ).grown hg7 (Nat.le_trans HSZ HAL.out.size) (fun g hg => (HO.out.lt g hg).1)
    replace HBE := Hh (HBE.out.trans hb7)
    replace HO := Hh hown7
    clear hown7 hg7 hA7 hb7 HSZ
    go_wp2_with fail
    go_roundw
    case rel => exact ⟨i + 1, A7, c7, q + 1, by omega, by simp, rfl, by rw [HTK.out, HQL.out]; simp, by rw [HTK.out, its_append]; simpa [its] using HO.out, HBE.out⟩
    case measure => simp [intOf]; omega
   obtain rfl : i = m := by omega
   have htk : Z.take i = Z := List.take_of_length_le (by rw [HZL.out]; exact Nat.le_refl _)
   have HRF := Hh (show Row wr wr.heap.size 19 A2 q (its LL) by
    rw [← HLL.out, if_pos HQ.out, HZE.out]
    have h9 := HO.out.row
    rw [htk] at h9
    exact h9)
   have HWF := Hh (bthen HW4.out HBE.out)
   clear htk
   go_wp2_with fail
   go_ret
   exact ⟨A2, q, c2, rfl, HRF.out, HWF.out⟩
 have HQ := Hh hq
 obtain ⟨q, hqq⟩ : ∃ q, chkP p = q := ⟨_, rfl⟩
 rw [hqq] at hq
 rw [hqq]
 clear hqq
 go_wp2_with fail
 go_ret
 exact ⟨none, 0, 0, rfl, by rw [← HLL.out, if_neg HQ.out]; exact Row.nil _ _ _ _, HW.out⟩
end Go.Proofs.Ytdmgomknamdcfaa


/- Texts of this claim put together, in build order: each one's own remark stands ahead of it. -/
import Derived.Test.YtdmgomknamdcfaaG02
import Derived.Test.YtdmgomknamdcfaaG35
import Derived.Deep.DeepCutAuto
import Derived.Test.YtdmgomknamdcfaaG01
import Derived.OpenShut
import Derived.ShutString
import Derived.ChangeOld
import Derived.Test.YtdmgomknamdcfaaG27
import Derived.Deep.Slices
import Derived.Deep.Fields
import Derived.ChangeSame
/- What the reference's Above of both kinds computes. No condition but sizes. -/
namespace Go.Proofs.Ytdmgomknamdcfaa
open Go.RowKit
set_option linter.unusedVariables false
set_option maxRecDepth 20000
set_option linter.unusedSimpArgs false

/-- what covers a prefix, by falling length: so many lengths -/
def upsR (Z : List Itm) (p : Px) : Nat → List Itm
 | 0 => []
 | t + 1 => upsR Z p t ++ Z.filter (fun x => decide (x.1.len = p.len - 1 - (t : Int)) && covP x.1 p)
theorem upsR_len (Z : List Itm) (p : Px) : ∀ t, (upsR Z p t).length ≤ t * Z.length
 | 0 => Nat.zero_le _
 | t + 1 => by
  show (upsR Z p t ++ _).length ≤ _
  rw [List.length_append, Nat.succ_mul]
  exact Nat.add_le_add (upsR_len Z p t) (List.length_filter_le _ _)
def W17 (w : World) (b o : Nat) (l : Int) : Prop := w.cell? ⟨b, o, none⟩ = some (.int .i64 l)
set_option maxHeartbeats 4000000 in
theorem rabove10_any (F : Rf) (M : Bool → List Itm) (w : World) (hn : ∀ b, F.n b ≤ 60) (hM : ∀ b, ∀ x ∈ M b, x.1.good) (hr : ∀ b, Row w w.heap.size 19 (F.A b) (F.n b) (its (M b))) (p : Px) (hp : p.fit) :
  Calls Try.prog 27 #[.agg F.cells.toArray, .agg p.cells.toArray] w fun e w' => ∃ A' n' c', e = .returned (.slice A' n' c') ∧ Row w' w'.heap.size 19 A' n' (its (if chkP p = 0 then upsR (M false ++ M true) p p.len.toNat else [])) ∧ Below w.heap.size w w' := by
 obtain ⟨LL, hLL⟩ : ∃ LL, (if chkP p = 0 then upsR (M false ++ M true) p p.len.toNat else []) = LL := ⟨_, rfl⟩
 have HLL := Hh hLL
 rw [hLL]
 clear hLL
 have HN := Hh hn
 have HRW := Hh hr
 have HP := Hh hp
 have HMG := Hh (show ∀ x ∈ M false ++ M true, x.1.good from fun x hx => (List.mem_append.1 hx).elim (hM false x) (hM true x))
 clear hn hr hM hp
 go_enter Try.func27, Try.ntmps27
 go_upto_region 1 with (first
  | (refine wpList_box_blk (by rfl) 52 (.tmp 0) rfl F.cells rfl ?_; intro w1 hb1 hB1 hs1; clear hs1)
  | (refine wpList_box_blk (by rfl) 30 (.tmp 1) rfl p.cells rfl ?_; intro w2 hb2 hB2 hs2; clear hs2))
 obtain ⟨g2, hg2⟩ : ∃ g, w.heap.size = g := ⟨_, rfl⟩
 obtain ⟨g3, hg3⟩ : ∃ g, w1.heap.size = g := ⟨_, rfl⟩
 have HW := Hh (bthen hB1 hB2)
 have hk2 := hb1.on hB2
 rw [hg2] at hk2
 rw [hg3] at hb2
 try rw [hg2]
 try rw [hg3]
 have HF := Hh hk2
 have H3 := Hh hb2
 clear hb1 hB1 hb2 hB2 hk2 hg2 hg3
 go_wp2_with (refine wpList_value (by rfl) (exec_load 30 _ rfl g3 (by rfl) 30 p.cells _ H3.out Try.underlying30 rfl (sizePx _ HP.out.addr)) ?_)
 refine (rcheck_any p HP.out w2).mono ?_
 rintro e w3 ⟨rfl, hb⟩
 replace HW := Hh (bthen HW.out hb)
 replace HF := Hh (HF.out.on hb)
 replace H3 := Hh (H3.out.on hb)
 clear hb
 by_cases hq : chkP p = 0
 ·have HQ := Hh hq
  have HGP := Hh ((chkP_iff p HP.out.addr).1 hq)
  rw [hq]
  clear hq
  have HRA := Hh (fun b => (HRW.out b).below HW.out |>.more HW.out.size)
  go_wp2_with (refine wpList_value (by rfl) (exec_load 52 _ rfl g2 (by rfl) 52 F.cells _ HF.out Try.underlying52 rfl (Rf.size _)) ?_)
  refine (rall10_any F M w3 (fun b => Nat.le_trans (HN.out b) (by decide)) HRA.out).mono ?_
  rintro e w4 ⟨A', c', rfl, hO, hb⟩
  have hmn : F.n false + F.n true ≤ 120 := by have := HN.out false; have := HN.out true; omega
  obtain ⟨m, hm⟩ : ∃ m, F.n false + F.n true = m := ⟨_, rfl⟩
  obtain ⟨Z, hZ⟩ : ∃ Z, M false ++ M true = Z := ⟨_, rfl⟩
  rw [hm, hZ] at hO
  rw [hm] at hmn
  rw [hm]
  rw [hZ] at HMG
  have HMF := Hh (fun x hx => (HMG.out x hx).fit)
  have HZE := Hh hZ
  have HZL := Hh (its_row hO.row HMF.out)
  have HR4 := Hh hO.row
  have HW4 := Hh (bthen HW.out hb)
  have H34 := Hh (H3.out.on hb)
  have HMN := Hh hmn
  have hmi : (m : Int) ≤ 120 := by omega
  clear hO hb hm hZ HF H3 HRA hmn
  obtain ⟨ln, hln⟩ : ∃ ln, p.len.toNat = ln := ⟨_, rfl⟩
  have hpl : p.len = (ln : Int) := by have := HGP.out.ge; omega
  have hl128 : ln ≤ 128 := by have h1 := HGP.out.le; have h2 := mostF_le p.six; omega
  have c17 : w4.cell? ⟨g3, 17, none⟩ = some (.int .i64 (ln : Int)) := by rw [← hpl]; exact (H34.out.cell 17).trans (p.get_len HP.out.addr)
  have HPL := Hh hpl
  have HLN := Hh hln
  have HL128 := Hh hl128
  have hli : (ln : Int) ≤ 128 := by omega
  clear hln hpl hl128
  go_wp2_with fail
  clear c17
  go_loopw [6, 7, 8] (fun s6 s7 _ wr => ∃ (k : Nat) (A2 : Option Addr) (c2 q : Nat), k ≤ ln ∧ s7 = .int .i64 ((k : Int) - 1) ∧ s6 = .slice A2 q c2 ∧ q = (upsR Z p (ln - k)).length ∧ Own wr w4.heap.size 57 19 A2 q c2 (its (upsR Z p (ln - k))) ∧ Below w4.heap.size w4 wr) (fun _ s7 _ _ => (intOf s7 + 1).toNat)
  case atStart => exact ⟨ln, none, 0, 0, Nat.le_refl _, rfl, rfl, by rw [Nat.sub_self]; rfl, by rw [Nat.sub_self]; exact Own.nil _ _ _ _ _, Below.refl _ _⟩
  case round =>
   obtain ⟨k, A2, c2, q, hk, rfl, rfl, hql, hO, hbe⟩ := hrel
   have HO0 := Hh hO
   have HBE0 := Hh hbe
   have HQL0 := Hh hql
   clear hO hbe hql
   by_cases hk0 : 0 < k
   ·obtain ⟨nn, rfl⟩ : ∃ nn, k = nn + 1 := ⟨k - 1, by omega⟩
    obtain ⟨t0, ht0⟩ : ∃ t, ln - (nn + 1) = t := ⟨_, rfl⟩
    have HT0 := Hh (show ln - nn = t0 + 1 by omega)
    have HNN := Hh (show p.len - 1 - (t0 : Int) = (nn : Int) by rw [HPL.out]; omega)
    rw [ht0] at HQL0 HO0
    rw [show ((nn + 1 : Nat) : Int) - 1 = (nn : Int) by omega]
    have hnn : (nn : Int) < (ln : Int) := by omega
    have hnn0 : (0 : Int) ≤ (nn : Int) := by omega
    have HT1 := Hh (show t0 ≤ 128 by have := HL128.out; omega)
    clear ht0 hk0
    go_wp2_with fail
    go_loopw [6, 8] (fun s6 s8 wr => ∃ (i : Nat) (A2 : Option Addr) (c2 q : Nat), i ≤ m ∧ s8 = .int .i64 (i : Nat) ∧ s6 = .slice A2 q c2 ∧ q = (upsR Z p t0 ++ (Z.take i).filter (fun x => decide (x.1.len = (nn : Int)) && covP x.1 p)).length ∧ Own wr w4.heap.size 57 19 A2 q c2 (its (upsR Z p t0 ++ (Z.take i).filter (fun x => decide (x.1.len = (nn : Int)) && covP x.1 p))) ∧ Below w4.heap.size w4 wr) (fun _ s8 _ => m - (intOf s8).toNat)
    case atStart => exact ⟨0, A2, c2, q, Nat.zero_le _, rfl, rfl, by rw [HQL0.out]; simp, by simpa using HO0.out, HBE0.out⟩
    case round =>
     obtain ⟨i, A2, c2, q, hi, rfl, rfl, hql, hO, hbe⟩ := hrel
     have HO := Hh hO
     have HBE := Hh hbe
     have HQL := Hh hql
     have HP3 := Hh (H34.out.on hbe)
     clear hO hbe hql HO0 HBE0 HQL0
     by_cases hlt : i < m
     ·obtain ⟨x, hx⟩ := get_ex Z (k := i) (by rw [HZL.out]; exact hlt)
      obtain ⟨bM, oM, rfl, hbM, hcM⟩ := its_at2 HR4.out HMF.out i x hx
      have HXG := Hh (HMG.out x (List.mem_of_getElem? hx))
      have HXF := Hh HXG.out.fit
      have HXM := Hh (range_below HBE.out hbM hcM)
      have HBM := Hh (Nat.lt_of_lt_of_le hbM HBE.out.size)
      have HTK := Hh (show (Z.take (i + 1)).filter (fun x => decide (x.1.len = (nn : Int)) && covP x.1 p) = (Z.take i).filter (fun x => decide (x.1.len = (nn : Int)) && covP x.1 p) ++ (if (decide (x.1.len = (nn : Int)) && covP x.1 p) = true then [x] else []) by
       rw [take_snoc Z i x hx, List.filter_append]
       congr 1
       cases h : decide (x.1.len = (nn : Int)) && covP x.1 p
       ·rw [List.filter_cons_of_neg (by rw [h]; decide)]; rfl
       rw [List.filter_cons_of_pos (by rw [h])]; rfl)
      have hq9 : (q : Int) ≤ 100000 := by
       have h1 : q ≤ 128 * 120 + 120 := by
        rw [HQL.out, List.length_append]
        have h2 := upsR_len Z p t0
        have h3 : ((Z.take i).filter (fun x => decide (x.1.len = (nn : Int)) && covP x.1 p)).length ≤ m := by rw [← HZL.out]; exact Nat.le_trans (List.length_filter_le _ _) (by rw [List.length_take]; omega)
        rw [HZL.out] at h2
        have h4 := HMN.out
        have h5 : t0 * m ≤ 128 * 120 := Nat.mul_le_mul HT1.out h4
        omega
       omega
      have hlt2 : (i : Int) < (m : Int) := by omega
      clear hbM hcM hx
      obtain ⟨xl, hxl⟩ : ∃ l, x.1.len = l := ⟨_, rfl⟩
      have c17 : wr.cell? ⟨bM, oM + i * 19 + 17, none⟩ = some (.int .i64 xl) := by rw [← hxl]; exact HXM.out 17 _ (it_len HXF.out.addr)
      have HXL := Hh (show W17 wr bM (oM + i * 19 + 17) xl from c17)
      rw [hxl] at HTK
      clear hxl c17
      by_cases he : xl = (nn : Int)
      ·obtain ⟨b, hb⟩ : ∃ b, covP x.1 p = b := ⟨_, rfl⟩
       have HB := Hh hb
       have HTK2 := Hh (HTK.out.trans (by rw [decide_eq_true he, hb, Bool.true_and]))
       subst he
       clear hb
       go_wp2_with fail
       refine wp_region_rel (fun A B => A.grownBy B none) (fun A => grown_refl A _) (fun A B C h k => grown_trans h k) (relAt (eqs [.slice (some ⟨bM, oM, none⟩) m c', .int .i64 (i : Nat), .pointer (some ⟨bM, oM + i * 19, none⟩), .pointer (some ⟨bM, oM + i * 19, none⟩), .pointer (some ⟨bM, oM + i * 19 + 17, none⟩), .int .i64 (nn : Nat), .int .i64 (nn : Nat), .bool true, .bool true, .slice (some ⟨bM, oM, none⟩) m c', .int .i64 (i : Nat), .pointer (some ⟨bM, oM + i * 19, none⟩), .pointer (some ⟨bM, oM + i * 19, none⟩), .agg x.1.cells.toArray, .agg p.cells.toArray, .bool b, .bool b])) (MonoL.at_ (eqs_mono _)) (by kernel_rfl) (by kernel_rfl) ⟨?_, ?_, ?_, ?_, ?_, ?_, ?_, ?_, ?_, ?_, ?_, ?_, ?_, ?_, ?_, ?_, ?_, trivial⟩ ?_
       ·intro a vs W hX hR he hf K hK
        refine wn rfl ?_
        have e5 : a.eval (.tmp 5) = .slice (some ⟨bM, oM, none⟩) m c' := hf 5 (by kernel_rfl)
        refine wV hK rfl ?_
        simp only [execOp, e5]
        try go_simp
       ·intro a vs W hX hR he hf K hK
        refine wn rfl ?_
        have e8 : a.eval (.tmp 8) = .int .i64 (i : Nat) := hf 8 (by kernel_rfl)
        refine wV hK rfl ?_
        simp only [execOp, e8]
        try go_simp
       ·intro a vs W hX hR he hf K hK
        refine wn rfl ?_
        have e27 : a.eval (.tmp 27) = .slice (some ⟨bM, oM, none⟩) m c' := eH he hR 0 (by kernel_rfl) rfl
        have e28 : a.eval (.tmp 28) = .int .i64 (i : Nat) := eH he hR 1 (by kernel_rfl) rfl
        refine wV hK rfl ?_
        simp only [execOp, e27, e28]
        go_simp
       ·intro a vs W hX hR he hf K hK
        refine wn rfl ?_
        have e29 : a.eval (.tmp 29) = .pointer (some ⟨bM, oM + i * 19, none⟩) := eH he hR 2 (by kernel_rfl) rfl
        refine wV hK rfl ?_
        simp only [execOp, e29]
        try go_simp
       ·intro a vs W hX hR he hf K hK
        refine wn rfl ?_
        have e30 : a.eval (.tmp 30) = .pointer (some ⟨bM, oM + i * 19, none⟩) := eH he hR 3 (by kernel_rfl) rfl
        refine wV hK rfl ?_
        simp only [execOp, e30]
        try go_simp
       ·intro a vs W hX hR he hf K hK
        refine wn rfl ?_
        have e31 : a.eval (.tmp 31) = .pointer (some ⟨bM, oM + i * 19 + 17, none⟩) := eH he hR 4 (by kernel_rfl) rfl
        have hbW := bthen (below_drew _) (grow_below hX)
        have hc : W.cell? ⟨bM, oM + i * 19 + 17, none⟩ = some (.int .i64 (nn : Nat)) := (hbW.cell (p := ⟨bM, oM + i * 19 + 17, none⟩) HBM.out).trans HXL.out
        refine wV hK rfl ?_
        simp only [execOp, e31]
        try go_simp
       ·intro a vs W hX hR he hf K hK
        refine wn rfl ?_
        have e7 : a.eval (.tmp 7) = .int .i64 (nn : Nat) := hf 7 (by kernel_rfl)
        refine wV hK rfl ?_
        simp only [execOp, e7]
        try go_simp
       ·intro a vs W hX hR he hf K hK
        refine wn rfl ?_
        have e32 : a.eval (.tmp 32) = .int .i64 (nn : Nat) := eH he hR 5 (by kernel_rfl) rfl
        have e33 : a.eval (.tmp 33) = .int .i64 (nn : Nat) := eH he hR 6 (by kernel_rfl) rfl
        refine wV hK rfl ?_
        simp only [execOp, e32, e33]
        go_simp
       ·intro a vs W hX hR he hf K hK
        refine wn rfl ?_
        have e34 : a.eval (.tmp 34) = .bool true := eH he hR 7 (by kernel_rfl) rfl
        refine wV hK rfl ?_
        simp only [execOp, e34]
        try go_simp
       ·intro a vs W hX hR he hf K hK
        have e35 : a.eval (.tmp 35) = .bool true := eH he hR 8 (by kernel_rfl) rfl
        refine gT e35 rfl rfl rfl ?_
        have e5 : a.eval (.tmp 5) = .slice (some ⟨bM, oM, none⟩) m c' := hf 5 (by kernel_rfl)
        refine wV hK rfl ?_
        simp only [execOp, e5]
        try go_simp
       ·intro a vs W hX hR he hf K hK
        have e35 : a.eval (.tmp 35) = .bool true := eH he hR 8 (by kernel_rfl) rfl
        refine gT e35 rfl rfl rfl ?_
        have e8 : a.eval (.tmp 8) = .int .i64 (i : Nat) := hf 8 (by kernel_rfl)
        refine wV hK rfl ?_
        simp only [execOp, e8]
        try go_simp
       ·intro a vs W hX hR he hf K hK
        have e35 : a.eval (.tmp 35) = .bool true := eH he hR 8 (by kernel_rfl) rfl
        refine gT e35 rfl rfl rfl ?_
        have e36 : a.eval (.tmp 36) = .slice (some ⟨bM, oM, none⟩) m c' := eH he hR 9 (by kernel_rfl) rfl
        have e37 : a.eval (.tmp 37) = .int .i64 (i : Nat) := eH he hR 10 (by kernel_rfl) rfl
        refine wV hK rfl ?_
        simp only [execOp, e36, e37]
        go_simp
       ·intro a vs W hX hR he hf K hK
        have e35 : a.eval (.tmp 35) = .bool true := eH he hR 8 (by kernel_rfl) rfl
        refine gT e35 rfl rfl rfl ?_
        have e38 : a.eval (.tmp 38) = .pointer (some ⟨bM, oM + i * 19, none⟩) := eH he hR 11 (by kernel_rfl) rfl
        refine wV hK rfl ?_
        simp only [execOp, e38]
        try go_simp
       ·intro a vs W hX hR he hf K hK
        have e35 : a.eval (.tmp 35) = .bool true := eH he hR 8 (by kernel_rfl) rfl
        refine gT e35 rfl rfl rfl ?_
        have e39 : a.eval (.tmp 39) = .pointer (some ⟨bM, oM + i * 19, none⟩) := eH he hR 12 (by kernel_rfl) rfl
        have hbW := bthen (below_drew _) (grow_below hX)
        exact wp_value (exec_load_mid 30 _ rfl bM (oM + i * 19) e39 x.1.cells _ (range_below hbW HBM.out (it_px HXM.out)) Try.underlying30 rfl (sizePx _ HXF.out.addr)) (gK hK rfl)
       ·intro a vs W hX hR he hf K hK
        have e35 : a.eval (.tmp 35) = .bool true := eH he hR 8 (by kernel_rfl) rfl
        refine gT e35 rfl rfl rfl ?_
        have e3 : a.eval (.tmp 3) = .pointer (some ⟨g3, 0, none⟩) := hf 3 (by kernel_rfl)
        have hbW := bthen (below_drew _) (grow_below hX)
        exact wp_value (exec_load 30 _ rfl g3 e3 30 p.cells _ (HP3.out.on hbW) Try.underlying30 rfl (sizePx _ HP.out.addr)) (gK hK rfl)
       ·intro a vs W hX hR he hf K hK
        have e35 : a.eval (.tmp 35) = .bool true := eH he hR 8 (by kernel_rfl) rfl
        refine gT e35 rfl rfl rfl ?_
        have e40 : a.eval (.tmp 40) = .agg x.1.cells.toArray := eH he hR 13 (by kernel_rfl) rfl
        have e41 : a.eval (.tmp 41) = .agg p.cells.toArray := eH he hR 14 (by kernel_rfl) rfl
        refine wp_enter (f := 16) (args := #[.agg x.1.cells.toArray, .agg p.cells.toArray]) (by simp only [execOp, e40, e41]; go_simp; exact ⟨by simpa [Act.eval] using e40, by simpa [Act.eval] using e41⟩) ((rcovers_any x.1 HXG.out p HGP.out W).mono ?_)
        rintro e w' ⟨rfl, hb⟩
        rw [HB.out]
        exact ⟨_, rfl, hK _ _ rfl (below_grow hb _)⟩
       ·intro a vs W hX hR he hf K hK
        refine wn rfl ?_
        have e35 : a.eval (.tmp 35) = .bool true := eH he hR 8 (by kernel_rfl) rfl
        have e42 : a.eval (.tmp 42) = .bool b := eH he hR 15 (by kernel_rfl) rfl
        refine wV hK rfl ?_
        simp only [execOp, e35, e42]
        go_simp
       intro vs wx hXx hR
       rw [put_eqs hR rfl]
       simp only [putL, Act.put, List.setIfInBounds_toArray, List.set_cons_zero, List.set_cons_succ]
       clear hR
       replace HO := Hh (HO.out.below (bthen (below_drew _) (grow_below hXx)))
       replace HXM := Hh (range_below (bthen (below_drew _) (grow_below hXx)) HBM.out HXM.out)
       replace HBE := Hh (HBE.out.trans ((bthen (below_drew _) (grow_below hXx)).mono HBE.out.size))
       replace HBM := Hh (Nat.lt_of_lt_of_le HBM.out (bthen (below_drew _) (grow_below hXx)).size)
       clear hXx
       cases b
       ·rw [if_neg (by decide)] at HTK2
        go_wp2_with fail
        go_roundw
        case rel => exact ⟨i + 1, A2, c2, q, by omega, by simp, rfl, by rw [HTK2.out]; simpa using HQL.out, by rw [HTK2.out]; simpa using HO.out, HBE.out⟩
        case measure => simp [intOf]; omega
       rw [if_pos rfl] at HTK2
       go_upto_region 12 with fail
       have hBk := Blk.new wx 57 (itC x)
       have hrw := hBk.row 19 0 1 (by rw [itC_length x HXF.out.addr]; omega)
       rw [List.drop_zero, Nat.one_mul, List.take_of_length_le (by rw [itC_length x HXF.out.addr]; omega)] at hrw
       have HRI := Hh hrw
       have HAL := Hh (alloc_below wx (.cells (itC x).toArray 57))
       have H2 := Hh (itC_one x)
       have HSZ : w4.heap.size ≤ wx.heap.size := HBE.out.size
       clear hBk hrw
       go_upto_region 10 with (first
        | (refine wpList_value (by rfl) (exec_load_mid 57 _ rfl bM (oM + i * 19) (by rfl) (itC x) _ HXM.out Try.underlying57 rfl (size57 _ HXF.out.addr)) ?_)
        | (refine wpList_value (by rfl) (exec_sliceI _ rfl x.1 HXF.out.addr x.2 rfl) ?_)
        | (at_builtin; refine wpList_append_Own _ rfl _ _ 48 rfl w4.heap.size 57 _ 19 40 Try.underlying48 infoItem rfl (by decide) _ _ _ _ rfl (HO.out.alloc _) (wx.alloc (.cells (itC x).toArray 57)).heap.size (some ⟨wx.heap.size, 0, none⟩) 1 1 (itC x) rfl HRI.out H2.out (by simp only [maxLen]; omega) (by omega) (Nat.le_trans HSZ HAL.out.size) ?_; intro A7 c7 w7 hown7 hg7 hA7))
       have hb7 : Below w4.heap.size wx w7 := (HAL.out.mono HSZ).grown hg7 (Nat.le_trans HSZ HAL.out.size) (fun g hg => (HO.out.lt g hg).1)
       replace HBE := Hh (HBE.out.trans hb7)
       replace HO := Hh hown7
       clear hown7 hg7 hA7 hb7 HSZ
       go_wp2_with fail
       go_roundw
       case rel => exact ⟨i + 1, A7, c7, q + 1, by omega, by simp, rfl, by rw [HTK2.out, HQL.out]; simp; omega, by rw [HTK2.out, ← List.append_assoc, its_append]; simpa [its] using HO.out, HBE.out⟩
       case measure => simp [intOf]; omega
      have HTK2 := Hh (HTK.out.trans (by rw [decide_eq_false he, Bool.false_and, if_neg (by decide)]))
      go_wp2_with fail
      refine wp_region_rel (fun A B => A.grownBy B none) (fun A => grown_refl A _) (fun A B C h k => grown_trans h k) (relAt (eqs [.slice (some ⟨bM, oM, none⟩) m c', .int .i64 (i : Nat), .pointer (some ⟨bM, oM + i * 19, none⟩), .pointer (some ⟨bM, oM + i * 19, none⟩), .pointer (some ⟨bM, oM + i * 19 + 17, none⟩), .int .i64 xl, .int .i64 (nn : Nat), .bool false, .bool false, undef, undef, undef, undef, undef, undef, undef, .bool false])) (MonoL.at_ (eqs_mono _)) (by kernel_rfl) (by kernel_rfl) ⟨?_, ?_, ?_, ?_, ?_, ?_, ?_, ?_, ?_, ?_, ?_, ?_, ?_, ?_, ?_, ?_, ?_, trivial⟩ ?_
      ·intro a vs W hX hR he hf K hK
       refine wn rfl ?_
       have e5 : a.eval (.tmp 5) = .slice (some ⟨bM, oM, none⟩) m c' := hf 5 (by kernel_rfl)
       refine wV hK rfl ?_
       simp only [execOp, e5]
       try go_simp
      ·intro a vs W hX hR he hf K hK
       refine wn rfl ?_
       have e8 : a.eval (.tmp 8) = .int .i64 (i : Nat) := hf 8 (by kernel_rfl)
       refine wV hK rfl ?_
       simp only [execOp, e8]
       try go_simp
      ·intro a vs W hX hR he hf K hK
       refine wn rfl ?_
       have e27 : a.eval (.tmp 27) = .slice (some ⟨bM, oM, none⟩) m c' := eH he hR 0 (by kernel_rfl) rfl
       have e28 : a.eval (.tmp 28) = .int .i64 (i : Nat) := eH he hR 1 (by kernel_rfl) rfl
       refine wV hK rfl ?_
       simp only [execOp, e27, e28]
       go_simp
      ·intro a vs W hX hR he hf K hK
       refine wn rfl ?_
       have e29 : a.eval (.tmp 29) = .pointer (some ⟨bM, oM + i * 19, none⟩) := eH he hR 2 (by kernel_rfl) rfl
       refine wV hK rfl ?_
       simp only [execOp, e29]
       try go_simp
      ·intro a vs W hX hR he hf K hK
       refine wn rfl ?_
       have e30 : a.eval (.tmp 30) = .pointer (some ⟨bM, oM + i * 19, none⟩) := eH he hR 3 (by kernel_rfl) rfl
       refine wV hK rfl ?_
       simp only [execOp, e30]
       try go_simp
      ·intro a vs W hX hR he hf K hK
       refine wn rfl ?_
       have e31 : a.eval (.tmp 31) = .pointer (some ⟨bM, oM + i * 19 + 17, none⟩) := eH he hR 4 (by kernel_rfl) rfl
       have hbW := bthen (below_drew _) (grow_below hX)
       have hc : W.cell? ⟨bM, oM + i * 19 + 17, none⟩ = some (.int .i64 xl) := (hbW.cell (p := ⟨bM, oM + i * 19 + 17, none⟩) HBM.out).trans HXL.out
       refine wV hK rfl ?_
       simp only [execOp, e31]
       try go_simp
      ·intro a vs W hX hR he hf K hK
       refine wn rfl ?_
       have e7 : a.eval (.tmp 7) = .int .i64 (nn : Nat) := hf 7 (by kernel_rfl)
       refine wV hK rfl ?_
       simp only [execOp, e7]
       try go_simp
      ·intro a vs W hX hR he hf K hK
       refine wn rfl ?_
       have e32 : a.eval (.tmp 32) = .int .i64 xl := eH he hR 5 (by kernel_rfl) rfl
       have e33 : a.eval (.tmp 33) = .int .i64 (nn : Nat) := eH he hR 6 (by kernel_rfl) rfl
       refine wV hK rfl ?_
       simp only [execOp, e32, e33]
       go_simp
       try simp [he]
      ·intro a vs W hX hR he hf K hK
       refine wn rfl ?_
       have e34 : a.eval (.tmp 34) = .bool false := eH he hR 7 (by kernel_rfl) rfl
       refine wV hK rfl ?_
       simp only [execOp, e34]
       try go_simp
      ·intro a vs W hX hR he hf K hK
       have e35 : a.eval (.tmp 35) = .bool false := eH he hR 8 (by kernel_rfl) rfl
       exact gN e35 rfl rfl rfl (gK hK rfl)
      ·intro a vs W hX hR he hf K hK
       have e35 : a.eval (.tmp 35) = .bool false := eH he hR 8 (by kernel_rfl) rfl
       exact gN e35 rfl rfl rfl (gK hK rfl)
      ·intro a vs W hX hR he hf K hK
       have e35 : a.eval (.tmp 35) = .bool false := eH he hR 8 (by kernel_rfl) rfl
       exact gN e35 rfl rfl rfl (gK hK rfl)
      ·intro a vs W hX hR he hf K hK
       have e35 : a.eval (.tmp 35) = .bool false := eH he hR 8 (by kernel_rfl) rfl
       exact gN e35 rfl rfl rfl (gK hK rfl)
      ·intro a vs W hX hR he hf K hK
       have e35 : a.eval (.tmp 35) = .bool false := eH he hR 8 (by kernel_rfl) rfl
       exact gN e35 rfl rfl rfl (gK hK rfl)
      ·intro a vs W hX hR he hf K hK
       have e35 : a.eval (.tmp 35) = .bool false := eH he hR 8 (by kernel_rfl) rfl
       exact gN e35 rfl rfl rfl (gK hK rfl)
      ·intro a vs W hX hR he hf K hK
       have e35 : a.eval (.tmp 35) = .bool false := eH he hR 8 (by kernel_rfl) rfl
       exact gN e35 rfl rfl rfl (gK hK rfl)
      ·intro a vs W hX hR he hf K hK
       refine wn rfl ?_
       have e35 : a.eval (.tmp 35) = .bool false := eH he hR 8 (by kernel_rfl) rfl
       have e42 : a.eval (.tmp 42) = undef := eH he hR 15 (by kernel_rfl) rfl
       refine wV hK rfl ?_
       simp only [execOp, e35, e42]
       try go_simp
      intro vs wx hXx hR
      rw [put_eqs hR rfl]
      simp only [putL, Act.put, List.setIfInBounds_toArray, List.set_cons_zero, List.set_cons_succ]
      clear hR
      replace HO := Hh (HO.out.below (bthen (below_drew _) (grow_below hXx)))
      replace HXM := Hh (range_below (bthen (below_drew _) (grow_below hXx)) HBM.out HXM.out)
      replace HBE := Hh (HBE.out.trans ((bthen (below_drew _) (grow_below hXx)).mono HBE.out.size))
      replace HBM := Hh (Nat.lt_of_lt_of_le HBM.out (bthen (below_drew _) (grow_below hXx)).size)
      clear hXx
      go_wp2_with fail
      go_roundw
      case rel => exact ⟨i + 1, A2, c2, q, by omega, by simp, rfl, by rw [HTK2.out]; simpa using HQL.out, by rw [HTK2.out]; simpa using HO.out, HBE.out⟩
      case measure => simp [intOf]; omega
     obtain rfl : i = m := by omega
     have htk : Z.take i = Z := List.take_of_length_le (by rw [HZL.out]; exact Nat.le_refl _)
     rw [htk] at HQL HO
     clear htk
     have HUP := Hh (show upsR Z p (ln - nn) = upsR Z p t0 ++ Z.filter (fun x => decide (x.1.len = (nn : Int)) && covP x.1 p) by
      rw [HT0.out]
      show upsR Z p t0 ++ Z.filter (fun x => decide (x.1.len = p.len - 1 - (t0 : Int)) && covP x.1 p) = _
      rw [HNN.out])
     go_wp2_with fail
     go_roundw
     case rel => exact ⟨nn, A2, c2, q, by omega, rfl, rfl, by rw [HUP.out]; exact HQL.out, by rw [HUP.out]; exact HO.out, HBE.out⟩
     case measure => simp [intOf]; try omega
   obtain rfl : k = 0 := by omega
   rw [show ((0 : Nat) : Int) - 1 = -1 by rfl]
   have HRF := Hh (show Row wr wr.heap.size 19 A2 q (its LL) by
    rw [← HLL.out, if_pos HQ.out, HZE.out, HLN.out]
    exact HO0.out.row)
   have HWF := Hh (bthen HW4.out HBE0.out)
   go_wp2_with fail
   go_ret
   exact ⟨A2, q, c2, rfl, HRF.out, HWF.out⟩
 have HQ := Hh hq
 obtain ⟨q, hqq⟩ : ∃ q, chkP p = q := ⟨_, rfl⟩
 rw [hqq] at hq
 rw [hqq]
 clear hqq
 go_wp2_with fail
 go_ret
 exact ⟨none, 0, 0, rfl, by rw [← HLL.out, if_neg HQ.out]; exact Row.nil _ _ _ _, HW.out⟩
end Go.Proofs.Ytdmgomknamdcfaa

/- Plain laws: the reference's Above and Below are the program's (layer 10). No condition. -/
namespace Go.Proofs.Ytdmgomknamdcfaa
set_option linter.unusedVariables false
set_option linter.unusedSimpArgs false

theorem under_other {s : Bool} {L : List Itm} (h : Lok s L) {p : Px} (hs : p.six ≠ s) : L.filter (underB p) = [] := by
 refine List.filter_eq_nil_iff.2 fun x hx hr => ?_
 unfold underB covP at hr
 have e2 : (p.six == x.1.six) = false := by rw [beq_eq_false_iff_ne, h.six x hx]; exact hs
 rw [e2] at hr
 simp at hr
theorem below_same {M : Bool → List Itm} (h : ∀ b, Lok b (M b)) (p : Px) : (if chkP p = 0 then (M false ++ M true).filter (underB p) else []) = belowF (M p.six) p := by
 unfold belowF
 split
 ·rw [List.filter_append]
  cases h6 : p.six
  ·rw [under_other (h true) (by rw [h6]; decide), List.append_nil]
  rw [under_other (h false) (by rw [h6]; decide), List.nil_append]
 rfl
/-- a rising row, cut at a length -/
theorem rise_cut : ∀ (R : List Itm) (l : Int), (R.Pairwise fun x y => x.1.len < y.1.len) → R.filter (fun x => decide (l ≤ x.1.len)) = R.filter (fun x => decide (x.1.len = l)) ++ R.filter (fun x => decide (l + 1 ≤ x.1.len)) ∧ (R.filter (fun x => decide (x.1.len = l))).length ≤ 1
 | [], _, _ => ⟨rfl, Nat.zero_le _⟩
 | x :: R, l, h => by
  obtain ⟨hx, hR⟩ := List.pairwise_cons.1 h
  obtain ⟨e1, e2⟩ := rise_cut R l hR
  rcases Int.lt_trichotomy x.1.len l with hl | hl | hl
  ·rw [List.filter_cons_of_neg (by simp; omega), List.filter_cons_of_neg (by simp; omega), List.filter_cons_of_neg (by simp; omega)]
   exact ⟨e1, e2⟩
  ·have hn : R.filter (fun x => decide (x.1.len = l)) = [] := List.filter_eq_nil_iff.2 fun y hy => by have := hx y hy; simp; omega
   rw [List.filter_cons_of_pos (by simp; omega), List.filter_cons_of_pos (by simp; omega), List.filter_cons_of_neg (by simp; omega), e1, hn]
   exact ⟨rfl, by simp⟩
  have hn : R.filter (fun x => decide (x.1.len = l)) = [] := List.filter_eq_nil_iff.2 fun y hy => by have := hx y hy; simp; omega
  rw [hn] at e1
  rw [List.filter_cons_of_pos (by simp; omega), List.filter_cons_of_neg (by simp; omega), List.filter_cons_of_pos (by simp; omega), e1, hn]
  exact ⟨rfl, by simp⟩
theorem rev_short {α : Type} : ∀ (l : List α), l.length ≤ 1 → l.reverse = l
 | [], _ => rfl
 | [x], _ => rfl
 | x :: y :: l, h => by simp at h
theorem ups_rev (Z : List Itm) (p : Px) (R : List Itm) (hR : R.Pairwise fun x y => x.1.len < y.1.len) (hZ : ∀ l : Int, l < p.len → Z.filter (fun x => decide (x.1.len = l) && covP x.1 p) = R.filter (fun x => decide (x.1.len = l))) (hlt : ∀ x ∈ R, x.1.len < p.len) :
  ∀ t : Nat, upsR Z p t = (R.filter (fun x => decide (p.len - (t : Int) ≤ x.1.len))).reverse
 | 0 => by
  show [] = _
  rw [List.filter_eq_nil_iff.2 (fun x hx => by have := hlt x hx; simp; omega)]
  rfl
 | t + 1 => by
  show upsR Z p t ++ Z.filter (fun x => decide (x.1.len = p.len - 1 - (t : Int)) && covP x.1 p) = _
  obtain ⟨e1, e2⟩ := rise_cut R (p.len - 1 - (t : Int)) hR
  rw [show p.len - ((t + 1 : Nat) : Int) = p.len - 1 - (t : Int) by omega, e1, List.reverse_append, rev_short _ e2, ups_rev Z p R hR hZ hlt t, hZ _ (by omega), show p.len - 1 - (t : Int) + 1 = p.len - (t : Int) by omega]
theorem above_same {M : Bool → List Itm} (h : ∀ b, Lok b (M b)) (p : Px) (hp : p.fit) : (if chkP p = 0 then upsR (M false ++ M true) p p.len.toNat else []) = aboveF (M p.six) p := by
 unfold aboveF
 split
 ·rename_i hq
  have gp : p.good := (chkP_iff p hp.addr).1 hq
  have hlt : ∀ x ∈ (M p.six).filter (overB p), x.1.len < p.len := by
   intro x hx
   obtain ⟨hm, ho⟩ := List.mem_filter.1 hx
   unfold overB at ho
   rw [Bool.and_eq_true, Bool.not_eq_true', decide_eq_false_iff_not] at ho
   have gx := (h p.six).good x hm
   have b1 := (cov_iff gx gp).1 ho.1
   have l1 := gx.bits_length
   have l2 := gp.bits_length
   have l3 := b1.2.length_le
   have g1 := gx.ge
   have g2 := gp.ge
   rcases Nat.lt_or_ge x.1.bits.length p.bits.length with hl | hl
   ·omega
   exact absurd (good_eq gx gp b1.1 (b1.2.eq_of_length_le hl)) ho.2
  rw [ups_rev (M false ++ M true) p _ (over_rise (h p.six) gp) (fun l hl => ?_) hlt]
  ·congr 1
   have g2 := gp.ge
   refine (List.filter_eq_self.2 fun x hx => ?_)
   have := ((h p.six).good x (List.mem_filter.1 hx).1).ge
   simp
   omega
  have hoth : ∀ s, p.six ≠ s → (M s).filter (fun x => decide (x.1.len = l) && covP x.1 p) = [] := by
   intro s hs
   refine List.filter_eq_nil_iff.2 fun x hx hr => ?_
   unfold covP at hr
   have e1 : (x.1.six == p.six) = false := by rw [beq_eq_false_iff_ne, (h s).six x hx]; exact fun e => hs e.symm
   rw [e1] at hr
   simp at hr
  have hme : (M p.six).filter (fun x => decide (x.1.len = l) && covP x.1 p) = ((M p.six).filter (overB p)).filter (fun x => decide (x.1.len = l)) := by
   rw [List.filter_filter]
   refine List.filter_congr fun x hx => ?_
   unfold overB
   by_cases e : x.1.len = l
   ·have hne : x.1 ≠ p := fun e9 => by rw [e9] at e; omega
    rw [decide_eq_false hne]
    simp
   rw [decide_eq_false e]
   simp
  rw [← hme, List.filter_append]
  cases h6 : p.six
  ·rw [hoth true (by rw [h6]; decide), List.append_nil]
  rw [hoth false (by rw [h6]; decide), List.nil_append]
 rfl
end Go.Proofs.Ytdmgomknamdcfaa

/- How a law's arguments are opened: slices of bytes and of numbers, structs and arrays by value. No condition. -/
namespace Go.Proofs.Ytdmgomknamdcfaa
open Go.ChangeShapes Go.WideShapes Go.ChangeAt Go.RowKit
set_option linter.unusedVariables false
set_option maxRecDepth 20000

section
variable {H : Type} {enc : TypeId × Value → H} {P : Program} {w : World} {base : Nat} {spare : Nat → Bool} {held : Bool}

theorem cell_int {t : TypeId} {k : IntKind} {n : Nat} {cs : List Value} (ht : P.underlying t = some (.int k)) (h : ∃ y, DataW.trod enc P w base spare held n t cs = some y) : ∃ x, cs = [.int k x] ∧ (Lit.int k x).wf = true := by
 obtain ⟨y, h⟩ := h
 obtain ⟨x, h1, _, h2⟩ := DataW.trod_int ht h
 exact ⟨x, h1, h2⟩
theorem cell_bool {t : TypeId} {n : Nat} {cs : List Value} (ht : P.underlying t = some .bool) (h : ∃ y, DataW.trod enc P w base spare held n t cs = some y) : ∃ x, cs = [.bool x] := by
 obtain ⟨y, h⟩ := h
 obtain ⟨x, h1, _⟩ := DataW.trod_bool ht h
 exact ⟨x, h1⟩
end
theorem len_cons {l : List Value} {n : Nat} (h : l.length = n + 1) : ∃ a r, l = a :: r ∧ r.length = n := by
 cases l with
 | nil => simp at h
 | cons a r => exact ⟨a, r, rfl, by simpa using h⟩
theorem bd_u8 {x : Int} (h : (Lit.int .u8 x).wf = true) : 0 ≤ x ∧ x ≤ 255 := by simpa [Lit.wf, IntKind.min, IntKind.max, IntKind.signed, IntKind.bits] using h
theorem bd_i64 {x : Int} (h : (Lit.int .i64 x).wf = true) : -9223372036854775808 ≤ x ∧ x ≤ 9223372036854775807 := by simpa [Lit.wf, IntKind.min, IntKind.max, IntKind.signed, IntKind.bits] using h
end Go.Proofs.Ytdmgomknamdcfaa

/- How an array of bytes among a law's arguments is opened. No condition. -/
namespace Go.Proofs.Ytdmgomknamdcfaa
open Go.ChangeShapes Go.WideShapes Go.ChangeAt Go.RowKit
set_option linter.unusedVariables false
set_option maxRecDepth 20000

section
variable {H : Type} {enc : TypeId × Value → H} {P : Program} {w : World} {base : Nat} {spare : Nat → Bool} {held : Bool}
def byteOf : Value → UInt8 | .int _ x => UInt8.ofNat x.toNat | _ => 0
theorem cell_bytes {t e : TypeId} {k n : Nat} {cs : List Value} (ht : P.underlying t = some (.array k e)) (he : P.underlying e = some (.int .u8)) (hc : P.cellsOf e = 1) (hl : P.cellsOf t = k)
  (h : ∃ y, DataW.trod enc P w base spare held n t cs = some y) : ∃ l : List UInt8, cs = bv l ∧ l.length = k := by
 obtain ⟨y, h⟩ := h
 obtain ⟨xs, m, _, _, hcs, hx, hi⟩ := DataW.trod_array ht h
 rw [hl] at hcs
 refine ⟨cs.map byteOf, ?_, by simp [hcs]⟩
 apply List.ext_getElem (by simp [bv])
 intro i h1 h2
 have hik : i < k := by omega
 have hp := hi i hik
 rw [hc, Nat.mul_one, List.drop_eq_getElem_cons h1, List.take_succ_cons, List.take_zero, List.getElem?_eq_getElem (by omega)] at hp
 obtain ⟨x, hv, hw⟩ := cell_int he ⟨_, hp⟩
 have hv' : cs[i] = .int .u8 x := by simpa using hv
 have hb := bd_u8 hw
 simp only [bv, List.getElem_map, hv', byteOf]
 rw [u8_of x hb.1 hb.2]
end
end Go.Proofs.Ytdmgomknamdcfaa

/- How prefixes, addresses and scripts of prefixes among a law's arguments are opened. No condition. -/
namespace Go.Proofs.Ytdmgomknamdcfaa
open Go.ChangeShapes Go.WideShapes Go.ChangeAt Go.RowKit Go.Deep
set_option linter.unusedVariables false
set_option maxRecDepth 20000

theorem cell_px {H : Type} {enc : TypeId × Value → H} {w : World} {base : Nat} {spare : Nat → Bool} {held : Bool} {n : Nat} {cs : List Value} (h : ∃ y, DataW.trod enc Try.prog w base spare held n 30 cs = some y) (hl : cs.length = 18) : ∃ p : Px, cs = p.cells ∧ p.fit := by
 obtain ⟨⟨d, ps⟩, h⟩ := h
 obtain ⟨ys, n', hn', hy, hlen, hyl, hf⟩ := DataW.trod_struct Try.underlying30 h
 have k8 : Try.prog.cellsOf 5 = 1 := by kernel_rfl
 have k3 : Try.prog.cellsOf 3 = 1 := by kernel_rfl
 have kb : Try.prog.cellsOf 4 = 1 := by kernel_rfl
 have k16 : Try.prog.cellsOf 23 = 16 := by kernel_rfl
 have hys : ∀ j, j < 3 → ∃ y, ys[j]? = some y := fun j hj => ⟨_, List.getElem?_eq_getElem (by have h9 : ys.length = 3 := hyl; omega)⟩
 have part : ∀ (j : Nat) f, (#[{ name := "Six", type := 4, offset := 0, embedded := false, tag := "", pkgPath := "", byteOffset := 0 }] : Array Field)[j]? = some f → True := fun _ _ _ => trivial
 obtain ⟨y0, hy0⟩ := hys 0 (by omega)
 obtain ⟨y1, hy1⟩ := hys 1 (by omega)
 obtain ⟨y2, hy2⟩ := hys 2 (by omega)
 have t0 := (hf 0 _ rfl).trans hy0
 have t1 := (hf 1 _ rfl).trans hy1
 have t2 := (hf 2 _ rfl).trans hy2
 obtain ⟨c0, r0, rfl, g1⟩ := len_cons hl
 obtain ⟨x0, e0⟩ := cell_bool Try.underlying4 ⟨_, t0⟩
 obtain ⟨s, e1, l1⟩ := cell_bytes Try.underlying23 Try.underlying5 k8 k16 ⟨_, t1⟩
 obtain ⟨x2, e2, q2⟩ := cell_int Try.underlying3 ⟨_, t2⟩
 obtain rfl : c0 = .bool x0 := by simpa [kb] using e0
 have e1' : r0.take 16 = bv s := by simpa [k16] using e1
 have e2' : (r0.drop 16).take 1 = [.int .i64 x2] := by simpa [k3] using e2
 have hr : r0 = bv s ++ [.int .i64 x2] := by
  have h5 : r0.drop 16 = [.int .i64 x2] := by rw [← e2']; exact (List.take_of_length_le (by simp; omega)).symm
  rw [← e1', ← h5, List.take_append_drop]
 subst hr
 exact ⟨⟨x0, s, x2⟩, rfl, ⟨l1, bd_i64 q2⟩⟩
theorem open_px {H : Type} {enc : TypeId × Value → H} {w : World} {base : Nat} {spare : Nat → Bool} {held : Bool} {r : Reach} {b0 : Nat} {v : Value} {d : DataW H} {ps : List MemPlace}
  (hv : Value.okWide Try.prog w r b0 30 v) (h : DataW.Trod enc Try.prog w base spare held 30 v d ps) : ∃ p : Px, v = .agg p.cells.toArray ∧ p.fit := by
 simp only [Value.okWide, Try.underlying30] at hv
 obtain ⟨cs, rfl, hz, _⟩ := hv
 obtain ⟨fuel, hf⟩ := h
 have hl : cs.size = 18 := by simpa [show Try.prog.cellsOf 30 = 18 by kernel_rfl] using hz
 obtain ⟨p, h1, h2⟩ := cell_px (cs := cs.toList) ⟨_, hf⟩ (by simpa using hl)
 refine ⟨p, ?_, h2⟩
 rw [← h1]
end Go.Proofs.Ytdmgomknamdcfaa

/- How a script of prefixes among a law's arguments is opened. No condition. -/
namespace Go.Proofs.Ytdmgomknamdcfaa
open Go.ChangeShapes Go.WideShapes Go.ChangeAt Go.RowKit Go.Deep
set_option linter.unusedVariables false
set_option maxRecDepth 20000

/-- a step of a script -/
structure St9 where
 kind : Int
 p : Px
 v : Int
def St9.cells (s : St9) : List Value := .int .i64 s.kind :: (s.p.cells ++ [.int .i64 s.v])
structure St9.fit (s : St9) : Prop where
 p : s.p.fit
 kind : -9223372036854775808 ≤ s.kind ∧ s.kind ≤ 9223372036854775807
 v : -9223372036854775808 ≤ s.v ∧ s.v ≤ 9223372036854775807
def sts (L : List St9) : List Value := L.flatMap St9.cells
theorem St9.cells_length (s : St9) (h : s.p.addr.length = 16) : s.cells.length = 20 := by simp [St9.cells, Px.cells_length s.p h]
theorem sts_length (L : List St9) (h : ∀ x ∈ L, x.fit) : (sts L).length = L.length * 20 := by
 induction L with
 | nil => rfl
 | cons x L ih =>
  show (x.cells ++ sts L).length = _
  rw [List.length_append, x.cells_length (h x (by simp)).p.addr, ih (fun y hy => h y (by simp [hy])), List.length_cons]
  omega
theorem sts_cell (L : List St9) (h : ∀ x ∈ L, x.fit) (i : Nat) (x : St9) (hi : L[i]? = some x) (j : Nat) (hj : j < 20) : (sts L)[i * 20 + j]? = x.cells[j]? := by
 induction L generalizing i with
 | nil => simp at hi
 | cons y L ih =>
  have hy := y.cells_length (h y (by simp)).p.addr
  show (y.cells ++ sts L)[i * 20 + j]? = _
  cases i with
  | zero =>
   simp at hi
   subst hi
   rw [Nat.zero_mul, Nat.zero_add, List.getElem?_append_left (by omega)]
  | succ i =>
   rw [List.getElem?_append_right (by omega), hy, show (i + 1) * 20 + j - 20 = i * 20 + j by omega]
   exact ih (fun z hz => h z (by simp [hz])) i (by simpa using hi)
theorem sts_row {w : World} {B n : Nat} {A : Option Addr} {L : List St9} (h : Row w B 20 A n (sts L)) (hL : ∀ x ∈ L, x.fit) : L.length = n := by
 have h1 := h.1
 rw [sts_length L hL] at h1
 omega
/-- where a step lies -/
theorem sts_at {w : World} {B n : Nat} {A : Option Addr} {L : List St9} (h : Row w B 20 A n (sts L)) (hL : ∀ x ∈ L, x.fit) (i : Nat) (x : St9) (hi : L[i]? = some x) :
  ∃ b o, A = some ⟨b, o, none⟩ ∧ b < B ∧ w.rangeAt b (o + i * 20) x.cells := by
 have hn := sts_row h hL
 have hx := hL x (List.mem_of_getElem? hi)
 have hlt := (List.getElem?_eq_some_iff.1 hi).1
 obtain ⟨b, o, rfl, hb, hc⟩ := h.2 (by omega)
 refine ⟨b, o, rfl, hb, fun j v hv => ?_⟩
 have hj : j < 20 := by
  have := (List.getElem?_eq_some_iff.1 hv).1
  rw [x.cells_length hx.p.addr] at this
  exact this
 rw [Nat.add_assoc]
 refine hc _ v ?_
 rw [sts_cell L hL i x hi j hj]
 exact hv
theorem st_v {x : St9} (h : x.p.addr.length = 16) : x.cells[19]? = some (.int .i64 x.v) := by
 unfold St9.cells
 rw [List.getElem?_cons_succ, List.getElem?_append_right (by rw [x.p.cells_length h]; omega), x.p.cells_length h]
 rfl
theorem sts_back (L : List St9) (h : ∀ x ∈ L, x.fit) (j : Nat) (u : Value) (hu : (sts L)[j]? = some u) : ∃ i r x, j = i * 20 + r ∧ r < 20 ∧ L[i]? = some x ∧ x.cells[r]? = some u := by
 have hj : j < L.length * 20 := by
  have := (List.getElem?_eq_some_iff.1 hu).1
  rw [sts_length L h] at this
  exact this
 obtain ⟨x, hx⟩ := get_ex L (k := j / 20) (by omega)
 refine ⟨j / 20, j % 20, x, by omega, by omega, hx, ?_⟩
 rw [← sts_cell L h (j / 20) x hx (j % 20) (by omega), ← hu]
 congr 1
 omega
theorem cell_st {H : Type} {enc : TypeId × Value → H} {w : World} {base : Nat} {spare : Nat → Bool} {held : Bool} {n : Nat} {cs : List Value} (h : ∃ y, DataW.trod enc Try.prog w base spare held n 32 cs = some y) (hl : cs.length = 20) : ∃ s : St9, cs = s.cells ∧ s.fit := by
 obtain ⟨⟨d, ps⟩, h⟩ := h
 obtain ⟨ys, n', hn', hy, hlen, hyl, hf⟩ := DataW.trod_struct Try.underlying32 h
 have k3 : Try.prog.cellsOf 3 = 1 := by kernel_rfl
 have kp : Try.prog.cellsOf 30 = 18 := by kernel_rfl
 have hys : ∀ j, j < 3 → ∃ y, ys[j]? = some y := fun j hj => ⟨_, List.getElem?_eq_getElem (by have h9 : ys.length = 3 := hyl; omega)⟩
 obtain ⟨y0, hy0⟩ := hys 0 (by omega)
 obtain ⟨y1, hy1⟩ := hys 1 (by omega)
 obtain ⟨y2, hy2⟩ := hys 2 (by omega)
 have t0 := (hf 0 _ rfl).trans hy0
 have t1 := (hf 1 _ rfl).trans hy1
 have t2 := (hf 2 _ rfl).trans hy2
 obtain ⟨c0, r0, rfl, g1⟩ := len_cons hl
 obtain ⟨x0, e0, q0⟩ := cell_int Try.underlying3 ⟨_, t0⟩
 obtain ⟨x2, e2, q2⟩ := cell_int Try.underlying3 ⟨_, t2⟩
 obtain rfl : c0 = .int .i64 x0 := by simpa [k3] using e0
 have t1' : DataW.trod enc Try.prog w base spare held n' 30 (r0.take 18) = some y1 := by simpa [kp] using t1
 obtain ⟨p, e1, hp⟩ := cell_px ⟨_, t1'⟩ (by simp; omega)
 have e2' : (r0.drop 18).take 1 = [.int .i64 x2] := by simpa [k3] using e2
 have hr : r0 = p.cells ++ [.int .i64 x2] := by
  have h5 : r0.drop 18 = [.int .i64 x2] := by rw [← e2']; exact (List.take_of_length_le (by simp; omega)).symm
  rw [← e1, ← h5, List.take_append_drop]
 subst hr
 exact ⟨⟨x0, p, x2⟩, rfl, ⟨hp, bd_i64 q0, bd_i64 q2⟩⟩
/-- a script as a slice -/
structure Sl9 where
 A : Option Addr
 n : Nat
 c : Nat
 L : List St9
structure Sl9.ok (w : World) (z : Sl9) : Prop where
 row : Row w w.heap.size 20 z.A z.n (sts z.L)
 le : z.n ≤ z.c
 cap : z.c ≤ maxLen
 fit : ∀ x ∈ z.L, x.fit
theorem open_steps {H : Type} {enc : TypeId × Value → H} {w : World} {base : Nat} {spare : Nat → Bool} {held : Bool} {r : Reach} {b0 : Nat} {v : Value} {d : DataW H} {ps : List MemPlace}
  (hv : Value.okWide Try.prog w r b0 22 v) (h : DataW.Trod enc Try.prog w base spare held 22 v d ps) :
  ∃ z : Sl9, v = .slice z.A z.n z.c ∧ z.ok w := by
 obtain ⟨a0, len0, cap0, rfl⟩ := okWide_slice Try.underlying22 hv
 obtain ⟨fuel, hf⟩ := h
 rcases open_slice Try.underlying22 hf with h0 | ⟨a, len, cap, m, n, D, Pl, hcs, hb, hl, hm, hmm, hx, hi⟩
 ·have hcs := h0.1
  simp [Value.cells] at hcs
  obtain ⟨rfl, rfl, rfl⟩ := hcs
  exact ⟨⟨none, 0, 0, []⟩, rfl, ⟨Row.nil _ _ _ _, Nat.le_refl _, Nat.zero_le _, by simp⟩⟩
 simp [Value.cells] at hcs
 obtain ⟨rfl, rfl, rfl⟩ := hcs
 have one : ∀ i, i < len0 → ∃ x : St9, x.fit ∧ ∀ j u, x.cells[j]? = some u → w.cell? (a.add (i * 20 + j)) = some u := by
  intro i hil
  have him : i < m := by rw [hmm]; split <;> omega
  obtain ⟨cs', hc, ht'⟩ := hi i him
  rw [show Try.prog.cellsOf 32 = 20 by kernel_rfl] at hc
  obtain ⟨_, hcl, hat⟩ := World.cells?_some hc
  obtain ⟨x, hxc, hxf⟩ := cell_st ⟨_, ht'⟩ (by simpa using hcl)
  refine ⟨x, hxf, fun j u hu => ?_⟩
  have hj : j < 20 := by
   have := (List.getElem?_eq_some_iff.1 hu).1
   rw [x.cells_length hxf.p.addr] at this
   exact this
  rw [← Go.Deep.add_add, hat j hj]
  rw [hxc]; exact hu
 have all : ∀ k, k ≤ len0 → ∃ l : List St9, l.length = k ∧ (∀ x ∈ l, x.fit) ∧ ∀ i x, l[i]? = some x → ∀ j u, x.cells[j]? = some u → w.cell? (a.add (i * 20 + j)) = some u := by
  intro k
  induction k with
  | zero => exact fun _ => ⟨[], rfl, by simp, by simp⟩
  | succ k ih =>
   intro hk
   obtain ⟨l, h1, h2, h3⟩ := ih (by omega)
   obtain ⟨x, hx, hc⟩ := one k (by omega)
   refine ⟨l ++ [x], by simp [h1], ?_, fun i y hy => ?_⟩
   ·intro y hy
    rcases List.mem_append.1 hy with h | h
    ·exact h2 y h
    obtain rfl := List.mem_singleton.1 h
    exact hx
   rcases Nat.lt_or_ge i l.length with hlt | hge
   ·rw [List.getElem?_append_left hlt] at hy
    exact h3 i y hy
   rw [List.getElem?_append_right hge] at hy
   have hi0 : i - l.length = 0 := by
    have := (List.getElem?_eq_some_iff.1 hy).1
    simp at this
    omega
   rw [hi0] at hy
   obtain rfl : x = y := by simpa using hy
   have : i = k := by omega
   subst this
   exact hc
 obtain ⟨L, h1, h2, h3⟩ := all len0 (Nat.le_refl _)
 refine ⟨⟨some a, len0, cap0, L⟩, rfl, ⟨⟨by rw [sts_length L h2, h1], fun hn => ?_⟩, hl, hm, h2⟩⟩
 obtain ⟨b, off, spot⟩ := a
 obtain ⟨x, hx⟩ := get_ex L (k := 0) (by have h9 : 0 < len0 := hn; omega)
 have hc0 := h3 0 x hx 0 _ rfl
 have hspot : spot = none := by simpa [Addr.add] using World.cell?_spot hc0
 subst hspot
 refine ⟨b, off, rfl, World.block_lt_of_cell? w _ (by rw [← hc0]), fun j u hu => ?_⟩
 obtain ⟨i, r, y, rfl, hr, hy, hu'⟩ := sts_back L h2 j u hu
 rw [show (⟨b, off + (i * 20 + r), none⟩ : Addr) = (⟨b, off, none⟩ : Addr).add (i * 20 + r) by unfold Addr.add; split <;> simp_all]
 exact h3 i y hy r u hu'
end Go.Proofs.Ytdmgomknamdcfaa


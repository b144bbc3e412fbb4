/- Texts of this claim put together, in build order: each one's own remark stands ahead of it. -/
import Derived.Test.YtdmgomknamdcfaaG12
import Derived.Test.YtdmgomknamdcfaaG02
import Derived.Test.YtdmgomknamdcfaaG23
/- What the reference's find (layer 9) computes. No condition but sizes. -/
namespace Go.Proofs.Ytdmgomknamdcfaa
open Go.RowKit
set_option linter.unusedVariables false
set_option maxRecDepth 20000
set_option linter.unusedSimpArgs false

set_option maxHeartbeats 4000000 in
theorem rfind_any (L : List Itm) (hL : ∀ x ∈ L, x.1.fit) (A : Option Addr) (n c : Nat) (hn : n < 9223372036854775807) (p : Px) (hf : p.fit) (w : World) (hr : Row w w.heap.size 19 A n (its L)) :
  Calls Try.prog 69 #[.slice A n c, .agg p.cells.toArray] w fun e w' => e = .returned (.tuple #[.int .i64 ((cntC L p : Nat) : Int), .bool (hasC L p)]) ∧ Below w.heap.size w w' := by
 have HF := Hh hf
 have HL := Hh hL
 have HR := Hh hr
 have HLN := Hh (its_row hr hL)
 clear hf hL hr
 go_enter Try.func69, Try.ntmps69
 go_upto_region 1 with (refine wpList_box_blk (by rfl) 30 (.tmp 1) rfl p.cells rfl ?_; intro w1 hb1 hB1 hs1; clear hs1)
 obtain ⟨g1, hg1⟩ : ∃ g, w.heap.size = g := ⟨_, rfl⟩
 have HB0 := Hh hB1
 have hb1' := hb1
 rw [hg1] at hb1'
 try rw [hg1]
 have HP := Hh hb1'
 clear hb1 hb1' hB1
 go_wp2_with fail
 go_loopw [6] (fun i wr => ∃ k : Nat, k ≤ L.length ∧ i = .int .i64 (k : Nat) ∧ (∀ j x, j < k → L[j]? = some x → cmpP x.1 p < 0) ∧ Below w1.heap.size w1 wr) (fun i _ => L.length - (intOf i).toNat)
 case atStart => exact ⟨0, by omega, rfl, fun j x h => by omega, Below.refl _ _⟩
 case round =>
  obtain ⟨k, hk, rfl, hj, hbe⟩ := hrel
  have HJ := Hh hj
  have hBE := Hh hbe
  replace HP := Hh (HP.out.on hbe)
  have HW := Hh (bthen HB0.out hbe)
  clear hj hbe
  by_cases hlt : k < n
  ·obtain ⟨x, hx⟩ := get_ex L (k := k) (by rw [HLN.out]; exact hlt)
   obtain ⟨bA, oA, rfl, hbA, hcA, _⟩ := its_at HR.out HL.out k x hx
   have HXF := Hh (HL.out x (List.mem_of_getElem? hx))
   have HXR := Hh (range_below HW.out hbA hcA)
   have HBA := Hh (show bA < wr.heap.size from Nat.lt_of_lt_of_le hbA HW.out.size)
   have HGX := Hh hx
   have hlt2 : (k : Int) < (n : Int) := by omega
   clear hcA hbA hx
   by_cases h1 : cmpP x.1 p < 0
   ·have HCM := Hh h1
    clear h1
    go_wp2_with fail
    refine wp_region_rel (fun A B => A.grownBy B none) (fun A => grown_refl A _) (fun A B C h k => grown_trans h k) (relAt (eqs [.int .i64 (k : Int), .slice (some ⟨bA, oA, none⟩) n c, .int .i64 (n : Int), .bool true, .bool true, .slice (some ⟨bA, oA, none⟩) n c, .int .i64 (k : Int), .pointer (some ⟨bA, oA + k * 19, none⟩), .pointer (some ⟨bA, oA + k * 19, none⟩), .agg x.1.cells.toArray, .agg p.cells.toArray, .int .i64 (cmpP x.1 p), .bool true, .bool true])) (MonoL.at_ (eqs_mono _)) (by kernel_rfl) (by kernel_rfl) ⟨?_, ?_, ?_, ?_, ?_, ?_, ?_, ?_, ?_, ?_, ?_, ?_, ?_, ?_, trivial⟩ ?_
    ·intro a vs W hX hR he hf K hK
     refine wn rfl ?_
     have e6 : a.eval (.tmp 6) = .int .i64 (k : Int) := hf 6 (by kernel_rfl)
     refine wV hK rfl ?_
     simp only [execOp, e6]
     try go_simp
    ·intro a vs W hX hR he hf K hK
     refine wn rfl ?_
     have e0 : a.eval (.tmp 0) = .slice (some ⟨bA, oA, none⟩) n c := hf 0 (by kernel_rfl)
     refine wV hK rfl ?_
     simp only [execOp, e0]
     try go_simp
    ·intro a vs W hX hR he hf K hK
     refine wn rfl ?_
     have e8 : a.eval (.tmp 8) = .slice (some ⟨bA, oA, none⟩) n c := eH he hR 1 (by kernel_rfl) rfl
     have f8 := e8
     simp only [Act.eval, Array.getD_eq_getD_getElem?] at f8
     refine wV hK rfl ?_
     simp only [execOp, e8]
     try go_simp
    ·intro a vs W hX hR he hf K hK
     refine wn rfl ?_
     have e7 : a.eval (.tmp 7) = .int .i64 (k : Int) := eH he hR 0 (by kernel_rfl) rfl
     have e9 : a.eval (.tmp 9) = .int .i64 (n : Int) := eH he hR 2 (by kernel_rfl) rfl
     refine wV hK rfl ?_
     simp only [execOp, e7, e9]
     try go_simp
    ·intro a vs W hX hR he hf K hK
     refine wn rfl ?_
     have e10 : a.eval (.tmp 10) = .bool true := eH he hR 3 (by kernel_rfl) rfl
     refine wV hK rfl ?_
     simp only [execOp, e10]
     try go_simp
    ·intro a vs W hX hR he hf K hK
     have e11 : a.eval (.tmp 11) = .bool true := eH he hR 4 (by kernel_rfl) rfl
     refine gT e11 rfl rfl rfl ?_
     have e0 : a.eval (.tmp 0) = .slice (some ⟨bA, oA, none⟩) n c := hf 0 (by kernel_rfl)
     refine wV hK rfl ?_
     simp only [execOp, e0]
     try go_simp
    ·intro a vs W hX hR he hf K hK
     have e11 : a.eval (.tmp 11) = .bool true := eH he hR 4 (by kernel_rfl) rfl
     refine gT e11 rfl rfl rfl ?_
     have e6 : a.eval (.tmp 6) = .int .i64 (k : Int) := hf 6 (by kernel_rfl)
     refine wV hK rfl ?_
     simp only [execOp, e6]
     try go_simp
    ·intro a vs W hX hR he hf K hK
     have e11 : a.eval (.tmp 11) = .bool true := eH he hR 4 (by kernel_rfl) rfl
     refine gT e11 rfl rfl rfl ?_
     have e12 : a.eval (.tmp 12) = .slice (some ⟨bA, oA, none⟩) n c := eH he hR 5 (by kernel_rfl) rfl
     have e13 : a.eval (.tmp 13) = .int .i64 (k : Int) := eH he hR 6 (by kernel_rfl) rfl
     refine wV hK rfl ?_
     simp only [execOp, e12, e13]
     go_simp
    ·intro a vs W hX hR he hf K hK
     have e11 : a.eval (.tmp 11) = .bool true := eH he hR 4 (by kernel_rfl) rfl
     refine gT e11 rfl rfl rfl ?_
     have e14 : a.eval (.tmp 14) = .pointer (some ⟨bA, oA + k * 19, none⟩) := eH he hR 7 (by kernel_rfl) rfl
     refine wV hK rfl ?_
     simp only [execOp, e14]
     try go_simp
    ·intro a vs W hX hR he hf K hK
     have e11 : a.eval (.tmp 11) = .bool true := eH he hR 4 (by kernel_rfl) rfl
     refine gT e11 rfl rfl rfl ?_
     have e15 : a.eval (.tmp 15) = .pointer (some ⟨bA, oA + k * 19, none⟩) := eH he hR 8 (by kernel_rfl) rfl
     have hbW := bthen (below_drew _) (grow_below hX)
     exact wp_value (exec_load_mid 30 _ rfl bA (oA + k * 19) e15 x.1.cells _ (range_below hbW HBA.out HXR.out) Try.underlying30 rfl (sizePx _ HXF.out.addr)) (gK hK rfl)
    ·intro a vs W hX hR he hf K hK
     have e11 : a.eval (.tmp 11) = .bool true := eH he hR 4 (by kernel_rfl) rfl
     refine gT e11 rfl rfl rfl ?_
     have e3 : a.eval (.tmp 3) = .pointer (some ⟨g1, 0, none⟩) := hf 3 (by kernel_rfl)
     have hbW := bthen (below_drew _) (grow_below hX)
     exact wp_value (exec_load 30 _ rfl g1 e3 30 p.cells _ (HP.out.on hbW) Try.underlying30 rfl (sizePx _ HF.out.addr)) (gK hK rfl)
    ·intro a vs W hX hR he hf K hK
     have e11 : a.eval (.tmp 11) = .bool true := eH he hR 4 (by kernel_rfl) rfl
     refine gT e11 rfl rfl rfl ?_
     have e16 : a.eval (.tmp 16) = .agg x.1.cells.toArray := eH he hR 9 (by kernel_rfl) rfl
     have e17 : a.eval (.tmp 17) = .agg p.cells.toArray := eH he hR 10 (by kernel_rfl) rfl
     refine wp_enter (f := 81) (args := #[.agg x.1.cells.toArray, .agg p.cells.toArray]) (by simp only [execOp, e16, e17]; go_simp; exact ⟨by simpa [Act.eval] using e16, by simpa [Act.eval] using e17⟩) ((rcompare_any x.1 HXF.out p HF.out W).mono ?_)
     rintro e w' ⟨rfl, hb⟩
     exact ⟨_, rfl, hK _ _ rfl (below_grow hb _)⟩
    ·intro a vs W hX hR he hf K hK
     have e11 : a.eval (.tmp 11) = .bool true := eH he hR 4 (by kernel_rfl) rfl
     refine gT e11 rfl rfl rfl ?_
     have e18 : a.eval (.tmp 18) = .int .i64 (cmpP x.1 p) := eH he hR 11 (by kernel_rfl) rfl
     refine wV hK rfl ?_
     simp only [execOp, e18]
     have h9 := HCM.out
     go_simp
    ·intro a vs W hX hR he hf K hK
     refine wn rfl ?_
     have e11 : a.eval (.tmp 11) = .bool true := eH he hR 4 (by kernel_rfl) rfl
     have e19 : a.eval (.tmp 19) = .bool true := eH he hR 12 (by kernel_rfl) rfl
     refine wV hK rfl ?_
     simp only [execOp, e11, e19]
     try go_simp
    intro vs wx hXx hR
    rw [put_eqs hR rfl]
    simp only [putL, Act.put, List.setIfInBounds_toArray, List.set_cons_zero, List.set_cons_succ]
    clear hR
    replace hBE := Hh (hBE.out.trans ((bthen (below_drew _) (grow_below hXx)).mono hBE.out.size))
    replace HP := Hh (HP.out.on (bthen (below_drew _) (grow_below hXx)))
    replace HW := Hh (bthen HW.out (bthen (below_drew _) (grow_below hXx)))
    replace HXR := Hh (range_below (bthen (below_drew _) (grow_below hXx)) HBA.out HXR.out)
    replace HBA := Hh (Nat.lt_of_lt_of_le HBA.out (bthen (below_drew _) (grow_below hXx)).size)
    clear hXx
    go_wp2_with fail
    go_roundw
    case rel => exact ⟨k + 1, by rw [HLN.out]; omega, by simp, fun j y h hy => by
     rcases Nat.lt_or_ge j k with h2 | h2
     ·exact HJ.out j y h2 hy
     obtain rfl : j = k := by omega
     rw [HGX.out] at hy; cases hy; exact HCM.out, hBE.out⟩
    case measure => have := HLN.out; simp [intOf]; omega
   have HCM := Hh h1
   have HCN := Hh (show cntC L p = k from cntC_go L p k HJ.out hk (fun y hy => by rw [HGX.out] at hy; cases hy; exact HCM.out))
   clear h1
   by_cases h2 : x.1 = p
   ·have HEQ := Hh (decide_eq_true h2)
    have HHS := Hh (show hasC L p = true by unfold hasC; rw [HCN.out, HGX.out]; exact HEQ.out)
    clear h2
    go_wp2_with fail
    refine wp_region_rel (fun A B => A.grownBy B none) (fun A => grown_refl A _) (fun A B C h k => grown_trans h k) (relAt (eqs [.int .i64 (k : Int), .slice (some ⟨bA, oA, none⟩) n c, .int .i64 (n : Int), .bool true, .bool true, .slice (some ⟨bA, oA, none⟩) n c, .int .i64 (k : Int), .pointer (some ⟨bA, oA + k * 19, none⟩), .pointer (some ⟨bA, oA + k * 19, none⟩), .agg x.1.cells.toArray, .agg p.cells.toArray, .int .i64 (cmpP x.1 p), .bool false, .bool false])) (MonoL.at_ (eqs_mono _)) (by kernel_rfl) (by kernel_rfl) ⟨?_, ?_, ?_, ?_, ?_, ?_, ?_, ?_, ?_, ?_, ?_, ?_, ?_, ?_, trivial⟩ ?_
    ·intro a vs W hX hR he hf K hK
     refine wn rfl ?_
     have e6 : a.eval (.tmp 6) = .int .i64 (k : Int) := hf 6 (by kernel_rfl)
     refine wV hK rfl ?_
     simp only [execOp, e6]
     try go_simp
    ·intro a vs W hX hR he hf K hK
     refine wn rfl ?_
     have e0 : a.eval (.tmp 0) = .slice (some ⟨bA, oA, none⟩) n c := hf 0 (by kernel_rfl)
     refine wV hK rfl ?_
     simp only [execOp, e0]
     try go_simp
    ·intro a vs W hX hR he hf K hK
     refine wn rfl ?_
     have e8 : a.eval (.tmp 8) = .slice (some ⟨bA, oA, none⟩) n c := eH he hR 1 (by kernel_rfl) rfl
     have f8 := e8
     simp only [Act.eval, Array.getD_eq_getD_getElem?] at f8
     refine wV hK rfl ?_
     simp only [execOp, e8]
     try go_simp
    ·intro a vs W hX hR he hf K hK
     refine wn rfl ?_
     have e7 : a.eval (.tmp 7) = .int .i64 (k : Int) := eH he hR 0 (by kernel_rfl) rfl
     have e9 : a.eval (.tmp 9) = .int .i64 (n : Int) := eH he hR 2 (by kernel_rfl) rfl
     refine wV hK rfl ?_
     simp only [execOp, e7, e9]
     try go_simp
    ·intro a vs W hX hR he hf K hK
     refine wn rfl ?_
     have e10 : a.eval (.tmp 10) = .bool true := eH he hR 3 (by kernel_rfl) rfl
     refine wV hK rfl ?_
     simp only [execOp, e10]
     try go_simp
    ·intro a vs W hX hR he hf K hK
     have e11 : a.eval (.tmp 11) = .bool true := eH he hR 4 (by kernel_rfl) rfl
     refine gT e11 rfl rfl rfl ?_
     have e0 : a.eval (.tmp 0) = .slice (some ⟨bA, oA, none⟩) n c := hf 0 (by kernel_rfl)
     refine wV hK rfl ?_
     simp only [execOp, e0]
     try go_simp
    ·intro a vs W hX hR he hf K hK
     have e11 : a.eval (.tmp 11) = .bool true := eH he hR 4 (by kernel_rfl) rfl
     refine gT e11 rfl rfl rfl ?_
     have e6 : a.eval (.tmp 6) = .int .i64 (k : Int) := hf 6 (by kernel_rfl)
     refine wV hK rfl ?_
     simp only [execOp, e6]
     try go_simp
    ·intro a vs W hX hR he hf K hK
     have e11 : a.eval (.tmp 11) = .bool true := eH he hR 4 (by kernel_rfl) rfl
     refine gT e11 rfl rfl rfl ?_
     have e12 : a.eval (.tmp 12) = .slice (some ⟨bA, oA, none⟩) n c := eH he hR 5 (by kernel_rfl) rfl
     have e13 : a.eval (.tmp 13) = .int .i64 (k : Int) := eH he hR 6 (by kernel_rfl) rfl
     refine wV hK rfl ?_
     simp only [execOp, e12, e13]
     go_simp
    ·intro a vs W hX hR he hf K hK
     have e11 : a.eval (.tmp 11) = .bool true := eH he hR 4 (by kernel_rfl) rfl
     refine gT e11 rfl rfl rfl ?_
     have e14 : a.eval (.tmp 14) = .pointer (some ⟨bA, oA + k * 19, none⟩) := eH he hR 7 (by kernel_rfl) rfl
     refine wV hK rfl ?_
     simp only [execOp, e14]
     try go_simp
    ·intro a vs W hX hR he hf K hK
     have e11 : a.eval (.tmp 11) = .bool true := eH he hR 4 (by kernel_rfl) rfl
     refine gT e11 rfl rfl rfl ?_
     have e15 : a.eval (.tmp 15) = .pointer (some ⟨bA, oA + k * 19, none⟩) := eH he hR 8 (by kernel_rfl) rfl
     have hbW := bthen (below_drew _) (grow_below hX)
     exact wp_value (exec_load_mid 30 _ rfl bA (oA + k * 19) e15 x.1.cells _ (range_below hbW HBA.out HXR.out) Try.underlying30 rfl (sizePx _ HXF.out.addr)) (gK hK rfl)
    ·intro a vs W hX hR he hf K hK
     have e11 : a.eval (.tmp 11) = .bool true := eH he hR 4 (by kernel_rfl) rfl
     refine gT e11 rfl rfl rfl ?_
     have e3 : a.eval (.tmp 3) = .pointer (some ⟨g1, 0, none⟩) := hf 3 (by kernel_rfl)
     have hbW := bthen (below_drew _) (grow_below hX)
     exact wp_value (exec_load 30 _ rfl g1 e3 30 p.cells _ (HP.out.on hbW) Try.underlying30 rfl (sizePx _ HF.out.addr)) (gK hK rfl)
    ·intro a vs W hX hR he hf K hK
     have e11 : a.eval (.tmp 11) = .bool true := eH he hR 4 (by kernel_rfl) rfl
     refine gT e11 rfl rfl rfl ?_
     have e16 : a.eval (.tmp 16) = .agg x.1.cells.toArray := eH he hR 9 (by kernel_rfl) rfl
     have e17 : a.eval (.tmp 17) = .agg p.cells.toArray := eH he hR 10 (by kernel_rfl) rfl
     refine wp_enter (f := 81) (args := #[.agg x.1.cells.toArray, .agg p.cells.toArray]) (by simp only [execOp, e16, e17]; go_simp; exact ⟨by simpa [Act.eval] using e16, by simpa [Act.eval] using e17⟩) ((rcompare_any x.1 HXF.out p HF.out W).mono ?_)
     rintro e w' ⟨rfl, hb⟩
     exact ⟨_, rfl, hK _ _ rfl (below_grow hb _)⟩
    ·intro a vs W hX hR he hf K hK
     have e11 : a.eval (.tmp 11) = .bool true := eH he hR 4 (by kernel_rfl) rfl
     refine gT e11 rfl rfl rfl ?_
     have e18 : a.eval (.tmp 18) = .int .i64 (cmpP x.1 p) := eH he hR 11 (by kernel_rfl) rfl
     refine wV hK rfl ?_
     simp only [execOp, e18]
     have h9 := HCM.out
     go_simp
    ·intro a vs W hX hR he hf K hK
     refine wn rfl ?_
     have e11 : a.eval (.tmp 11) = .bool true := eH he hR 4 (by kernel_rfl) rfl
     have e19 : a.eval (.tmp 19) = .bool false := eH he hR 12 (by kernel_rfl) rfl
     refine wV hK rfl ?_
     simp only [execOp, e11, e19]
     try go_simp
    intro vs wx hXx hR
    rw [put_eqs hR rfl]
    simp only [putL, Act.put, List.setIfInBounds_toArray, List.set_cons_zero, List.set_cons_succ]
    clear hR
    replace hBE := Hh (hBE.out.trans ((bthen (below_drew _) (grow_below hXx)).mono hBE.out.size))
    replace HP := Hh (HP.out.on (bthen (below_drew _) (grow_below hXx)))
    replace HW := Hh (bthen HW.out (bthen (below_drew _) (grow_below hXx)))
    replace HXR := Hh (range_below (bthen (below_drew _) (grow_below hXx)) HBA.out HXR.out)
    replace HBA := Hh (Nat.lt_of_lt_of_le HBA.out (bthen (below_drew _) (grow_below hXx)).size)
    clear hXx
    go_wp2_with fail
    refine wp_region_rel (fun A B => A.grownBy B none) (fun A => grown_refl A _) (fun A B C h k => grown_trans h k) (relAt (eqs [.int .i64 (k : Int), .int .i64 (k : Int), .slice (some ⟨bA, oA, none⟩) n c, .int .i64 (n : Int), .bool true, .bool true, .slice (some ⟨bA, oA, none⟩) n c, .int .i64 (k : Int), .pointer (some ⟨bA, oA + k * 19, none⟩), .pointer (some ⟨bA, oA + k * 19, none⟩), .agg x.1.cells.toArray, .agg p.cells.toArray, .bool true, .bool true, .int .i64 (k : Int), .bool true])) (MonoL.at_ (eqs_mono _)) (by kernel_rfl) (by kernel_rfl) ⟨?_, ?_, ?_, ?_, ?_, ?_, ?_, ?_, ?_, ?_, ?_, ?_, ?_, ?_, ?_, ?_, trivial⟩ ?_
    ·intro a vs W hX hR he hf K hK
     refine wn rfl ?_
     have e6 : a.eval (.tmp 6) = .int .i64 (k : Int) := hf 6 (by kernel_rfl)
     refine wV hK rfl ?_
     simp only [execOp, e6]
     try go_simp
    ·intro a vs W hX hR he hf K hK
     refine wn rfl ?_
     have e6 : a.eval (.tmp 6) = .int .i64 (k : Int) := hf 6 (by kernel_rfl)
     refine wV hK rfl ?_
     simp only [execOp, e6]
     try go_simp
    ·intro a vs W hX hR he hf K hK
     refine wn rfl ?_
     have e0 : a.eval (.tmp 0) = .slice (some ⟨bA, oA, none⟩) n c := hf 0 (by kernel_rfl)
     refine wV hK rfl ?_
     simp only [execOp, e0]
     try go_simp
    ·intro a vs W hX hR he hf K hK
     refine wn rfl ?_
     have e25 : a.eval (.tmp 25) = .slice (some ⟨bA, oA, none⟩) n c := eH he hR 2 (by kernel_rfl) rfl
     have f25 := e25
     simp only [Act.eval, Array.getD_eq_getD_getElem?] at f25
     refine wV hK rfl ?_
     simp only [execOp, e25]
     try go_simp
    ·intro a vs W hX hR he hf K hK
     refine wn rfl ?_
     have e24 : a.eval (.tmp 24) = .int .i64 (k : Int) := eH he hR 1 (by kernel_rfl) rfl
     have e26 : a.eval (.tmp 26) = .int .i64 (n : Int) := eH he hR 3 (by kernel_rfl) rfl
     refine wV hK rfl ?_
     simp only [execOp, e24, e26]
     try go_simp
    ·intro a vs W hX hR he hf K hK
     refine wn rfl ?_
     have e27 : a.eval (.tmp 27) = .bool true := eH he hR 4 (by kernel_rfl) rfl
     refine wV hK rfl ?_
     simp only [execOp, e27]
     try go_simp
    ·intro a vs W hX hR he hf K hK
     have e28 : a.eval (.tmp 28) = .bool true := eH he hR 5 (by kernel_rfl) rfl
     refine gT e28 rfl rfl rfl ?_
     have e0 : a.eval (.tmp 0) = .slice (some ⟨bA, oA, none⟩) n c := hf 0 (by kernel_rfl)
     refine wV hK rfl ?_
     simp only [execOp, e0]
     try go_simp
    ·intro a vs W hX hR he hf K hK
     have e28 : a.eval (.tmp 28) = .bool true := eH he hR 5 (by kernel_rfl) rfl
     refine gT e28 rfl rfl rfl ?_
     have e6 : a.eval (.tmp 6) = .int .i64 (k : Int) := hf 6 (by kernel_rfl)
     refine wV hK rfl ?_
     simp only [execOp, e6]
     try go_simp
    ·intro a vs W hX hR he hf K hK
     have e28 : a.eval (.tmp 28) = .bool true := eH he hR 5 (by kernel_rfl) rfl
     refine gT e28 rfl rfl rfl ?_
     have e29 : a.eval (.tmp 29) = .slice (some ⟨bA, oA, none⟩) n c := eH he hR 6 (by kernel_rfl) rfl
     have e30 : a.eval (.tmp 30) = .int .i64 (k : Int) := eH he hR 7 (by kernel_rfl) rfl
     refine wV hK rfl ?_
     simp only [execOp, e29, e30]
     go_simp
    ·intro a vs W hX hR he hf K hK
     have e28 : a.eval (.tmp 28) = .bool true := eH he hR 5 (by kernel_rfl) rfl
     refine gT e28 rfl rfl rfl ?_
     have e31 : a.eval (.tmp 31) = .pointer (some ⟨bA, oA + k * 19, none⟩) := eH he hR 8 (by kernel_rfl) rfl
     refine wV hK rfl ?_
     simp only [execOp, e31]
     try go_simp
    ·intro a vs W hX hR he hf K hK
     have e28 : a.eval (.tmp 28) = .bool true := eH he hR 5 (by kernel_rfl) rfl
     refine gT e28 rfl rfl rfl ?_
     have e32 : a.eval (.tmp 32) = .pointer (some ⟨bA, oA + k * 19, none⟩) := eH he hR 9 (by kernel_rfl) rfl
     have hbW := bthen (below_drew _) (grow_below hX)
     exact wp_value (exec_load_mid 30 _ rfl bA (oA + k * 19) e32 x.1.cells _ (range_below hbW HBA.out HXR.out) Try.underlying30 rfl (sizePx _ HXF.out.addr)) (gK hK rfl)
    ·intro a vs W hX hR he hf K hK
     have e28 : a.eval (.tmp 28) = .bool true := eH he hR 5 (by kernel_rfl) rfl
     refine gT e28 rfl rfl rfl ?_
     have e3 : a.eval (.tmp 3) = .pointer (some ⟨g1, 0, none⟩) := hf 3 (by kernel_rfl)
     have hbW := bthen (below_drew _) (grow_below hX)
     exact wp_value (exec_load 30 _ rfl g1 e3 30 p.cells _ (HP.out.on hbW) Try.underlying30 rfl (sizePx _ HF.out.addr)) (gK hK rfl)
    ·intro a vs W hX hR he hf K hK
     have e28 : a.eval (.tmp 28) = .bool true := eH he hR 5 (by kernel_rfl) rfl
     refine gT e28 rfl rfl rfl ?_
     have e33 : a.eval (.tmp 33) = .agg x.1.cells.toArray := eH he hR 10 (by kernel_rfl) rfl
     have e34 : a.eval (.tmp 34) = .agg p.cells.toArray := eH he hR 11 (by kernel_rfl) rfl
     exact wp_value (exec_eqPx _ _ _ rfl x.1 p HXF.out.addr HF.out.addr true HEQ.out e33 e34) (gK hK rfl)
    ·intro a vs W hX hR he hf K hK
     refine wn rfl ?_
     have e28 : a.eval (.tmp 28) = .bool true := eH he hR 5 (by kernel_rfl) rfl
     have e35 : a.eval (.tmp 35) = .bool true := eH he hR 12 (by kernel_rfl) rfl
     refine wV hK rfl ?_
     simp only [execOp, e28, e35]
     try go_simp
    ·intro a vs W hX hR he hf K hK
     refine wn rfl ?_
     have e23 : a.eval (.tmp 23) = .int .i64 (k : Int) := eH he hR 0 (by kernel_rfl) rfl
     refine wV hK rfl ?_
     simp only [execOp, e23]
     try go_simp
    ·intro a vs W hX hR he hf K hK
     refine wn rfl ?_
     have e36 : a.eval (.tmp 36) = .bool true := eH he hR 13 (by kernel_rfl) rfl
     refine wV hK rfl ?_
     simp only [execOp, e36]
     try go_simp
    intro vs wy hXx hR
    rw [put_eqs hR rfl]
    simp only [putL, Act.put, List.setIfInBounds_toArray, List.set_cons_zero, List.set_cons_succ]
    clear hR
    replace hBE := Hh (hBE.out.trans ((bthen (below_drew _) (grow_below hXx)).mono hBE.out.size))
    replace HP := Hh (HP.out.on (bthen (below_drew _) (grow_below hXx)))
    replace HW := Hh (bthen HW.out (bthen (below_drew _) (grow_below hXx)))
    replace HXR := Hh (range_below (bthen (below_drew _) (grow_below hXx)) HBA.out HXR.out)
    replace HBA := Hh (Nat.lt_of_lt_of_le HBA.out (bthen (below_drew _) (grow_below hXx)).size)
    clear hXx
    go_wp2_with fail
    go_ret2
    exact ⟨by rw [HCN.out, HHS.out]; rfl, HW.out⟩
   have HEQ := Hh (decide_eq_false h2)
   have HHS := Hh (show hasC L p = false by unfold hasC; rw [HCN.out, HGX.out]; exact HEQ.out)
   clear h2
   go_wp2_with fail
   refine wp_region_rel (fun A B => A.grownBy B none) (fun A => grown_refl A _) (fun A B C h k => grown_trans h k) (relAt (eqs [.int .i64 (k : Int), .slice (some ⟨bA, oA, none⟩) n c, .int .i64 (n : Int), .bool true, .bool true, .slice (some ⟨bA, oA, none⟩) n c, .int .i64 (k : Int), .pointer (some ⟨bA, oA + k * 19, none⟩), .pointer (some ⟨bA, oA + k * 19, none⟩), .agg x.1.cells.toArray, .agg p.cells.toArray, .int .i64 (cmpP x.1 p), .bool false, .bool false])) (MonoL.at_ (eqs_mono _)) (by kernel_rfl) (by kernel_rfl) ⟨?_, ?_, ?_, ?_, ?_, ?_, ?_, ?_, ?_, ?_, ?_, ?_, ?_, ?_, trivial⟩ ?_
   ·intro a vs W hX hR he hf K hK
    refine wn rfl ?_
    have e6 : a.eval (.tmp 6) = .int .i64 (k : Int) := hf 6 (by kernel_rfl)
    refine wV hK rfl ?_
    simp only [execOp, e6]
    try go_simp
   ·intro a vs W hX hR he hf K hK
    refine wn rfl ?_
    have e0 : a.eval (.tmp 0) = .slice (some ⟨bA, oA, none⟩) n c := hf 0 (by kernel_rfl)
    refine wV hK rfl ?_
    simp only [execOp, e0]
    try go_simp
   ·intro a vs W hX hR he hf K hK
    refine wn rfl ?_
    have e8 : a.eval (.tmp 8) = .slice (some ⟨bA, oA, none⟩) n c := eH he hR 1 (by kernel_rfl) rfl
    have f8 := e8
    simp only [Act.eval, Array.getD_eq_getD_getElem?] at f8
    refine wV hK rfl ?_
    simp only [execOp, e8]
    try go_simp
   ·intro a vs W hX hR he hf K hK
    refine wn rfl ?_
    have e7 : a.eval (.tmp 7) = .int .i64 (k : Int) := eH he hR 0 (by kernel_rfl) rfl
    have e9 : a.eval (.tmp 9) = .int .i64 (n : Int) := eH he hR 2 (by kernel_rfl) rfl
    refine wV hK rfl ?_
    simp only [execOp, e7, e9]
    try go_simp
   ·intro a vs W hX hR he hf K hK
    refine wn rfl ?_
    have e10 : a.eval (.tmp 10) = .bool true := eH he hR 3 (by kernel_rfl) rfl
    refine wV hK rfl ?_
    simp only [execOp, e10]
    try go_simp
   ·intro a vs W hX hR he hf K hK
    have e11 : a.eval (.tmp 11) = .bool true := eH he hR 4 (by kernel_rfl) rfl
    refine gT e11 rfl rfl rfl ?_
    have e0 : a.eval (.tmp 0) = .slice (some ⟨bA, oA, none⟩) n c := hf 0 (by kernel_rfl)
    refine wV hK rfl ?_
    simp only [execOp, e0]
    try go_simp
   ·intro a vs W hX hR he hf K hK
    have e11 : a.eval (.tmp 11) = .bool true := eH he hR 4 (by kernel_rfl) rfl
    refine gT e11 rfl rfl rfl ?_
    have e6 : a.eval (.tmp 6) = .int .i64 (k : Int) := hf 6 (by kernel_rfl)
    refine wV hK rfl ?_
    simp only [execOp, e6]
    try go_simp
   ·intro a vs W hX hR he hf K hK
    have e11 : a.eval (.tmp 11) = .bool true := eH he hR 4 (by kernel_rfl) rfl
    refine gT e11 rfl rfl rfl ?_
    have e12 : a.eval (.tmp 12) = .slice (some ⟨bA, oA, none⟩) n c := eH he hR 5 (by kernel_rfl) rfl
    have e13 : a.eval (.tmp 13) = .int .i64 (k : Int) := eH he hR 6 (by kernel_rfl) rfl
    refine wV hK rfl ?_
    simp only [execOp, e12, e13]
    go_simp
   ·intro a vs W hX hR he hf K hK
    have e11 : a.eval (.tmp 11) = .bool true := eH he hR 4 (by kernel_rfl) rfl
    refine gT e11 rfl rfl rfl ?_
    have e14 : a.eval (.tmp 14) = .pointer (some ⟨bA, oA + k * 19, none⟩) := eH he hR 7 (by kernel_rfl) rfl
    refine wV hK rfl ?_
    simp only [execOp, e14]
    try go_simp
   ·intro a vs W hX hR he hf K hK
    have e11 : a.eval (.tmp 11) = .bool true := eH he hR 4 (by kernel_rfl) rfl
    refine gT e11 rfl rfl rfl ?_
    have e15 : a.eval (.tmp 15) = .pointer (some ⟨bA, oA + k * 19, none⟩) := eH he hR 8 (by kernel_rfl) rfl
    have hbW := bthen (below_drew _) (grow_below hX)
    exact wp_value (exec_load_mid 30 _ rfl bA (oA + k * 19) e15 x.1.cells _ (range_below hbW HBA.out HXR.out) Try.underlying30 rfl (sizePx _ HXF.out.addr)) (gK hK rfl)
   ·intro a vs W hX hR he hf K hK
    have e11 : a.eval (.tmp 11) = .bool true := eH he hR 4 (by kernel_rfl) rfl
    refine gT e11 rfl rfl rfl ?_
    have e3 : a.eval (.tmp 3) = .pointer (some ⟨g1, 0, none⟩) := hf 3 (by kernel_rfl)
    have hbW := bthen (below_drew _) (grow_below hX)
    exact wp_value (exec_load 30 _ rfl g1 e3 30 p.cells _ (HP.out.on hbW) Try.underlying30 rfl (sizePx _ HF.out.addr)) (gK hK rfl)
   ·intro a vs W hX hR he hf K hK
    have e11 : a.eval (.tmp 11) = .bool true := eH he hR 4 (by kernel_rfl) rfl
    refine gT e11 rfl rfl rfl ?_
    have e16 : a.eval (.tmp 16) = .agg x.1.cells.toArray := eH he hR 9 (by kernel_rfl) rfl
    have e17 : a.eval (.tmp 17) = .agg p.cells.toArray := eH he hR 10 (by kernel_rfl) rfl
    refine wp_enter (f := 81) (args := #[.agg x.1.cells.toArray, .agg p.cells.toArray]) (by simp only [execOp, e16, e17]; go_simp; exact ⟨by simpa [Act.eval] using e16, by simpa [Act.eval] using e17⟩) ((rcompare_any x.1 HXF.out p HF.out W).mono ?_)
    rintro e w' ⟨rfl, hb⟩
    exact ⟨_, rfl, hK _ _ rfl (below_grow hb _)⟩
   ·intro a vs W hX hR he hf K hK
    have e11 : a.eval (.tmp 11) = .bool true := eH he hR 4 (by kernel_rfl) rfl
    refine gT e11 rfl rfl rfl ?_
    have e18 : a.eval (.tmp 18) = .int .i64 (cmpP x.1 p) := eH he hR 11 (by kernel_rfl) rfl
    refine wV hK rfl ?_
    simp only [execOp, e18]
    have h9 := HCM.out
    go_simp
   ·intro a vs W hX hR he hf K hK
    refine wn rfl ?_
    have e11 : a.eval (.tmp 11) = .bool true := eH he hR 4 (by kernel_rfl) rfl
    have e19 : a.eval (.tmp 19) = .bool false := eH he hR 12 (by kernel_rfl) rfl
    refine wV hK rfl ?_
    simp only [execOp, e11, e19]
    try go_simp
   intro vs wx hXx hR
   rw [put_eqs hR rfl]
   simp only [putL, Act.put, List.setIfInBounds_toArray, List.set_cons_zero, List.set_cons_succ]
   clear hR
   replace hBE := Hh (hBE.out.trans ((bthen (below_drew _) (grow_below hXx)).mono hBE.out.size))
   replace HP := Hh (HP.out.on (bthen (below_drew _) (grow_below hXx)))
   replace HW := Hh (bthen HW.out (bthen (below_drew _) (grow_below hXx)))
   replace HXR := Hh (range_below (bthen (below_drew _) (grow_below hXx)) HBA.out HXR.out)
   replace HBA := Hh (Nat.lt_of_lt_of_le HBA.out (bthen (below_drew _) (grow_below hXx)).size)
   clear hXx
   go_wp2_with fail
   refine wp_region_rel (fun A B => A.grownBy B none) (fun A => grown_refl A _) (fun A B C h k => grown_trans h k) (relAt (eqs [.int .i64 (k : Int), .int .i64 (k : Int), .slice (some ⟨bA, oA, none⟩) n c, .int .i64 (n : Int), .bool true, .bool true, .slice (some ⟨bA, oA, none⟩) n c, .int .i64 (k : Int), .pointer (some ⟨bA, oA + k * 19, none⟩), .pointer (some ⟨bA, oA + k * 19, none⟩), .agg x.1.cells.toArray, .agg p.cells.toArray, .bool false, .bool false, .int .i64 (k : Int), .bool false])) (MonoL.at_ (eqs_mono _)) (by kernel_rfl) (by kernel_rfl) ⟨?_, ?_, ?_, ?_, ?_, ?_, ?_, ?_, ?_, ?_, ?_, ?_, ?_, ?_, ?_, ?_, trivial⟩ ?_
   ·intro a vs W hX hR he hf K hK
    refine wn rfl ?_
    have e6 : a.eval (.tmp 6) = .int .i64 (k : Int) := hf 6 (by kernel_rfl)
    refine wV hK rfl ?_
    simp only [execOp, e6]
    try go_simp
   ·intro a vs W hX hR he hf K hK
    refine wn rfl ?_
    have e6 : a.eval (.tmp 6) = .int .i64 (k : Int) := hf 6 (by kernel_rfl)
    refine wV hK rfl ?_
    simp only [execOp, e6]
    try go_simp
   ·intro a vs W hX hR he hf K hK
    refine wn rfl ?_
    have e0 : a.eval (.tmp 0) = .slice (some ⟨bA, oA, none⟩) n c := hf 0 (by kernel_rfl)
    refine wV hK rfl ?_
    simp only [execOp, e0]
    try go_simp
   ·intro a vs W hX hR he hf K hK
    refine wn rfl ?_
    have e25 : a.eval (.tmp 25) = .slice (some ⟨bA, oA, none⟩) n c := eH he hR 2 (by kernel_rfl) rfl
    have f25 := e25
    simp only [Act.eval, Array.getD_eq_getD_getElem?] at f25
    refine wV hK rfl ?_
    simp only [execOp, e25]
    try go_simp
   ·intro a vs W hX hR he hf K hK
    refine wn rfl ?_
    have e24 : a.eval (.tmp 24) = .int .i64 (k : Int) := eH he hR 1 (by kernel_rfl) rfl
    have e26 : a.eval (.tmp 26) = .int .i64 (n : Int) := eH he hR 3 (by kernel_rfl) rfl
    refine wV hK rfl ?_
    simp only [execOp, e24, e26]
    try go_simp
   ·intro a vs W hX hR he hf K hK
    refine wn rfl ?_
    have e27 : a.eval (.tmp 27) = .bool true := eH he hR 4 (by kernel_rfl) rfl
    refine wV hK rfl ?_
    simp only [execOp, e27]
    try go_simp
   ·intro a vs W hX hR he hf K hK
    have e28 : a.eval (.tmp 28) = .bool true := eH he hR 5 (by kernel_rfl) rfl
    refine gT e28 rfl rfl rfl ?_
    have e0 : a.eval (.tmp 0) = .slice (some ⟨bA, oA, none⟩) n c := hf 0 (by kernel_rfl)
    refine wV hK rfl ?_
    simp only [execOp, e0]
    try go_simp
   ·intro a vs W hX hR he hf K hK
    have e28 : a.eval (.tmp 28) = .bool true := eH he hR 5 (by kernel_rfl) rfl
    refine gT e28 rfl rfl rfl ?_
    have e6 : a.eval (.tmp 6) = .int .i64 (k : Int) := hf 6 (by kernel_rfl)
    refine wV hK rfl ?_
    simp only [execOp, e6]
    try go_simp
   ·intro a vs W hX hR he hf K hK
    have e28 : a.eval (.tmp 28) = .bool true := eH he hR 5 (by kernel_rfl) rfl
    refine gT e28 rfl rfl rfl ?_
    have e29 : a.eval (.tmp 29) = .slice (some ⟨bA, oA, none⟩) n c := eH he hR 6 (by kernel_rfl) rfl
    have e30 : a.eval (.tmp 30) = .int .i64 (k : Int) := eH he hR 7 (by kernel_rfl) rfl
    refine wV hK rfl ?_
    simp only [execOp, e29, e30]
    go_simp
   ·intro a vs W hX hR he hf K hK
    have e28 : a.eval (.tmp 28) = .bool true := eH he hR 5 (by kernel_rfl) rfl
    refine gT e28 rfl rfl rfl ?_
    have e31 : a.eval (.tmp 31) = .pointer (some ⟨bA, oA + k * 19, none⟩) := eH he hR 8 (by kernel_rfl) rfl
    refine wV hK rfl ?_
    simp only [execOp, e31]
    try go_simp
   ·intro a vs W hX hR he hf K hK
    have e28 : a.eval (.tmp 28) = .bool true := eH he hR 5 (by kernel_rfl) rfl
    refine gT e28 rfl rfl rfl ?_
    have e32 : a.eval (.tmp 32) = .pointer (some ⟨bA, oA + k * 19, none⟩) := eH he hR 9 (by kernel_rfl) rfl
    have hbW := bthen (below_drew _) (grow_below hX)
    exact wp_value (exec_load_mid 30 _ rfl bA (oA + k * 19) e32 x.1.cells _ (range_below hbW HBA.out HXR.out) Try.underlying30 rfl (sizePx _ HXF.out.addr)) (gK hK rfl)
   ·intro a vs W hX hR he hf K hK
    have e28 : a.eval (.tmp 28) = .bool true := eH he hR 5 (by kernel_rfl) rfl
    refine gT e28 rfl rfl rfl ?_
    have e3 : a.eval (.tmp 3) = .pointer (some ⟨g1, 0, none⟩) := hf 3 (by kernel_rfl)
    have hbW := bthen (below_drew _) (grow_below hX)
    exact wp_value (exec_load 30 _ rfl g1 e3 30 p.cells _ (HP.out.on hbW) Try.underlying30 rfl (sizePx _ HF.out.addr)) (gK hK rfl)
   ·intro a vs W hX hR he hf K hK
    have e28 : a.eval (.tmp 28) = .bool true := eH he hR 5 (by kernel_rfl) rfl
    refine gT e28 rfl rfl rfl ?_
    have e33 : a.eval (.tmp 33) = .agg x.1.cells.toArray := eH he hR 10 (by kernel_rfl) rfl
    have e34 : a.eval (.tmp 34) = .agg p.cells.toArray := eH he hR 11 (by kernel_rfl) rfl
    exact wp_value (exec_eqPx _ _ _ rfl x.1 p HXF.out.addr HF.out.addr false HEQ.out e33 e34) (gK hK rfl)
   ·intro a vs W hX hR he hf K hK
    refine wn rfl ?_
    have e28 : a.eval (.tmp 28) = .bool true := eH he hR 5 (by kernel_rfl) rfl
    have e35 : a.eval (.tmp 35) = .bool false := eH he hR 12 (by kernel_rfl) rfl
    refine wV hK rfl ?_
    simp only [execOp, e28, e35]
    try go_simp
   ·intro a vs W hX hR he hf K hK
    refine wn rfl ?_
    have e23 : a.eval (.tmp 23) = .int .i64 (k : Int) := eH he hR 0 (by kernel_rfl) rfl
    refine wV hK rfl ?_
    simp only [execOp, e23]
    try go_simp
   ·intro a vs W hX hR he hf K hK
    refine wn rfl ?_
    have e36 : a.eval (.tmp 36) = .bool false := eH he hR 13 (by kernel_rfl) rfl
    refine wV hK rfl ?_
    simp only [execOp, e36]
    try go_simp
   intro vs wy hXx hR
   rw [put_eqs hR rfl]
   simp only [putL, Act.put, List.setIfInBounds_toArray, List.set_cons_zero, List.set_cons_succ]
   clear hR
   replace hBE := Hh (hBE.out.trans ((bthen (below_drew _) (grow_below hXx)).mono hBE.out.size))
   replace HP := Hh (HP.out.on (bthen (below_drew _) (grow_below hXx)))
   replace HW := Hh (bthen HW.out (bthen (below_drew _) (grow_below hXx)))
   replace HXR := Hh (range_below (bthen (below_drew _) (grow_below hXx)) HBA.out HXR.out)
   replace HBA := Hh (Nat.lt_of_lt_of_le HBA.out (bthen (below_drew _) (grow_below hXx)).size)
   clear hXx
   go_wp2_with fail
   go_ret2
   exact ⟨by rw [HCN.out, HHS.out]; rfl, HW.out⟩
  obtain rfl : k = n := by have := HLN.out; omega
  have HGX := Hh (show L[k]? = none from List.getElem?_eq_none (by rw [HLN.out]; omega))
  have HCN := Hh (show cntC L p = k from cntC_go L p k HJ.out hk (fun y hy => by rw [HGX.out] at hy; cases hy))
  have HHS := Hh (show hasC L p = false by unfold hasC; rw [HCN.out, HGX.out])
  go_wp2_with fail
  refine wp_region_rel (fun A B => A.grownBy B none) (fun A => grown_refl A _) (fun A B C h k => grown_trans h k) (relAt (eqs [.int .i64 (k : Int), .slice A k c, .int .i64 (k : Int), .bool false, .bool false, undef, undef, undef, undef, undef, undef, undef, undef, .bool false])) (MonoL.at_ (eqs_mono _)) (by kernel_rfl) (by kernel_rfl) ⟨?_, ?_, ?_, ?_, ?_, ?_, ?_, ?_, ?_, ?_, ?_, ?_, ?_, ?_, trivial⟩ ?_
  ·intro a vs W hX hR he hf K hK
   refine wn rfl ?_
   have e6 : a.eval (.tmp 6) = .int .i64 (k : Int) := hf 6 (by kernel_rfl)
   refine wV hK rfl ?_
   simp only [execOp, e6]
   try go_simp
  ·intro a vs W hX hR he hf K hK
   refine wn rfl ?_
   have e0 : a.eval (.tmp 0) = .slice A k c := hf 0 (by kernel_rfl)
   refine wV hK rfl ?_
   simp only [execOp, e0]
   try go_simp
  ·intro a vs W hX hR he hf K hK
   refine wn rfl ?_
   have e8 : a.eval (.tmp 8) = .slice A k c := eH he hR 1 (by kernel_rfl) rfl
   have f8 := e8
   simp only [Act.eval, Array.getD_eq_getD_getElem?] at f8
   refine wV hK rfl ?_
   simp only [execOp, e8]
   try go_simp
  ·intro a vs W hX hR he hf K hK
   refine wn rfl ?_
   have e7 : a.eval (.tmp 7) = .int .i64 (k : Int) := eH he hR 0 (by kernel_rfl) rfl
   have e9 : a.eval (.tmp 9) = .int .i64 (k : Int) := eH he hR 2 (by kernel_rfl) rfl
   refine wV hK rfl ?_
   simp only [execOp, e7, e9]
   try go_simp
  ·intro a vs W hX hR he hf K hK
   refine wn rfl ?_
   have e10 : a.eval (.tmp 10) = .bool false := eH he hR 3 (by kernel_rfl) rfl
   refine wV hK rfl ?_
   simp only [execOp, e10]
   try go_simp
  ·intro a vs W hX hR he hf K hK
   have e11 : a.eval (.tmp 11) = .bool false := eH he hR 4 (by kernel_rfl) rfl
   exact gN e11 rfl rfl rfl (gK hK rfl)
  ·intro a vs W hX hR he hf K hK
   have e11 : a.eval (.tmp 11) = .bool false := eH he hR 4 (by kernel_rfl) rfl
   exact gN e11 rfl rfl rfl (gK hK rfl)
  ·intro a vs W hX hR he hf K hK
   have e11 : a.eval (.tmp 11) = .bool false := eH he hR 4 (by kernel_rfl) rfl
   exact gN e11 rfl rfl rfl (gK hK rfl)
  ·intro a vs W hX hR he hf K hK
   have e11 : a.eval (.tmp 11) = .bool false := eH he hR 4 (by kernel_rfl) rfl
   exact gN e11 rfl rfl rfl (gK hK rfl)
  ·intro a vs W hX hR he hf K hK
   have e11 : a.eval (.tmp 11) = .bool false := eH he hR 4 (by kernel_rfl) rfl
   exact gN e11 rfl rfl rfl (gK hK rfl)
  ·intro a vs W hX hR he hf K hK
   have e11 : a.eval (.tmp 11) = .bool false := eH he hR 4 (by kernel_rfl) rfl
   exact gN e11 rfl rfl rfl (gK hK rfl)
  ·intro a vs W hX hR he hf K hK
   have e11 : a.eval (.tmp 11) = .bool false := eH he hR 4 (by kernel_rfl) rfl
   exact gN e11 rfl rfl rfl (gK hK rfl)
  ·intro a vs W hX hR he hf K hK
   have e11 : a.eval (.tmp 11) = .bool false := eH he hR 4 (by kernel_rfl) rfl
   exact gN e11 rfl rfl rfl (gK hK rfl)
  ·intro a vs W hX hR he hf K hK
   refine wn rfl ?_
   have e11 : a.eval (.tmp 11) = .bool false := eH he hR 4 (by kernel_rfl) rfl
   have e19 : a.eval (.tmp 19) = undef := eH he hR 12 (by kernel_rfl) rfl
   refine wV hK rfl ?_
   simp only [execOp, e11, e19]
   try go_simp
  intro vs wx hXx hR
  rw [put_eqs hR rfl]
  simp only [putL, Act.put, List.setIfInBounds_toArray, List.set_cons_zero, List.set_cons_succ]
  clear hR
  replace hBE := Hh (hBE.out.trans ((bthen (below_drew _) (grow_below hXx)).mono hBE.out.size))
  replace HP := Hh (HP.out.on (bthen (below_drew _) (grow_below hXx)))
  replace HW := Hh (bthen HW.out (bthen (below_drew _) (grow_below hXx)))
  clear hXx
  go_wp2_with fail
  refine wp_region_rel (fun A B => A.grownBy B none) (fun A => grown_refl A _) (fun A B C h k => grown_trans h k) (relAt (eqs [.int .i64 (k : Int), .int .i64 (k : Int), .slice A k c, .int .i64 (k : Int), .bool false, .bool false, undef, undef, undef, undef, undef, undef, undef, .bool false, .int .i64 (k : Int), .bool false])) (MonoL.at_ (eqs_mono _)) (by kernel_rfl) (by kernel_rfl) ⟨?_, ?_, ?_, ?_, ?_, ?_, ?_, ?_, ?_, ?_, ?_, ?_, ?_, ?_, ?_, ?_, trivial⟩ ?_
  ·intro a vs W hX hR he hf K hK
   refine wn rfl ?_
   have e6 : a.eval (.tmp 6) = .int .i64 (k : Int) := hf 6 (by kernel_rfl)
   refine wV hK rfl ?_
   simp only [execOp, e6]
   try go_simp
  ·intro a vs W hX hR he hf K hK
   refine wn rfl ?_
   have e6 : a.eval (.tmp 6) = .int .i64 (k : Int) := hf 6 (by kernel_rfl)
   refine wV hK rfl ?_
   simp only [execOp, e6]
   try go_simp
  ·intro a vs W hX hR he hf K hK
   refine wn rfl ?_
   have e0 : a.eval (.tmp 0) = .slice A k c := hf 0 (by kernel_rfl)
   refine wV hK rfl ?_
   simp only [execOp, e0]
   try go_simp
  ·intro a vs W hX hR he hf K hK
   refine wn rfl ?_
   have e25 : a.eval (.tmp 25) = .slice A k c := eH he hR 2 (by kernel_rfl) rfl
   have f25 := e25
   simp only [Act.eval, Array.getD_eq_getD_getElem?] at f25
   refine wV hK rfl ?_
   simp only [execOp, e25]
   try go_simp
  ·intro a vs W hX hR he hf K hK
   refine wn rfl ?_
   have e24 : a.eval (.tmp 24) = .int .i64 (k : Int) := eH he hR 1 (by kernel_rfl) rfl
   have e26 : a.eval (.tmp 26) = .int .i64 (k : Int) := eH he hR 3 (by kernel_rfl) rfl
   refine wV hK rfl ?_
   simp only [execOp, e24, e26]
   try go_simp
  ·intro a vs W hX hR he hf K hK
   refine wn rfl ?_
   have e27 : a.eval (.tmp 27) = .bool false := eH he hR 4 (by kernel_rfl) rfl
   refine wV hK rfl ?_
   simp only [execOp, e27]
   try go_simp
  ·intro a vs W hX hR he hf K hK
   have e28 : a.eval (.tmp 28) = .bool false := eH he hR 5 (by kernel_rfl) rfl
   exact gN e28 rfl rfl rfl (gK hK rfl)
  ·intro a vs W hX hR he hf K hK
   have e28 : a.eval (.tmp 28) = .bool false := eH he hR 5 (by kernel_rfl) rfl
   exact gN e28 rfl rfl rfl (gK hK rfl)
  ·intro a vs W hX hR he hf K hK
   have e28 : a.eval (.tmp 28) = .bool false := eH he hR 5 (by kernel_rfl) rfl
   exact gN e28 rfl rfl rfl (gK hK rfl)
  ·intro a vs W hX hR he hf K hK
   have e28 : a.eval (.tmp 28) = .bool false := eH he hR 5 (by kernel_rfl) rfl
   exact gN e28 rfl rfl rfl (gK hK rfl)
  ·intro a vs W hX hR he hf K hK
   have e28 : a.eval (.tmp 28) = .bool false := eH he hR 5 (by kernel_rfl) rfl
   exact gN e28 rfl rfl rfl (gK hK rfl)
  ·intro a vs W hX hR he hf K hK
   have e28 : a.eval (.tmp 28) = .bool false := eH he hR 5 (by kernel_rfl) rfl
   exact gN e28 rfl rfl rfl (gK hK rfl)
  ·intro a vs W hX hR he hf K hK
   have e28 : a.eval (.tmp 28) = .bool false := eH he hR 5 (by kernel_rfl) rfl
   exact gN e28 rfl rfl rfl (gK hK rfl)
  ·intro a vs W hX hR he hf K hK
   refine wn rfl ?_
   have e28 : a.eval (.tmp 28) = .bool false := eH he hR 5 (by kernel_rfl) rfl
   have e35 : a.eval (.tmp 35) = undef := eH he hR 12 (by kernel_rfl) rfl
   refine wV hK rfl ?_
   simp only [execOp, e28, e35]
   try go_simp
  ·intro a vs W hX hR he hf K hK
   refine wn rfl ?_
   have e23 : a.eval (.tmp 23) = .int .i64 (k : Int) := eH he hR 0 (by kernel_rfl) rfl
   refine wV hK rfl ?_
   simp only [execOp, e23]
   try go_simp
  ·intro a vs W hX hR he hf K hK
   refine wn rfl ?_
   have e36 : a.eval (.tmp 36) = .bool false := eH he hR 13 (by kernel_rfl) rfl
   refine wV hK rfl ?_
   simp only [execOp, e36]
   try go_simp
  intro vs wy hXx hR
  rw [put_eqs hR rfl]
  simp only [putL, Act.put, List.setIfInBounds_toArray, List.set_cons_zero, List.set_cons_succ]
  clear hR
  replace hBE := Hh (hBE.out.trans ((bthen (below_drew _) (grow_below hXx)).mono hBE.out.size))
  replace HP := Hh (HP.out.on (bthen (below_drew _) (grow_below hXx)))
  replace HW := Hh (bthen HW.out (bthen (below_drew _) (grow_below hXx)))
  clear hXx
  go_wp2_with fail
  go_ret2
  exact ⟨by rw [HCN.out, HHS.out]; rfl, HW.out⟩
end Go.Proofs.Ytdmgomknamdcfaa


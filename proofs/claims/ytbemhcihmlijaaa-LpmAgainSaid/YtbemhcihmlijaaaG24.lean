/- Texts of this claim put together, in build order: each one's own remark stands ahead of it. -/
import Derived.Test.YtbemhcihmlijaaaG23
/- What the reference's find (layer 9) computes. No condition but sizes. -/
namespace Go.Proofs.Ytbemhcihmlijaaa
open Go.RowKit
set_option linter.unusedVariables false
set_option maxRecDepth 20000
set_option linter.unusedSimpArgs false

theorem range_below {B b o : Nat} {w w' : World} {cs : List Value} (h : Below B w w') (hb : b < B) (hr : w.rangeAt b o cs) : w'.rangeAt b o cs := fun j v hv => (h.cell (p := ⟨b, _, none⟩) hb).trans (hr j v hv)
set_option maxHeartbeats 4000000 in
theorem rfind_any (L : List Itm) (hL : ∀ x ∈ L, x.1.fit) (A : Option Addr) (n c : Nat) (hn : n < 9223372036854775807) (p : Px) (hf : p.fit) (w : World) (hr : Row w w.heap.size 19 A n (its L)) :
  Calls Try.prog 34 #[.slice A n c, .agg p.cells.toArray] w fun e w' => e = .returned (.tuple #[.int .i64 ((cntC L p : Nat) : Int), .bool (hasC L p)]) ∧ Below w.heap.size w w' := by
 have HF := Lib.hid hf
 have HL := Lib.hid hL
 have HR := Lib.hid hr
 have HLN := Lib.hid (its_row hr hL)
 clear hf hL hr
 go_enter Try.func34, Try.ntmps34
 go_upto_region 1 with (refine wpList_box_blk (by rfl) 30 (.tmp 1) rfl p.cells rfl ?_; intro w1 hb1 hB1 hs1; clear hs1)
 obtain ⟨g1, hg1⟩ : ∃ g, w.heap.size = g := ⟨_, rfl⟩
 have HB0 := Lib.hid hB1
 have hb1' := hb1
 rw [hg1] at hb1'
 try rw [hg1]
 have HP := Lib.hid hb1'
 clear hb1 hb1' hB1
 go_wp2_with fail
 go_loopw [6] (fun i wr => ∃ k : Nat, k ≤ L.length ∧ i = .int .i64 (k : Nat) ∧ (∀ j x, j < k → L[j]? = some x → cmpP x.1 p < 0) ∧ Below w1.heap.size w1 wr) (fun i _ => L.length - (intOf i).toNat)
 case atStart => exact ⟨0, by omega, rfl, fun j x h => by omega, Below.refl _ _⟩
 case round =>
  obtain ⟨k, hk, rfl, hj, hbe⟩ := hrel
  have HJ := Lib.hid hj
  have hBE := Lib.hid hbe
  replace HP := Lib.hid (HP.out.on hbe)
  have HW := Lib.hid (bthen HB0.out hbe)
  clear hj hbe
  by_cases hlt : k < n
  ·obtain ⟨x, hx⟩ := get_ex L (k := k) (by rw [HLN.out]; exact hlt)
   obtain ⟨bA, oA, rfl, hbA, hcA, _⟩ := its_at HR.out HL.out k x hx
   have HXF := Lib.hid (HL.out x (List.mem_of_getElem? hx))
   have HXR := Lib.hid (range_below HW.out hbA hcA)
   have HBA := Lib.hid (show bA < wr.heap.size from Nat.lt_of_lt_of_le hbA HW.out.size)
   have HGX := Lib.hid hx
   have hlt2 : (k : Int) < (n : Int) := by omega
   clear hcA hbA hx
   by_cases h1 : cmpP x.1 p < 0
   ·have HCM := Lib.hid h1
    clear h1
    go_wp2_with fail
    refine wp_region_rel (fun A B => A.grownBy B none) (fun A => grown_refl A _) (fun A B C h k => grown_trans h k) (relAt (List.cons (fun v _ => v = .int .i64 (k : Int)) (List.cons (fun v _ => v = .slice (some ⟨bA, oA, none⟩) n c) (List.cons (fun v _ => v = .int .i64 (n : Int)) (List.cons (fun v _ => v = .bool true) (List.cons (fun v _ => v = .bool true) (List.cons (fun v _ => v = .slice (some ⟨bA, oA, none⟩) n c) (List.cons (fun v _ => v = .int .i64 (k : Int)) (List.cons (fun v _ => v = .pointer (some ⟨bA, oA + k * 19, none⟩)) (List.cons (fun v _ => v = .pointer (some ⟨bA, oA + k * 19, none⟩)) (List.cons (fun v _ => v = .agg x.1.cells.toArray) (List.cons (fun v _ => v = .agg p.cells.toArray) (List.cons (fun v _ => v = .int .i64 (cmpP x.1 p)) (List.cons (fun v _ => v = .bool true) (List.cons (fun v _ => v = .bool true) ([])))))))))))))))) (MonoL.at_ (.cons (mono_val _) (.cons (mono_val _) (.cons (mono_val _) (.cons (mono_val _) (.cons (mono_val _) (.cons (mono_val _) (.cons (mono_val _) (.cons (mono_val _) (.cons (mono_val _) (.cons (mono_val _) (.cons (mono_val _) (.cons (mono_val _) (.cons (mono_val _) (.cons (mono_val _) .nil))))))))))))))) (by kernel_rfl) (by kernel_rfl) ⟨?_, ?_, ?_, ?_, ?_, ?_, ?_, ?_, ?_, ?_, ?_, ?_, ?_, ?_, trivial⟩ ?_
    ·intro a vs W hX hR he hf K hK
     rw [if_pos (wanted_none rfl)]
     have e6 : a.eval (.tmp 6) = .int .i64 (k : Int) := hf 6 (by kernel_rfl)
     refine wp_value (v := .int .i64 (k : Int)) ?_ (hK _ _ rfl (grown_refl W _))
     simp only [execOp, e6]
     try go_simp
    ·intro a vs W hX hR he hf K hK
     rw [if_pos (wanted_none rfl)]
     have e0 : a.eval (.tmp 0) = .slice (some ⟨bA, oA, none⟩) n c := hf 0 (by kernel_rfl)
     refine wp_value (v := .slice (some ⟨bA, oA, none⟩) n c) ?_ (hK _ _ rfl (grown_refl W _))
     simp only [execOp, e0]
     try go_simp
    ·intro a vs W hX hR he hf K hK
     rw [if_pos (wanted_none rfl)]
     have e8 : a.eval (.tmp 8) = .slice (some ⟨bA, oA, none⟩) n c := (he 1 8 (by kernel_rfl) rfl).trans (hR 1 (by kernel_rfl))
     have f8 := e8
     simp only [Act.eval, Array.getD_eq_getD_getElem?] at f8
     refine wp_value (v := .int .i64 (n : Int)) ?_ (hK _ _ rfl (grown_refl W _))
     simp only [execOp, e8]
     try go_simp
    ·intro a vs W hX hR he hf K hK
     rw [if_pos (wanted_none rfl)]
     have e7 : a.eval (.tmp 7) = .int .i64 (k : Int) := (he 0 7 (by kernel_rfl) rfl).trans (hR 0 (by kernel_rfl))
     have e9 : a.eval (.tmp 9) = .int .i64 (n : Int) := (he 2 9 (by kernel_rfl) rfl).trans (hR 2 (by kernel_rfl))
     refine wp_value (v := .bool true) ?_ (hK _ _ rfl (grown_refl W _))
     simp only [execOp, e7, e9]
     try go_simp
    ·intro a vs W hX hR he hf K hK
     rw [if_pos (wanted_none rfl)]
     have e10 : a.eval (.tmp 10) = .bool true := (he 3 10 (by kernel_rfl) rfl).trans (hR 3 (by kernel_rfl))
     refine wp_value (v := .bool true) ?_ (hK _ _ rfl (grown_refl W _))
     simp only [execOp, e10]
     try go_simp
    ·intro a vs W hX hR he hf K hK
     have e11 : a.eval (.tmp 11) = .bool true := (he 4 11 (by kernel_rfl) rfl).trans (hR 4 (by kernel_rfl))
     refine Eq.mpr (if_pos (by exact (wanted_some rfl rfl e11).trans rfl)) ?_
     have e0 : a.eval (.tmp 0) = .slice (some ⟨bA, oA, none⟩) n c := hf 0 (by kernel_rfl)
     refine wp_value (v := .slice (some ⟨bA, oA, none⟩) n c) ?_ (hK _ _ rfl (grown_refl W _))
     simp only [execOp, e0]
     try go_simp
    ·intro a vs W hX hR he hf K hK
     have e11 : a.eval (.tmp 11) = .bool true := (he 4 11 (by kernel_rfl) rfl).trans (hR 4 (by kernel_rfl))
     refine Eq.mpr (if_pos (by exact (wanted_some rfl rfl e11).trans rfl)) ?_
     have e6 : a.eval (.tmp 6) = .int .i64 (k : Int) := hf 6 (by kernel_rfl)
     refine wp_value (v := .int .i64 (k : Int)) ?_ (hK _ _ rfl (grown_refl W _))
     simp only [execOp, e6]
     try go_simp
    ·intro a vs W hX hR he hf K hK
     have e11 : a.eval (.tmp 11) = .bool true := (he 4 11 (by kernel_rfl) rfl).trans (hR 4 (by kernel_rfl))
     refine Eq.mpr (if_pos (by exact (wanted_some rfl rfl e11).trans rfl)) ?_
     have e12 : a.eval (.tmp 12) = .slice (some ⟨bA, oA, none⟩) n c := (he 5 12 (by kernel_rfl) rfl).trans (hR 5 (by kernel_rfl))
     have e13 : a.eval (.tmp 13) = .int .i64 (k : Int) := (he 6 13 (by kernel_rfl) rfl).trans (hR 6 (by kernel_rfl))
     refine wp_value (v := .pointer (some ⟨bA, oA + k * 19, none⟩)) ?_ (hK _ _ rfl (grown_refl W _))
     simp only [execOp, e12, e13]
     go_simp
    ·intro a vs W hX hR he hf K hK
     have e11 : a.eval (.tmp 11) = .bool true := (he 4 11 (by kernel_rfl) rfl).trans (hR 4 (by kernel_rfl))
     refine Eq.mpr (if_pos (by exact (wanted_some rfl rfl e11).trans rfl)) ?_
     have e14 : a.eval (.tmp 14) = .pointer (some ⟨bA, oA + k * 19, none⟩) := (he 7 14 (by kernel_rfl) rfl).trans (hR 7 (by kernel_rfl))
     refine wp_value (v := .pointer (some ⟨bA, oA + k * 19, none⟩)) ?_ (hK _ _ rfl (grown_refl W _))
     simp only [execOp, e14]
     try go_simp
    ·intro a vs W hX hR he hf K hK
     have e11 : a.eval (.tmp 11) = .bool true := (he 4 11 (by kernel_rfl) rfl).trans (hR 4 (by kernel_rfl))
     refine Eq.mpr (if_pos (by exact (wanted_some rfl rfl e11).trans rfl)) ?_
     have e15 : a.eval (.tmp 15) = .pointer (some ⟨bA, oA + k * 19, none⟩) := (he 8 15 (by kernel_rfl) rfl).trans (hR 8 (by kernel_rfl))
     have hbW := bthen (below_drew _) (grow_below hX)
     exact wp_value (exec_load_mid 30 _ rfl bA (oA + k * 19) e15 x.1.cells _ (range_below hbW HBA.out HXR.out) Try.underlying30 rfl (sizePx _ HXF.out.addr)) (hK _ _ rfl (grown_refl W _))
    ·intro a vs W hX hR he hf K hK
     have e11 : a.eval (.tmp 11) = .bool true := (he 4 11 (by kernel_rfl) rfl).trans (hR 4 (by kernel_rfl))
     refine Eq.mpr (if_pos (by exact (wanted_some rfl rfl e11).trans rfl)) ?_
     have e3 : a.eval (.tmp 3) = .pointer (some ⟨g1, 0, none⟩) := hf 3 (by kernel_rfl)
     have hbW := bthen (below_drew _) (grow_below hX)
     exact wp_value (exec_load 30 _ rfl g1 e3 30 p.cells _ (HP.out.on hbW) Try.underlying30 rfl (sizePx _ HF.out.addr)) (hK _ _ rfl (grown_refl W _))
    ·intro a vs W hX hR he hf K hK
     have e11 : a.eval (.tmp 11) = .bool true := (he 4 11 (by kernel_rfl) rfl).trans (hR 4 (by kernel_rfl))
     refine Eq.mpr (if_pos (by exact (wanted_some rfl rfl e11).trans rfl)) ?_
     have e16 : a.eval (.tmp 16) = .agg x.1.cells.toArray := (he 9 16 (by kernel_rfl) rfl).trans (hR 9 (by kernel_rfl))
     have e17 : a.eval (.tmp 17) = .agg p.cells.toArray := (he 10 17 (by kernel_rfl) rfl).trans (hR 10 (by kernel_rfl))
     refine wp_enter (f := 13) (args := #[.agg x.1.cells.toArray, .agg p.cells.toArray]) (by simp only [execOp, e16, e17]; go_simp; exact ⟨by simpa [Act.eval] using e16, by simpa [Act.eval] using e17⟩) ((rcompare_any x.1 HXF.out p HF.out W).mono ?_)
     rintro e w' ⟨rfl, hb⟩
     exact ⟨_, rfl, hK _ _ rfl (below_grow hb _)⟩
    ·intro a vs W hX hR he hf K hK
     have e11 : a.eval (.tmp 11) = .bool true := (he 4 11 (by kernel_rfl) rfl).trans (hR 4 (by kernel_rfl))
     refine Eq.mpr (if_pos (by exact (wanted_some rfl rfl e11).trans rfl)) ?_
     have e18 : a.eval (.tmp 18) = .int .i64 (cmpP x.1 p) := (he 11 18 (by kernel_rfl) rfl).trans (hR 11 (by kernel_rfl))
     refine wp_value (v := .bool true) ?_ (hK _ _ rfl (grown_refl W _))
     simp only [execOp, e18]
     have h9 := HCM.out
     go_simp
    ·intro a vs W hX hR he hf K hK
     rw [if_pos (wanted_none rfl)]
     have e11 : a.eval (.tmp 11) = .bool true := (he 4 11 (by kernel_rfl) rfl).trans (hR 4 (by kernel_rfl))
     have e19 : a.eval (.tmp 19) = .bool true := (he 12 19 (by kernel_rfl) rfl).trans (hR 12 (by kernel_rfl))
     refine wp_value (v := .bool true) ?_ (hK _ _ rfl (grown_refl W _))
     simp only [execOp, e11, e19]
     try go_simp
    ·intro vs wx hXx hR
     have q0 := hR 0 (by decide)
     have q1 := hR 1 (by decide)
     have q2 := hR 2 (by decide)
     have q3 := hR 3 (by decide)
     have q4 := hR 4 (by decide)
     have q5 := hR 5 (by decide)
     have q6 := hR 6 (by decide)
     have q7 := hR 7 (by decide)
     have q8 := hR 8 (by decide)
     have q9 := hR 9 (by decide)
     have q10 := hR 10 (by decide)
     have q11 := hR 11 (by decide)
     have q12 := hR 12 (by decide)
     have q13 := hR 13 (by decide)
     change vs 0 = .int .i64 (k : Int) at q0
     change vs 1 = .slice (some ⟨bA, oA, none⟩) n c at q1
     change vs 2 = .int .i64 (n : Int) at q2
     change vs 3 = .bool true at q3
     change vs 4 = .bool true at q4
     change vs 5 = .slice (some ⟨bA, oA, none⟩) n c at q5
     change vs 6 = .int .i64 (k : Int) at q6
     change vs 7 = .pointer (some ⟨bA, oA + k * 19, none⟩) at q7
     change vs 8 = .pointer (some ⟨bA, oA + k * 19, none⟩) at q8
     change vs 9 = .agg x.1.cells.toArray at q9
     change vs 10 = .agg p.cells.toArray at q10
     change vs 11 = .int .i64 (cmpP x.1 p) at q11
     change vs 12 = .bool true at q12
     change vs 13 = .bool true at q13
     simp only [putAll, Act.put, List.setIfInBounds_toArray, List.set_cons_zero, List.set_cons_succ, q0, q1, q2, q3, q4, q5, q6, q7, q8, q9, q10, q11, q12, q13]
     clear q0 q1 q2 q3 q4 q5 q6 q7 q8 q9 q10 q11 q12 q13
     clear hR
     replace hBE := Lib.hid (hBE.out.trans ((bthen (below_drew _) (grow_below hXx)).mono hBE.out.size))
     replace HP := Lib.hid (HP.out.on (bthen (below_drew _) (grow_below hXx)))
     replace HW := Lib.hid (bthen HW.out (bthen (below_drew _) (grow_below hXx)))
     replace HXR := Lib.hid (range_below (bthen (below_drew _) (grow_below hXx)) HBA.out HXR.out)
     replace HBA := Lib.hid (Nat.lt_of_lt_of_le HBA.out (bthen (below_drew _) (grow_below hXx)).size)
     clear hXx
     go_wp2_with fail
     go_roundw
     case rel => exact ⟨k + 1, by rw [HLN.out]; omega, by simp, fun j y h hy => by
      rcases Nat.lt_or_ge j k with h2 | h2
      ·exact HJ.out j y h2 hy
      ·obtain rfl : j = k := by omega
       rw [HGX.out] at hy; cases hy; exact HCM.out, hBE.out⟩
     case measure => have := HLN.out; simp [intOf]; omega
   ·have HCM := Lib.hid h1
    have HCN := Lib.hid (show cntC L p = k from cntC_go L p k HJ.out hk (fun y hy => by rw [HGX.out] at hy; cases hy; exact HCM.out))
    clear h1
    by_cases h2 : x.1 = p
    ·have HEQ := Lib.hid (decide_eq_true h2)
     have HHS := Lib.hid (show hasC L p = true by unfold hasC; rw [HCN.out, HGX.out]; exact HEQ.out)
     clear h2
     go_wp2_with fail
     refine wp_region_rel (fun A B => A.grownBy B none) (fun A => grown_refl A _) (fun A B C h k => grown_trans h k) (relAt (List.cons (fun v _ => v = .int .i64 (k : Int)) (List.cons (fun v _ => v = .slice (some ⟨bA, oA, none⟩) n c) (List.cons (fun v _ => v = .int .i64 (n : Int)) (List.cons (fun v _ => v = .bool true) (List.cons (fun v _ => v = .bool true) (List.cons (fun v _ => v = .slice (some ⟨bA, oA, none⟩) n c) (List.cons (fun v _ => v = .int .i64 (k : Int)) (List.cons (fun v _ => v = .pointer (some ⟨bA, oA + k * 19, none⟩)) (List.cons (fun v _ => v = .pointer (some ⟨bA, oA + k * 19, none⟩)) (List.cons (fun v _ => v = .agg x.1.cells.toArray) (List.cons (fun v _ => v = .agg p.cells.toArray) (List.cons (fun v _ => v = .int .i64 (cmpP x.1 p)) (List.cons (fun v _ => v = .bool false) (List.cons (fun v _ => v = .bool false) ([])))))))))))))))) (MonoL.at_ (.cons (mono_val _) (.cons (mono_val _) (.cons (mono_val _) (.cons (mono_val _) (.cons (mono_val _) (.cons (mono_val _) (.cons (mono_val _) (.cons (mono_val _) (.cons (mono_val _) (.cons (mono_val _) (.cons (mono_val _) (.cons (mono_val _) (.cons (mono_val _) (.cons (mono_val _) .nil))))))))))))))) (by kernel_rfl) (by kernel_rfl) ⟨?_, ?_, ?_, ?_, ?_, ?_, ?_, ?_, ?_, ?_, ?_, ?_, ?_, ?_, trivial⟩ ?_
     ·intro a vs W hX hR he hf K hK
      rw [if_pos (wanted_none rfl)]
      have e6 : a.eval (.tmp 6) = .int .i64 (k : Int) := hf 6 (by kernel_rfl)
      refine wp_value (v := .int .i64 (k : Int)) ?_ (hK _ _ rfl (grown_refl W _))
      simp only [execOp, e6]
      try go_simp
     ·intro a vs W hX hR he hf K hK
      rw [if_pos (wanted_none rfl)]
      have e0 : a.eval (.tmp 0) = .slice (some ⟨bA, oA, none⟩) n c := hf 0 (by kernel_rfl)
      refine wp_value (v := .slice (some ⟨bA, oA, none⟩) n c) ?_ (hK _ _ rfl (grown_refl W _))
      simp only [execOp, e0]
      try go_simp
     ·intro a vs W hX hR he hf K hK
      rw [if_pos (wanted_none rfl)]
      have e8 : a.eval (.tmp 8) = .slice (some ⟨bA, oA, none⟩) n c := (he 1 8 (by kernel_rfl) rfl).trans (hR 1 (by kernel_rfl))
      have f8 := e8
      simp only [Act.eval, Array.getD_eq_getD_getElem?] at f8
      refine wp_value (v := .int .i64 (n : Int)) ?_ (hK _ _ rfl (grown_refl W _))
      simp only [execOp, e8]
      try go_simp
     ·intro a vs W hX hR he hf K hK
      rw [if_pos (wanted_none rfl)]
      have e7 : a.eval (.tmp 7) = .int .i64 (k : Int) := (he 0 7 (by kernel_rfl) rfl).trans (hR 0 (by kernel_rfl))
      have e9 : a.eval (.tmp 9) = .int .i64 (n : Int) := (he 2 9 (by kernel_rfl) rfl).trans (hR 2 (by kernel_rfl))
      refine wp_value (v := .bool true) ?_ (hK _ _ rfl (grown_refl W _))
      simp only [execOp, e7, e9]
      try go_simp
     ·intro a vs W hX hR he hf K hK
      rw [if_pos (wanted_none rfl)]
      have e10 : a.eval (.tmp 10) = .bool true := (he 3 10 (by kernel_rfl) rfl).trans (hR 3 (by kernel_rfl))
      refine wp_value (v := .bool true) ?_ (hK _ _ rfl (grown_refl W _))
      simp only [execOp, e10]
      try go_simp
     ·intro a vs W hX hR he hf K hK
      have e11 : a.eval (.tmp 11) = .bool true := (he 4 11 (by kernel_rfl) rfl).trans (hR 4 (by kernel_rfl))
      refine Eq.mpr (if_pos (by exact (wanted_some rfl rfl e11).trans rfl)) ?_
      have e0 : a.eval (.tmp 0) = .slice (some ⟨bA, oA, none⟩) n c := hf 0 (by kernel_rfl)
      refine wp_value (v := .slice (some ⟨bA, oA, none⟩) n c) ?_ (hK _ _ rfl (grown_refl W _))
      simp only [execOp, e0]
      try go_simp
     ·intro a vs W hX hR he hf K hK
      have e11 : a.eval (.tmp 11) = .bool true := (he 4 11 (by kernel_rfl) rfl).trans (hR 4 (by kernel_rfl))
      refine Eq.mpr (if_pos (by exact (wanted_some rfl rfl e11).trans rfl)) ?_
      have e6 : a.eval (.tmp 6) = .int .i64 (k : Int) := hf 6 (by kernel_rfl)
      refine wp_value (v := .int .i64 (k : Int)) ?_ (hK _ _ rfl (grown_refl W _))
      simp only [execOp, e6]
      try go_simp
     ·intro a vs W hX hR he hf K hK
      have e11 : a.eval (.tmp 11) = .bool true := (he 4 11 (by kernel_rfl) rfl).trans (hR 4 (by kernel_rfl))
      refine Eq.mpr (if_pos (by exact (wanted_some rfl rfl e11).trans rfl)) ?_
      have e12 : a.eval (.tmp 12) = .slice (some ⟨bA, oA, none⟩) n c := (he 5 12 (by kernel_rfl) rfl).trans (hR 5 (by kernel_rfl))
      have e13 : a.eval (.tmp 13) = .int .i64 (k : Int) := (he 6 13 (by kernel_rfl) rfl).trans (hR 6 (by kernel_rfl))
      refine wp_value (v := .pointer (some ⟨bA, oA + k * 19, none⟩)) ?_ (hK _ _ rfl (grown_refl W _))
      simp only [execOp, e12, e13]
      go_simp
     ·intro a vs W hX hR he hf K hK
      have e11 : a.eval (.tmp 11) = .bool true := (he 4 11 (by kernel_rfl) rfl).trans (hR 4 (by kernel_rfl))
      refine Eq.mpr (if_pos (by exact (wanted_some rfl rfl e11).trans rfl)) ?_
      have e14 : a.eval (.tmp 14) = .pointer (some ⟨bA, oA + k * 19, none⟩) := (he 7 14 (by kernel_rfl) rfl).trans (hR 7 (by kernel_rfl))
      refine wp_value (v := .pointer (some ⟨bA, oA + k * 19, none⟩)) ?_ (hK _ _ rfl (grown_refl W _))
      simp only [execOp, e14]
      try go_simp
     ·intro a vs W hX hR he hf K hK
      have e11 : a.eval (.tmp 11) = .bool true := (he 4 11 (by kernel_rfl) rfl).trans (hR 4 (by kernel_rfl))
      refine Eq.mpr (if_pos (by exact (wanted_some rfl rfl e11).trans rfl)) ?_
      have e15 : a.eval (.tmp 15) = .pointer (some ⟨bA, oA + k * 19, none⟩) := (he 8 15 (by kernel_rfl) rfl).trans (hR 8 (by kernel_rfl))
      have hbW := bthen (below_drew _) (grow_below hX)
      exact wp_value (exec_load_mid 30 _ rfl bA (oA + k * 19) e15 x.1.cells _ (range_below hbW HBA.out HXR.out) Try.underlying30 rfl (sizePx _ HXF.out.addr)) (hK _ _ rfl (grown_refl W _))
     ·intro a vs W hX hR he hf K hK
      have e11 : a.eval (.tmp 11) = .bool true := (he 4 11 (by kernel_rfl) rfl).trans (hR 4 (by kernel_rfl))
      refine Eq.mpr (if_pos (by exact (wanted_some rfl rfl e11).trans rfl)) ?_
      have e3 : a.eval (.tmp 3) = .pointer (some ⟨g1, 0, none⟩) := hf 3 (by kernel_rfl)
      have hbW := bthen (below_drew _) (grow_below hX)
      exact wp_value (exec_load 30 _ rfl g1 e3 30 p.cells _ (HP.out.on hbW) Try.underlying30 rfl (sizePx _ HF.out.addr)) (hK _ _ rfl (grown_refl W _))
     ·intro a vs W hX hR he hf K hK
      have e11 : a.eval (.tmp 11) = .bool true := (he 4 11 (by kernel_rfl) rfl).trans (hR 4 (by kernel_rfl))
      refine Eq.mpr (if_pos (by exact (wanted_some rfl rfl e11).trans rfl)) ?_
      have e16 : a.eval (.tmp 16) = .agg x.1.cells.toArray := (he 9 16 (by kernel_rfl) rfl).trans (hR 9 (by kernel_rfl))
      have e17 : a.eval (.tmp 17) = .agg p.cells.toArray := (he 10 17 (by kernel_rfl) rfl).trans (hR 10 (by kernel_rfl))
      refine wp_enter (f := 13) (args := #[.agg x.1.cells.toArray, .agg p.cells.toArray]) (by simp only [execOp, e16, e17]; go_simp; exact ⟨by simpa [Act.eval] using e16, by simpa [Act.eval] using e17⟩) ((rcompare_any x.1 HXF.out p HF.out W).mono ?_)
      rintro e w' ⟨rfl, hb⟩
      exact ⟨_, rfl, hK _ _ rfl (below_grow hb _)⟩
     ·intro a vs W hX hR he hf K hK
      have e11 : a.eval (.tmp 11) = .bool true := (he 4 11 (by kernel_rfl) rfl).trans (hR 4 (by kernel_rfl))
      refine Eq.mpr (if_pos (by exact (wanted_some rfl rfl e11).trans rfl)) ?_
      have e18 : a.eval (.tmp 18) = .int .i64 (cmpP x.1 p) := (he 11 18 (by kernel_rfl) rfl).trans (hR 11 (by kernel_rfl))
      refine wp_value (v := .bool false) ?_ (hK _ _ rfl (grown_refl W _))
      simp only [execOp, e18]
      have h9 := HCM.out
      go_simp
     ·intro a vs W hX hR he hf K hK
      rw [if_pos (wanted_none rfl)]
      have e11 : a.eval (.tmp 11) = .bool true := (he 4 11 (by kernel_rfl) rfl).trans (hR 4 (by kernel_rfl))
      have e19 : a.eval (.tmp 19) = .bool false := (he 12 19 (by kernel_rfl) rfl).trans (hR 12 (by kernel_rfl))
      refine wp_value (v := .bool false) ?_ (hK _ _ rfl (grown_refl W _))
      simp only [execOp, e11, e19]
      try go_simp
     ·intro vs wx hXx hR
      have q0 := hR 0 (by decide)
      have q1 := hR 1 (by decide)
      have q2 := hR 2 (by decide)
      have q3 := hR 3 (by decide)
      have q4 := hR 4 (by decide)
      have q5 := hR 5 (by decide)
      have q6 := hR 6 (by decide)
      have q7 := hR 7 (by decide)
      have q8 := hR 8 (by decide)
      have q9 := hR 9 (by decide)
      have q10 := hR 10 (by decide)
      have q11 := hR 11 (by decide)
      have q12 := hR 12 (by decide)
      have q13 := hR 13 (by decide)
      change vs 0 = .int .i64 (k : Int) at q0
      change vs 1 = .slice (some ⟨bA, oA, none⟩) n c at q1
      change vs 2 = .int .i64 (n : Int) at q2
      change vs 3 = .bool true at q3
      change vs 4 = .bool true at q4
      change vs 5 = .slice (some ⟨bA, oA, none⟩) n c at q5
      change vs 6 = .int .i64 (k : Int) at q6
      change vs 7 = .pointer (some ⟨bA, oA + k * 19, none⟩) at q7
      change vs 8 = .pointer (some ⟨bA, oA + k * 19, none⟩) at q8
      change vs 9 = .agg x.1.cells.toArray at q9
      change vs 10 = .agg p.cells.toArray at q10
      change vs 11 = .int .i64 (cmpP x.1 p) at q11
      change vs 12 = .bool false at q12
      change vs 13 = .bool false at q13
      simp only [putAll, Act.put, List.setIfInBounds_toArray, List.set_cons_zero, List.set_cons_succ, q0, q1, q2, q3, q4, q5, q6, q7, q8, q9, q10, q11, q12, q13]
      clear q0 q1 q2 q3 q4 q5 q6 q7 q8 q9 q10 q11 q12 q13
      clear hR
      replace hBE := Lib.hid (hBE.out.trans ((bthen (below_drew _) (grow_below hXx)).mono hBE.out.size))
      replace HP := Lib.hid (HP.out.on (bthen (below_drew _) (grow_below hXx)))
      replace HW := Lib.hid (bthen HW.out (bthen (below_drew _) (grow_below hXx)))
      replace HXR := Lib.hid (range_below (bthen (below_drew _) (grow_below hXx)) HBA.out HXR.out)
      replace HBA := Lib.hid (Nat.lt_of_lt_of_le HBA.out (bthen (below_drew _) (grow_below hXx)).size)
      clear hXx
      go_wp2_with fail
      refine wp_region_rel (fun A B => A.grownBy B none) (fun A => grown_refl A _) (fun A B C h k => grown_trans h k) (relAt (List.cons (fun v _ => v = .int .i64 (k : Int)) (List.cons (fun v _ => v = .int .i64 (k : Int)) (List.cons (fun v _ => v = .slice (some ⟨bA, oA, none⟩) n c) (List.cons (fun v _ => v = .int .i64 (n : Int)) (List.cons (fun v _ => v = .bool true) (List.cons (fun v _ => v = .bool true) (List.cons (fun v _ => v = .slice (some ⟨bA, oA, none⟩) n c) (List.cons (fun v _ => v = .int .i64 (k : Int)) (List.cons (fun v _ => v = .pointer (some ⟨bA, oA + k * 19, none⟩)) (List.cons (fun v _ => v = .pointer (some ⟨bA, oA + k * 19, none⟩)) (List.cons (fun v _ => v = .agg x.1.cells.toArray) (List.cons (fun v _ => v = .agg p.cells.toArray) (List.cons (fun v _ => v = .bool true) (List.cons (fun v _ => v = .bool true) (List.cons (fun v _ => v = .int .i64 (k : Int)) (List.cons (fun v _ => v = .bool true) ([])))))))))))))))))) (MonoL.at_ (.cons (mono_val _) (.cons (mono_val _) (.cons (mono_val _) (.cons (mono_val _) (.cons (mono_val _) (.cons (mono_val _) (.cons (mono_val _) (.cons (mono_val _) (.cons (mono_val _) (.cons (mono_val _) (.cons (mono_val _) (.cons (mono_val _) (.cons (mono_val _) (.cons (mono_val _) (.cons (mono_val _) (.cons (mono_val _) .nil))))))))))))))))) (by kernel_rfl) (by kernel_rfl) ⟨?_, ?_, ?_, ?_, ?_, ?_, ?_, ?_, ?_, ?_, ?_, ?_, ?_, ?_, ?_, ?_, trivial⟩ ?_
      ·intro a vs W hX hR he hf K hK
       rw [if_pos (wanted_none rfl)]
       have e6 : a.eval (.tmp 6) = .int .i64 (k : Int) := hf 6 (by kernel_rfl)
       refine wp_value (v := .int .i64 (k : Int)) ?_ (hK _ _ rfl (grown_refl W _))
       simp only [execOp, e6]
       try go_simp
      ·intro a vs W hX hR he hf K hK
       rw [if_pos (wanted_none rfl)]
       have e6 : a.eval (.tmp 6) = .int .i64 (k : Int) := hf 6 (by kernel_rfl)
       refine wp_value (v := .int .i64 (k : Int)) ?_ (hK _ _ rfl (grown_refl W _))
       simp only [execOp, e6]
       try go_simp
      ·intro a vs W hX hR he hf K hK
       rw [if_pos (wanted_none rfl)]
       have e0 : a.eval (.tmp 0) = .slice (some ⟨bA, oA, none⟩) n c := hf 0 (by kernel_rfl)
       refine wp_value (v := .slice (some ⟨bA, oA, none⟩) n c) ?_ (hK _ _ rfl (grown_refl W _))
       simp only [execOp, e0]
       try go_simp
      ·intro a vs W hX hR he hf K hK
       rw [if_pos (wanted_none rfl)]
       have e25 : a.eval (.tmp 25) = .slice (some ⟨bA, oA, none⟩) n c := (he 2 25 (by kernel_rfl) rfl).trans (hR 2 (by kernel_rfl))
       have f25 := e25
       simp only [Act.eval, Array.getD_eq_getD_getElem?] at f25
       refine wp_value (v := .int .i64 (n : Int)) ?_ (hK _ _ rfl (grown_refl W _))
       simp only [execOp, e25]
       try go_simp
      ·intro a vs W hX hR he hf K hK
       rw [if_pos (wanted_none rfl)]
       have e24 : a.eval (.tmp 24) = .int .i64 (k : Int) := (he 1 24 (by kernel_rfl) rfl).trans (hR 1 (by kernel_rfl))
       have e26 : a.eval (.tmp 26) = .int .i64 (n : Int) := (he 3 26 (by kernel_rfl) rfl).trans (hR 3 (by kernel_rfl))
       refine wp_value (v := .bool true) ?_ (hK _ _ rfl (grown_refl W _))
       simp only [execOp, e24, e26]
       try go_simp
      ·intro a vs W hX hR he hf K hK
       rw [if_pos (wanted_none rfl)]
       have e27 : a.eval (.tmp 27) = .bool true := (he 4 27 (by kernel_rfl) rfl).trans (hR 4 (by kernel_rfl))
       refine wp_value (v := .bool true) ?_ (hK _ _ rfl (grown_refl W _))
       simp only [execOp, e27]
       try go_simp
      ·intro a vs W hX hR he hf K hK
       have e28 : a.eval (.tmp 28) = .bool true := (he 5 28 (by kernel_rfl) rfl).trans (hR 5 (by kernel_rfl))
       refine Eq.mpr (if_pos (by exact (wanted_some rfl rfl e28).trans rfl)) ?_
       have e0 : a.eval (.tmp 0) = .slice (some ⟨bA, oA, none⟩) n c := hf 0 (by kernel_rfl)
       refine wp_value (v := .slice (some ⟨bA, oA, none⟩) n c) ?_ (hK _ _ rfl (grown_refl W _))
       simp only [execOp, e0]
       try go_simp
      ·intro a vs W hX hR he hf K hK
       have e28 : a.eval (.tmp 28) = .bool true := (he 5 28 (by kernel_rfl) rfl).trans (hR 5 (by kernel_rfl))
       refine Eq.mpr (if_pos (by exact (wanted_some rfl rfl e28).trans rfl)) ?_
       have e6 : a.eval (.tmp 6) = .int .i64 (k : Int) := hf 6 (by kernel_rfl)
       refine wp_value (v := .int .i64 (k : Int)) ?_ (hK _ _ rfl (grown_refl W _))
       simp only [execOp, e6]
       try go_simp
      ·intro a vs W hX hR he hf K hK
       have e28 : a.eval (.tmp 28) = .bool true := (he 5 28 (by kernel_rfl) rfl).trans (hR 5 (by kernel_rfl))
       refine Eq.mpr (if_pos (by exact (wanted_some rfl rfl e28).trans rfl)) ?_
       have e29 : a.eval (.tmp 29) = .slice (some ⟨bA, oA, none⟩) n c := (he 6 29 (by kernel_rfl) rfl).trans (hR 6 (by kernel_rfl))
       have e30 : a.eval (.tmp 30) = .int .i64 (k : Int) := (he 7 30 (by kernel_rfl) rfl).trans (hR 7 (by kernel_rfl))
       refine wp_value (v := .pointer (some ⟨bA, oA + k * 19, none⟩)) ?_ (hK _ _ rfl (grown_refl W _))
       simp only [execOp, e29, e30]
       go_simp
      ·intro a vs W hX hR he hf K hK
       have e28 : a.eval (.tmp 28) = .bool true := (he 5 28 (by kernel_rfl) rfl).trans (hR 5 (by kernel_rfl))
       refine Eq.mpr (if_pos (by exact (wanted_some rfl rfl e28).trans rfl)) ?_
       have e31 : a.eval (.tmp 31) = .pointer (some ⟨bA, oA + k * 19, none⟩) := (he 8 31 (by kernel_rfl) rfl).trans (hR 8 (by kernel_rfl))
       refine wp_value (v := .pointer (some ⟨bA, oA + k * 19, none⟩)) ?_ (hK _ _ rfl (grown_refl W _))
       simp only [execOp, e31]
       try go_simp
      ·intro a vs W hX hR he hf K hK
       have e28 : a.eval (.tmp 28) = .bool true := (he 5 28 (by kernel_rfl) rfl).trans (hR 5 (by kernel_rfl))
       refine Eq.mpr (if_pos (by exact (wanted_some rfl rfl e28).trans rfl)) ?_
       have e32 : a.eval (.tmp 32) = .pointer (some ⟨bA, oA + k * 19, none⟩) := (he 9 32 (by kernel_rfl) rfl).trans (hR 9 (by kernel_rfl))
       have hbW := bthen (below_drew _) (grow_below hX)
       exact wp_value (exec_load_mid 30 _ rfl bA (oA + k * 19) e32 x.1.cells _ (range_below hbW HBA.out HXR.out) Try.underlying30 rfl (sizePx _ HXF.out.addr)) (hK _ _ rfl (grown_refl W _))
      ·intro a vs W hX hR he hf K hK
       have e28 : a.eval (.tmp 28) = .bool true := (he 5 28 (by kernel_rfl) rfl).trans (hR 5 (by kernel_rfl))
       refine Eq.mpr (if_pos (by exact (wanted_some rfl rfl e28).trans rfl)) ?_
       have e3 : a.eval (.tmp 3) = .pointer (some ⟨g1, 0, none⟩) := hf 3 (by kernel_rfl)
       have hbW := bthen (below_drew _) (grow_below hX)
       exact wp_value (exec_load 30 _ rfl g1 e3 30 p.cells _ (HP.out.on hbW) Try.underlying30 rfl (sizePx _ HF.out.addr)) (hK _ _ rfl (grown_refl W _))
      ·intro a vs W hX hR he hf K hK
       have e28 : a.eval (.tmp 28) = .bool true := (he 5 28 (by kernel_rfl) rfl).trans (hR 5 (by kernel_rfl))
       refine Eq.mpr (if_pos (by exact (wanted_some rfl rfl e28).trans rfl)) ?_
       have e33 : a.eval (.tmp 33) = .agg x.1.cells.toArray := (he 10 33 (by kernel_rfl) rfl).trans (hR 10 (by kernel_rfl))
       have e34 : a.eval (.tmp 34) = .agg p.cells.toArray := (he 11 34 (by kernel_rfl) rfl).trans (hR 11 (by kernel_rfl))
       exact wp_value (exec_eqPx _ _ _ rfl x.1 p HXF.out.addr HF.out.addr true HEQ.out e33 e34) (hK _ _ rfl (grown_refl W _))
      ·intro a vs W hX hR he hf K hK
       rw [if_pos (wanted_none rfl)]
       have e28 : a.eval (.tmp 28) = .bool true := (he 5 28 (by kernel_rfl) rfl).trans (hR 5 (by kernel_rfl))
       have e35 : a.eval (.tmp 35) = .bool true := (he 12 35 (by kernel_rfl) rfl).trans (hR 12 (by kernel_rfl))
       refine wp_value (v := .bool true) ?_ (hK _ _ rfl (grown_refl W _))
       simp only [execOp, e28, e35]
       try go_simp
      ·intro a vs W hX hR he hf K hK
       rw [if_pos (wanted_none rfl)]
       have e23 : a.eval (.tmp 23) = .int .i64 (k : Int) := (he 0 23 (by kernel_rfl) rfl).trans (hR 0 (by kernel_rfl))
       refine wp_value (v := .int .i64 (k : Int)) ?_ (hK _ _ rfl (grown_refl W _))
       simp only [execOp, e23]
       try go_simp
      ·intro a vs W hX hR he hf K hK
       rw [if_pos (wanted_none rfl)]
       have e36 : a.eval (.tmp 36) = .bool true := (he 13 36 (by kernel_rfl) rfl).trans (hR 13 (by kernel_rfl))
       refine wp_value (v := .bool true) ?_ (hK _ _ rfl (grown_refl W _))
       simp only [execOp, e36]
       try go_simp
      ·intro vs wy hXx hR
       have q0 := hR 0 (by decide)
       have q1 := hR 1 (by decide)
       have q2 := hR 2 (by decide)
       have q3 := hR 3 (by decide)
       have q4 := hR 4 (by decide)
       have q5 := hR 5 (by decide)
       have q6 := hR 6 (by decide)
       have q7 := hR 7 (by decide)
       have q8 := hR 8 (by decide)
       have q9 := hR 9 (by decide)
       have q10 := hR 10 (by decide)
       have q11 := hR 11 (by decide)
       have q12 := hR 12 (by decide)
       have q13 := hR 13 (by decide)
       have q14 := hR 14 (by decide)
       have q15 := hR 15 (by decide)
       change vs 0 = .int .i64 (k : Int) at q0
       change vs 1 = .int .i64 (k : Int) at q1
       change vs 2 = .slice (some ⟨bA, oA, none⟩) n c at q2
       change vs 3 = .int .i64 (n : Int) at q3
       change vs 4 = .bool true at q4
       change vs 5 = .bool true at q5
       change vs 6 = .slice (some ⟨bA, oA, none⟩) n c at q6
       change vs 7 = .int .i64 (k : Int) at q7
       change vs 8 = .pointer (some ⟨bA, oA + k * 19, none⟩) at q8
       change vs 9 = .pointer (some ⟨bA, oA + k * 19, none⟩) at q9
       change vs 10 = .agg x.1.cells.toArray at q10
       change vs 11 = .agg p.cells.toArray at q11
       change vs 12 = .bool true at q12
       change vs 13 = .bool true at q13
       change vs 14 = .int .i64 (k : Int) at q14
       change vs 15 = .bool true at q15
       simp only [putAll, Act.put, List.setIfInBounds_toArray, List.set_cons_zero, List.set_cons_succ, q0, q1, q2, q3, q4, q5, q6, q7, q8, q9, q10, q11, q12, q13, q14, q15]
       clear q0 q1 q2 q3 q4 q5 q6 q7 q8 q9 q10 q11 q12 q13 q14 q15
       clear hR
       replace hBE := Lib.hid (hBE.out.trans ((bthen (below_drew _) (grow_below hXx)).mono hBE.out.size))
       replace HP := Lib.hid (HP.out.on (bthen (below_drew _) (grow_below hXx)))
       replace HW := Lib.hid (bthen HW.out (bthen (below_drew _) (grow_below hXx)))
       replace HXR := Lib.hid (range_below (bthen (below_drew _) (grow_below hXx)) HBA.out HXR.out)
       replace HBA := Lib.hid (Nat.lt_of_lt_of_le HBA.out (bthen (below_drew _) (grow_below hXx)).size)
       clear hXx
       go_wp2_with fail
       go_ret2
       exact ⟨by rw [HCN.out, HHS.out]; rfl, HW.out⟩
    ·have HEQ := Lib.hid (decide_eq_false h2)
     have HHS := Lib.hid (show hasC L p = false by unfold hasC; rw [HCN.out, HGX.out]; exact HEQ.out)
     clear h2
     go_wp2_with fail
     refine wp_region_rel (fun A B => A.grownBy B none) (fun A => grown_refl A _) (fun A B C h k => grown_trans h k) (relAt (List.cons (fun v _ => v = .int .i64 (k : Int)) (List.cons (fun v _ => v = .slice (some ⟨bA, oA, none⟩) n c) (List.cons (fun v _ => v = .int .i64 (n : Int)) (List.cons (fun v _ => v = .bool true) (List.cons (fun v _ => v = .bool true) (List.cons (fun v _ => v = .slice (some ⟨bA, oA, none⟩) n c) (List.cons (fun v _ => v = .int .i64 (k : Int)) (List.cons (fun v _ => v = .pointer (some ⟨bA, oA + k * 19, none⟩)) (List.cons (fun v _ => v = .pointer (some ⟨bA, oA + k * 19, none⟩)) (List.cons (fun v _ => v = .agg x.1.cells.toArray) (List.cons (fun v _ => v = .agg p.cells.toArray) (List.cons (fun v _ => v = .int .i64 (cmpP x.1 p)) (List.cons (fun v _ => v = .bool false) (List.cons (fun v _ => v = .bool false) ([])))))))))))))))) (MonoL.at_ (.cons (mono_val _) (.cons (mono_val _) (.cons (mono_val _) (.cons (mono_val _) (.cons (mono_val _) (.cons (mono_val _) (.cons (mono_val _) (.cons (mono_val _) (.cons (mono_val _) (.cons (mono_val _) (.cons (mono_val _) (.cons (mono_val _) (.cons (mono_val _) (.cons (mono_val _) .nil))))))))))))))) (by kernel_rfl) (by kernel_rfl) ⟨?_, ?_, ?_, ?_, ?_, ?_, ?_, ?_, ?_, ?_, ?_, ?_, ?_, ?_, trivial⟩ ?_
     ·intro a vs W hX hR he hf K hK
      rw [if_pos (wanted_none rfl)]
      have e6 : a.eval (.tmp 6) = .int .i64 (k : Int) := hf 6 (by kernel_rfl)
      refine wp_value (v := .int .i64 (k : Int)) ?_ (hK _ _ rfl (grown_refl W _))
      simp only [execOp, e6]
      try go_simp
     ·intro a vs W hX hR he hf K hK
      rw [if_pos (wanted_none rfl)]
      have e0 : a.eval (.tmp 0) = .slice (some ⟨bA, oA, none⟩) n c := hf 0 (by kernel_rfl)
      refine wp_value (v := .slice (some ⟨bA, oA, none⟩) n c) ?_ (hK _ _ rfl (grown_refl W _))
      simp only [execOp, e0]
      try go_simp
     ·intro a vs W hX hR he hf K hK
      rw [if_pos (wanted_none rfl)]
      have e8 : a.eval (.tmp 8) = .slice (some ⟨bA, oA, none⟩) n c := (he 1 8 (by kernel_rfl) rfl).trans (hR 1 (by kernel_rfl))
      have f8 := e8
      simp only [Act.eval, Array.getD_eq_getD_getElem?] at f8
      refine wp_value (v := .int .i64 (n : Int)) ?_ (hK _ _ rfl (grown_refl W _))
      simp only [execOp, e8]
      try go_simp
     ·intro a vs W hX hR he hf K hK
      rw [if_pos (wanted_none rfl)]
      have e7 : a.eval (.tmp 7) = .int .i64 (k : Int) := (he 0 7 (by kernel_rfl) rfl).trans (hR 0 (by kernel_rfl))
      have e9 : a.eval (.tmp 9) = .int .i64 (n : Int) := (he 2 9 (by kernel_rfl) rfl).trans (hR 2 (by kernel_rfl))
      refine wp_value (v := .bool true) ?_ (hK _ _ rfl (grown_refl W _))
      simp only [execOp, e7, e9]
      try go_simp
     ·intro a vs W hX hR he hf K hK
      rw [if_pos (wanted_none rfl)]
      have e10 : a.eval (.tmp 10) = .bool true := (he 3 10 (by kernel_rfl) rfl).trans (hR 3 (by kernel_rfl))
      refine wp_value (v := .bool true) ?_ (hK _ _ rfl (grown_refl W _))
      simp only [execOp, e10]
      try go_simp
     ·intro a vs W hX hR he hf K hK
      have e11 : a.eval (.tmp 11) = .bool true := (he 4 11 (by kernel_rfl) rfl).trans (hR 4 (by kernel_rfl))
      refine Eq.mpr (if_pos (by exact (wanted_some rfl rfl e11).trans rfl)) ?_
      have e0 : a.eval (.tmp 0) = .slice (some ⟨bA, oA, none⟩) n c := hf 0 (by kernel_rfl)
      refine wp_value (v := .slice (some ⟨bA, oA, none⟩) n c) ?_ (hK _ _ rfl (grown_refl W _))
      simp only [execOp, e0]
      try go_simp
     ·intro a vs W hX hR he hf K hK
      have e11 : a.eval (.tmp 11) = .bool true := (he 4 11 (by kernel_rfl) rfl).trans (hR 4 (by kernel_rfl))
      refine Eq.mpr (if_pos (by exact (wanted_some rfl rfl e11).trans rfl)) ?_
      have e6 : a.eval (.tmp 6) = .int .i64 (k : Int) := hf 6 (by kernel_rfl)
      refine wp_value (v := .int .i64 (k : Int)) ?_ (hK _ _ rfl (grown_refl W _))
      simp only [execOp, e6]
      try go_simp
     ·intro a vs W hX hR he hf K hK
      have e11 : a.eval (.tmp 11) = .bool true := (he 4 11 (by kernel_rfl) rfl).trans (hR 4 (by kernel_rfl))
      refine Eq.mpr (if_pos (by exact (wanted_some rfl rfl e11).trans rfl)) ?_
      have e12 : a.eval (.tmp 12) = .slice (some ⟨bA, oA, none⟩) n c := (he 5 12 (by kernel_rfl) rfl).trans (hR 5 (by kernel_rfl))
      have e13 : a.eval (.tmp 13) = .int .i64 (k : Int) := (he 6 13 (by kernel_rfl) rfl).trans (hR 6 (by kernel_rfl))
      refine wp_value (v := .pointer (some ⟨bA, oA + k * 19, none⟩)) ?_ (hK _ _ rfl (grown_refl W _))
      simp only [execOp, e12, e13]
      go_simp
     ·intro a vs W hX hR he hf K hK
      have e11 : a.eval (.tmp 11) = .bool true := (he 4 11 (by kernel_rfl) rfl).trans (hR 4 (by kernel_rfl))
      refine Eq.mpr (if_pos (by exact (wanted_some rfl rfl e11).trans rfl)) ?_
      have e14 : a.eval (.tmp 14) = .pointer (some ⟨bA, oA + k * 19, none⟩) := (he 7 14 (by kernel_rfl) rfl).trans (hR 7 (by kernel_rfl))
      refine wp_value (v := .pointer (some ⟨bA, oA + k * 19, none⟩)) ?_ (hK _ _ rfl (grown_refl W _))
      simp only [execOp, e14]
      try go_simp
     ·intro a vs W hX hR he hf K hK
      have e11 : a.eval (.tmp 11) = .bool true := (he 4 11 (by kernel_rfl) rfl).trans (hR 4 (by kernel_rfl))
      refine Eq.mpr (if_pos (by exact (wanted_some rfl rfl e11).trans rfl)) ?_
      have e15 : a.eval (.tmp 15) = .pointer (some ⟨bA, oA + k * 19, none⟩) := (he 8 15 (by kernel_rfl) rfl).trans (hR 8 (by kernel_rfl))
      have hbW := bthen (below_drew _) (grow_below hX)
      exact wp_value (exec_load_mid 30 _ rfl bA (oA + k * 19) e15 x.1.cells _ (range_below hbW HBA.out HXR.out) Try.underlying30 rfl (sizePx _ HXF.out.addr)) (hK _ _ rfl (grown_refl W _))
     ·intro a vs W hX hR he hf K hK
      have e11 : a.eval (.tmp 11) = .bool true := (he 4 11 (by kernel_rfl) rfl).trans (hR 4 (by kernel_rfl))
      refine Eq.mpr (if_pos (by exact (wanted_some rfl rfl e11).trans rfl)) ?_
      have e3 : a.eval (.tmp 3) = .pointer (some ⟨g1, 0, none⟩) := hf 3 (by kernel_rfl)
      have hbW := bthen (below_drew _) (grow_below hX)
      exact wp_value (exec_load 30 _ rfl g1 e3 30 p.cells _ (HP.out.on hbW) Try.underlying30 rfl (sizePx _ HF.out.addr)) (hK _ _ rfl (grown_refl W _))
     ·intro a vs W hX hR he hf K hK
      have e11 : a.eval (.tmp 11) = .bool true := (he 4 11 (by kernel_rfl) rfl).trans (hR 4 (by kernel_rfl))
      refine Eq.mpr (if_pos (by exact (wanted_some rfl rfl e11).trans rfl)) ?_
      have e16 : a.eval (.tmp 16) = .agg x.1.cells.toArray := (he 9 16 (by kernel_rfl) rfl).trans (hR 9 (by kernel_rfl))
      have e17 : a.eval (.tmp 17) = .agg p.cells.toArray := (he 10 17 (by kernel_rfl) rfl).trans (hR 10 (by kernel_rfl))
      refine wp_enter (f := 13) (args := #[.agg x.1.cells.toArray, .agg p.cells.toArray]) (by simp only [execOp, e16, e17]; go_simp; exact ⟨by simpa [Act.eval] using e16, by simpa [Act.eval] using e17⟩) ((rcompare_any x.1 HXF.out p HF.out W).mono ?_)
      rintro e w' ⟨rfl, hb⟩
      exact ⟨_, rfl, hK _ _ rfl (below_grow hb _)⟩
     ·intro a vs W hX hR he hf K hK
      have e11 : a.eval (.tmp 11) = .bool true := (he 4 11 (by kernel_rfl) rfl).trans (hR 4 (by kernel_rfl))
      refine Eq.mpr (if_pos (by exact (wanted_some rfl rfl e11).trans rfl)) ?_
      have e18 : a.eval (.tmp 18) = .int .i64 (cmpP x.1 p) := (he 11 18 (by kernel_rfl) rfl).trans (hR 11 (by kernel_rfl))
      refine wp_value (v := .bool false) ?_ (hK _ _ rfl (grown_refl W _))
      simp only [execOp, e18]
      have h9 := HCM.out
      go_simp
     ·intro a vs W hX hR he hf K hK
      rw [if_pos (wanted_none rfl)]
      have e11 : a.eval (.tmp 11) = .bool true := (he 4 11 (by kernel_rfl) rfl).trans (hR 4 (by kernel_rfl))
      have e19 : a.eval (.tmp 19) = .bool false := (he 12 19 (by kernel_rfl) rfl).trans (hR 12 (by kernel_rfl))
      refine wp_value (v := .bool false) ?_ (hK _ _ rfl (grown_refl W _))
      simp only [execOp, e11, e19]
      try go_simp
     ·intro vs wx hXx hR
      have q0 := hR 0 (by decide)
      have q1 := hR 1 (by decide)
      have q2 := hR 2 (by decide)
      have q3 := hR 3 (by decide)
      have q4 := hR 4 (by decide)
      have q5 := hR 5 (by decide)
      have q6 := hR 6 (by decide)
      have q7 := hR 7 (by decide)
      have q8 := hR 8 (by decide)
      have q9 := hR 9 (by decide)
      have q10 := hR 10 (by decide)
      have q11 := hR 11 (by decide)
      have q12 := hR 12 (by decide)
      have q13 := hR 13 (by decide)
      change vs 0 = .int .i64 (k : Int) at q0
      change vs 1 = .slice (some ⟨bA, oA, none⟩) n c at q1
      change vs 2 = .int .i64 (n : Int) at q2
      change vs 3 = .bool true at q3
      change vs 4 = .bool true at q4
      change vs 5 = .slice (some ⟨bA, oA, none⟩) n c at q5
      change vs 6 = .int .i64 (k : Int) at q6
      change vs 7 = .pointer (some ⟨bA, oA + k * 19, none⟩) at q7
      change vs 8 = .pointer (some ⟨bA, oA + k * 19, none⟩) at q8
      change vs 9 = .agg x.1.cells.toArray at q9
      change vs 10 = .agg p.cells.toArray at q10
      change vs 11 = .int .i64 (cmpP x.1 p) at q11
      change vs 12 = .bool false at q12
      change vs 13 = .bool false at q13
      simp only [putAll, Act.put, List.setIfInBounds_toArray, List.set_cons_zero, List.set_cons_succ, q0, q1, q2, q3, q4, q5, q6, q7, q8, q9, q10, q11, q12, q13]
      clear q0 q1 q2 q3 q4 q5 q6 q7 q8 q9 q10 q11 q12 q13
      clear hR
      replace hBE := Lib.hid (hBE.out.trans ((bthen (below_drew _) (grow_below hXx)).mono hBE.out.size))
      replace HP := Lib.hid (HP.out.on (bthen (below_drew _) (grow_below hXx)))
      replace HW := Lib.hid (bthen HW.out (bthen (below_drew _) (grow_below hXx)))
      replace HXR := Lib.hid (range_below (bthen (below_drew _) (grow_below hXx)) HBA.out HXR.out)
      replace HBA := Lib.hid (Nat.lt_of_lt_of_le HBA.out (bthen (below_drew _) (grow_below hXx)).size)
      clear hXx
      go_wp2_with fail
      refine wp_region_rel (fun A B => A.grownBy B none) (fun A => grown_refl A _) (fun A B C h k => grown_trans h k) (relAt (List.cons (fun v _ => v = .int .i64 (k : Int)) (List.cons (fun v _ => v = .int .i64 (k : Int)) (List.cons (fun v _ => v = .slice (some ⟨bA, oA, none⟩) n c) (List.cons (fun v _ => v = .int .i64 (n : Int)) (List.cons (fun v _ => v = .bool true) (List.cons (fun v _ => v = .bool true) (List.cons (fun v _ => v = .slice (some ⟨bA, oA, none⟩) n c) (List.cons (fun v _ => v = .int .i64 (k : Int)) (List.cons (fun v _ => v = .pointer (some ⟨bA, oA + k * 19, none⟩)) (List.cons (fun v _ => v = .pointer (some ⟨bA, oA + k * 19, none⟩)) (List.cons (fun v _ => v = .agg x.1.cells.toArray) (List.cons (fun v _ => v = .agg p.cells.toArray) (List.cons (fun v _ => v = .bool false) (List.cons (fun v _ => v = .bool false) (List.cons (fun v _ => v = .int .i64 (k : Int)) (List.cons (fun v _ => v = .bool false) ([])))))))))))))))))) (MonoL.at_ (.cons (mono_val _) (.cons (mono_val _) (.cons (mono_val _) (.cons (mono_val _) (.cons (mono_val _) (.cons (mono_val _) (.cons (mono_val _) (.cons (mono_val _) (.cons (mono_val _) (.cons (mono_val _) (.cons (mono_val _) (.cons (mono_val _) (.cons (mono_val _) (.cons (mono_val _) (.cons (mono_val _) (.cons (mono_val _) .nil))))))))))))))))) (by kernel_rfl) (by kernel_rfl) ⟨?_, ?_, ?_, ?_, ?_, ?_, ?_, ?_, ?_, ?_, ?_, ?_, ?_, ?_, ?_, ?_, trivial⟩ ?_
      ·intro a vs W hX hR he hf K hK
       rw [if_pos (wanted_none rfl)]
       have e6 : a.eval (.tmp 6) = .int .i64 (k : Int) := hf 6 (by kernel_rfl)
       refine wp_value (v := .int .i64 (k : Int)) ?_ (hK _ _ rfl (grown_refl W _))
       simp only [execOp, e6]
       try go_simp
      ·intro a vs W hX hR he hf K hK
       rw [if_pos (wanted_none rfl)]
       have e6 : a.eval (.tmp 6) = .int .i64 (k : Int) := hf 6 (by kernel_rfl)
       refine wp_value (v := .int .i64 (k : Int)) ?_ (hK _ _ rfl (grown_refl W _))
       simp only [execOp, e6]
       try go_simp
      ·intro a vs W hX hR he hf K hK
       rw [if_pos (wanted_none rfl)]
       have e0 : a.eval (.tmp 0) = .slice (some ⟨bA, oA, none⟩) n c := hf 0 (by kernel_rfl)
       refine wp_value (v := .slice (some ⟨bA, oA, none⟩) n c) ?_ (hK _ _ rfl (grown_refl W _))
       simp only [execOp, e0]
       try go_simp
      ·intro a vs W hX hR he hf K hK
       rw [if_pos (wanted_none rfl)]
       have e25 : a.eval (.tmp 25) = .slice (some ⟨bA, oA, none⟩) n c := (he 2 25 (by kernel_rfl) rfl).trans (hR 2 (by kernel_rfl))
       have f25 := e25
       simp only [Act.eval, Array.getD_eq_getD_getElem?] at f25
       refine wp_value (v := .int .i64 (n : Int)) ?_ (hK _ _ rfl (grown_refl W _))
       simp only [execOp, e25]
       try go_simp
      ·intro a vs W hX hR he hf K hK
       rw [if_pos (wanted_none rfl)]
       have e24 : a.eval (.tmp 24) = .int .i64 (k : Int) := (he 1 24 (by kernel_rfl) rfl).trans (hR 1 (by kernel_rfl))
       have e26 : a.eval (.tmp 26) = .int .i64 (n : Int) := (he 3 26 (by kernel_rfl) rfl).trans (hR 3 (by kernel_rfl))
       refine wp_value (v := .bool true) ?_ (hK _ _ rfl (grown_refl W _))
       simp only [execOp, e24, e26]
       try go_simp
      ·intro a vs W hX hR he hf K hK
       rw [if_pos (wanted_none rfl)]
       have e27 : a.eval (.tmp 27) = .bool true := (he 4 27 (by kernel_rfl) rfl).trans (hR 4 (by kernel_rfl))
       refine wp_value (v := .bool true) ?_ (hK _ _ rfl (grown_refl W _))
       simp only [execOp, e27]
       try go_simp
      ·intro a vs W hX hR he hf K hK
       have e28 : a.eval (.tmp 28) = .bool true := (he 5 28 (by kernel_rfl) rfl).trans (hR 5 (by kernel_rfl))
       refine Eq.mpr (if_pos (by exact (wanted_some rfl rfl e28).trans rfl)) ?_
       have e0 : a.eval (.tmp 0) = .slice (some ⟨bA, oA, none⟩) n c := hf 0 (by kernel_rfl)
       refine wp_value (v := .slice (some ⟨bA, oA, none⟩) n c) ?_ (hK _ _ rfl (grown_refl W _))
       simp only [execOp, e0]
       try go_simp
      ·intro a vs W hX hR he hf K hK
       have e28 : a.eval (.tmp 28) = .bool true := (he 5 28 (by kernel_rfl) rfl).trans (hR 5 (by kernel_rfl))
       refine Eq.mpr (if_pos (by exact (wanted_some rfl rfl e28).trans rfl)) ?_
       have e6 : a.eval (.tmp 6) = .int .i64 (k : Int) := hf 6 (by kernel_rfl)
       refine wp_value (v := .int .i64 (k : Int)) ?_ (hK _ _ rfl (grown_refl W _))
       simp only [execOp, e6]
       try go_simp
      ·intro a vs W hX hR he hf K hK
       have e28 : a.eval (.tmp 28) = .bool true := (he 5 28 (by kernel_rfl) rfl).trans (hR 5 (by kernel_rfl))
       refine Eq.mpr (if_pos (by exact (wanted_some rfl rfl e28).trans rfl)) ?_
       have e29 : a.eval (.tmp 29) = .slice (some ⟨bA, oA, none⟩) n c := (he 6 29 (by kernel_rfl) rfl).trans (hR 6 (by kernel_rfl))
       have e30 : a.eval (.tmp 30) = .int .i64 (k : Int) := (he 7 30 (by kernel_rfl) rfl).trans (hR 7 (by kernel_rfl))
       refine wp_value (v := .pointer (some ⟨bA, oA + k * 19, none⟩)) ?_ (hK _ _ rfl (grown_refl W _))
       simp only [execOp, e29, e30]
       go_simp
      ·intro a vs W hX hR he hf K hK
       have e28 : a.eval (.tmp 28) = .bool true := (he 5 28 (by kernel_rfl) rfl).trans (hR 5 (by kernel_rfl))
       refine Eq.mpr (if_pos (by exact (wanted_some rfl rfl e28).trans rfl)) ?_
       have e31 : a.eval (.tmp 31) = .pointer (some ⟨bA, oA + k * 19, none⟩) := (he 8 31 (by kernel_rfl) rfl).trans (hR 8 (by kernel_rfl))
       refine wp_value (v := .pointer (some ⟨bA, oA + k * 19, none⟩)) ?_ (hK _ _ rfl (grown_refl W _))
       simp only [execOp, e31]
       try go_simp
      ·intro a vs W hX hR he hf K hK
       have e28 : a.eval (.tmp 28) = .bool true := (he 5 28 (by kernel_rfl) rfl).trans (hR 5 (by kernel_rfl))
       refine Eq.mpr (if_pos (by exact (wanted_some rfl rfl e28).trans rfl)) ?_
       have e32 : a.eval (.tmp 32) = .pointer (some ⟨bA, oA + k * 19, none⟩) := (he 9 32 (by kernel_rfl) rfl).trans (hR 9 (by kernel_rfl))
       have hbW := bthen (below_drew _) (grow_below hX)
       exact wp_value (exec_load_mid 30 _ rfl bA (oA + k * 19) e32 x.1.cells _ (range_below hbW HBA.out HXR.out) Try.underlying30 rfl (sizePx _ HXF.out.addr)) (hK _ _ rfl (grown_refl W _))
      ·intro a vs W hX hR he hf K hK
       have e28 : a.eval (.tmp 28) = .bool true := (he 5 28 (by kernel_rfl) rfl).trans (hR 5 (by kernel_rfl))
       refine Eq.mpr (if_pos (by exact (wanted_some rfl rfl e28).trans rfl)) ?_
       have e3 : a.eval (.tmp 3) = .pointer (some ⟨g1, 0, none⟩) := hf 3 (by kernel_rfl)
       have hbW := bthen (below_drew _) (grow_below hX)
       exact wp_value (exec_load 30 _ rfl g1 e3 30 p.cells _ (HP.out.on hbW) Try.underlying30 rfl (sizePx _ HF.out.addr)) (hK _ _ rfl (grown_refl W _))
      ·intro a vs W hX hR he hf K hK
       have e28 : a.eval (.tmp 28) = .bool true := (he 5 28 (by kernel_rfl) rfl).trans (hR 5 (by kernel_rfl))
       refine Eq.mpr (if_pos (by exact (wanted_some rfl rfl e28).trans rfl)) ?_
       have e33 : a.eval (.tmp 33) = .agg x.1.cells.toArray := (he 10 33 (by kernel_rfl) rfl).trans (hR 10 (by kernel_rfl))
       have e34 : a.eval (.tmp 34) = .agg p.cells.toArray := (he 11 34 (by kernel_rfl) rfl).trans (hR 11 (by kernel_rfl))
       exact wp_value (exec_eqPx _ _ _ rfl x.1 p HXF.out.addr HF.out.addr false HEQ.out e33 e34) (hK _ _ rfl (grown_refl W _))
      ·intro a vs W hX hR he hf K hK
       rw [if_pos (wanted_none rfl)]
       have e28 : a.eval (.tmp 28) = .bool true := (he 5 28 (by kernel_rfl) rfl).trans (hR 5 (by kernel_rfl))
       have e35 : a.eval (.tmp 35) = .bool false := (he 12 35 (by kernel_rfl) rfl).trans (hR 12 (by kernel_rfl))
       refine wp_value (v := .bool false) ?_ (hK _ _ rfl (grown_refl W _))
       simp only [execOp, e28, e35]
       try go_simp
      ·intro a vs W hX hR he hf K hK
       rw [if_pos (wanted_none rfl)]
       have e23 : a.eval (.tmp 23) = .int .i64 (k : Int) := (he 0 23 (by kernel_rfl) rfl).trans (hR 0 (by kernel_rfl))
       refine wp_value (v := .int .i64 (k : Int)) ?_ (hK _ _ rfl (grown_refl W _))
       simp only [execOp, e23]
       try go_simp
      ·intro a vs W hX hR he hf K hK
       rw [if_pos (wanted_none rfl)]
       have e36 : a.eval (.tmp 36) = .bool false := (he 13 36 (by kernel_rfl) rfl).trans (hR 13 (by kernel_rfl))
       refine wp_value (v := .bool false) ?_ (hK _ _ rfl (grown_refl W _))
       simp only [execOp, e36]
       try go_simp
      ·intro vs wy hXx hR
       have q0 := hR 0 (by decide)
       have q1 := hR 1 (by decide)
       have q2 := hR 2 (by decide)
       have q3 := hR 3 (by decide)
       have q4 := hR 4 (by decide)
       have q5 := hR 5 (by decide)
       have q6 := hR 6 (by decide)
       have q7 := hR 7 (by decide)
       have q8 := hR 8 (by decide)
       have q9 := hR 9 (by decide)
       have q10 := hR 10 (by decide)
       have q11 := hR 11 (by decide)
       have q12 := hR 12 (by decide)
       have q13 := hR 13 (by decide)
       have q14 := hR 14 (by decide)
       have q15 := hR 15 (by decide)
       change vs 0 = .int .i64 (k : Int) at q0
       change vs 1 = .int .i64 (k : Int) at q1
       change vs 2 = .slice (some ⟨bA, oA, none⟩) n c at q2
       change vs 3 = .int .i64 (n : Int) at q3
       change vs 4 = .bool true at q4
       change vs 5 = .bool true at q5
       change vs 6 = .slice (some ⟨bA, oA, none⟩) n c at q6
       change vs 7 = .int .i64 (k : Int) at q7
       change vs 8 = .pointer (some ⟨bA, oA + k * 19, none⟩) at q8
       change vs 9 = .pointer (some ⟨bA, oA + k * 19, none⟩) at q9
       change vs 10 = .agg x.1.cells.toArray at q10
       change vs 11 = .agg p.cells.toArray at q11
       change vs 12 = .bool false at q12
       change vs 13 = .bool false at q13
       change vs 14 = .int .i64 (k : Int) at q14
       change vs 15 = .bool false at q15
       simp only [putAll, Act.put, List.setIfInBounds_toArray, List.set_cons_zero, List.set_cons_succ, q0, q1, q2, q3, q4, q5, q6, q7, q8, q9, q10, q11, q12, q13, q14, q15]
       clear q0 q1 q2 q3 q4 q5 q6 q7 q8 q9 q10 q11 q12 q13 q14 q15
       clear hR
       replace hBE := Lib.hid (hBE.out.trans ((bthen (below_drew _) (grow_below hXx)).mono hBE.out.size))
       replace HP := Lib.hid (HP.out.on (bthen (below_drew _) (grow_below hXx)))
       replace HW := Lib.hid (bthen HW.out (bthen (below_drew _) (grow_below hXx)))
       replace HXR := Lib.hid (range_below (bthen (below_drew _) (grow_below hXx)) HBA.out HXR.out)
       replace HBA := Lib.hid (Nat.lt_of_lt_of_le HBA.out (bthen (below_drew _) (grow_below hXx)).size)
       clear hXx
       go_wp2_with fail
       go_ret2
       exact ⟨by rw [HCN.out, HHS.out]; rfl, HW.out⟩
  ·obtain rfl : k = n := by have := HLN.out; omega
   have HGX := Lib.hid (show L[k]? = none from List.getElem?_eq_none (by rw [HLN.out]; omega))
   have HCN := Lib.hid (show cntC L p = k from cntC_go L p k HJ.out hk (fun y hy => by rw [HGX.out] at hy; cases hy))
   have HHS := Lib.hid (show hasC L p = false by unfold hasC; rw [HCN.out, HGX.out])
   go_wp2_with fail
   refine wp_region_rel (fun A B => A.grownBy B none) (fun A => grown_refl A _) (fun A B C h k => grown_trans h k) (relAt (List.cons (fun v _ => v = .int .i64 (k : Int)) (List.cons (fun v _ => v = .slice A k c) (List.cons (fun v _ => v = .int .i64 (k : Int)) (List.cons (fun v _ => v = .bool false) (List.cons (fun v _ => v = .bool false) (List.cons (fun v _ => v = undef) (List.cons (fun v _ => v = undef) (List.cons (fun v _ => v = undef) (List.cons (fun v _ => v = undef) (List.cons (fun v _ => v = undef) (List.cons (fun v _ => v = undef) (List.cons (fun v _ => v = undef) (List.cons (fun v _ => v = undef) (List.cons (fun v _ => v = .bool false) ([])))))))))))))))) (MonoL.at_ (.cons (mono_val _) (.cons (mono_val _) (.cons (mono_val _) (.cons (mono_val _) (.cons (mono_val _) (.cons (mono_val _) (.cons (mono_val _) (.cons (mono_val _) (.cons (mono_val _) (.cons (mono_val _) (.cons (mono_val _) (.cons (mono_val _) (.cons (mono_val _) (.cons (mono_val _) .nil))))))))))))))) (by kernel_rfl) (by kernel_rfl) ⟨?_, ?_, ?_, ?_, ?_, ?_, ?_, ?_, ?_, ?_, ?_, ?_, ?_, ?_, trivial⟩ ?_
   ·intro a vs W hX hR he hf K hK
    rw [if_pos (wanted_none rfl)]
    have e6 : a.eval (.tmp 6) = .int .i64 (k : Int) := hf 6 (by kernel_rfl)
    refine wp_value (v := .int .i64 (k : Int)) ?_ (hK _ _ rfl (grown_refl W _))
    simp only [execOp, e6]
    try go_simp
   ·intro a vs W hX hR he hf K hK
    rw [if_pos (wanted_none rfl)]
    have e0 : a.eval (.tmp 0) = .slice A k c := hf 0 (by kernel_rfl)
    refine wp_value (v := .slice A k c) ?_ (hK _ _ rfl (grown_refl W _))
    simp only [execOp, e0]
    try go_simp
   ·intro a vs W hX hR he hf K hK
    rw [if_pos (wanted_none rfl)]
    have e8 : a.eval (.tmp 8) = .slice A k c := (he 1 8 (by kernel_rfl) rfl).trans (hR 1 (by kernel_rfl))
    have f8 := e8
    simp only [Act.eval, Array.getD_eq_getD_getElem?] at f8
    refine wp_value (v := .int .i64 (k : Int)) ?_ (hK _ _ rfl (grown_refl W _))
    simp only [execOp, e8]
    try go_simp
   ·intro a vs W hX hR he hf K hK
    rw [if_pos (wanted_none rfl)]
    have e7 : a.eval (.tmp 7) = .int .i64 (k : Int) := (he 0 7 (by kernel_rfl) rfl).trans (hR 0 (by kernel_rfl))
    have e9 : a.eval (.tmp 9) = .int .i64 (k : Int) := (he 2 9 (by kernel_rfl) rfl).trans (hR 2 (by kernel_rfl))
    refine wp_value (v := .bool false) ?_ (hK _ _ rfl (grown_refl W _))
    simp only [execOp, e7, e9]
    try go_simp
   ·intro a vs W hX hR he hf K hK
    rw [if_pos (wanted_none rfl)]
    have e10 : a.eval (.tmp 10) = .bool false := (he 3 10 (by kernel_rfl) rfl).trans (hR 3 (by kernel_rfl))
    refine wp_value (v := .bool false) ?_ (hK _ _ rfl (grown_refl W _))
    simp only [execOp, e10]
    try go_simp
   ·intro a vs W hX hR he hf K hK
    have e11 : a.eval (.tmp 11) = .bool false := (he 4 11 (by kernel_rfl) rfl).trans (hR 4 (by kernel_rfl))
    refine Eq.mpr (if_neg (fun hz => Bool.false_ne_true (Eq.trans (by exact Eq.symm ((wanted_some rfl rfl e11).trans rfl)) hz))) ?_
    exact hK _ _ rfl (grown_refl W _)
   ·intro a vs W hX hR he hf K hK
    have e11 : a.eval (.tmp 11) = .bool false := (he 4 11 (by kernel_rfl) rfl).trans (hR 4 (by kernel_rfl))
    refine Eq.mpr (if_neg (fun hz => Bool.false_ne_true (Eq.trans (by exact Eq.symm ((wanted_some rfl rfl e11).trans rfl)) hz))) ?_
    exact hK _ _ rfl (grown_refl W _)
   ·intro a vs W hX hR he hf K hK
    have e11 : a.eval (.tmp 11) = .bool false := (he 4 11 (by kernel_rfl) rfl).trans (hR 4 (by kernel_rfl))
    refine Eq.mpr (if_neg (fun hz => Bool.false_ne_true (Eq.trans (by exact Eq.symm ((wanted_some rfl rfl e11).trans rfl)) hz))) ?_
    exact hK _ _ rfl (grown_refl W _)
   ·intro a vs W hX hR he hf K hK
    have e11 : a.eval (.tmp 11) = .bool false := (he 4 11 (by kernel_rfl) rfl).trans (hR 4 (by kernel_rfl))
    refine Eq.mpr (if_neg (fun hz => Bool.false_ne_true (Eq.trans (by exact Eq.symm ((wanted_some rfl rfl e11).trans rfl)) hz))) ?_
    exact hK _ _ rfl (grown_refl W _)
   ·intro a vs W hX hR he hf K hK
    have e11 : a.eval (.tmp 11) = .bool false := (he 4 11 (by kernel_rfl) rfl).trans (hR 4 (by kernel_rfl))
    refine Eq.mpr (if_neg (fun hz => Bool.false_ne_true (Eq.trans (by exact Eq.symm ((wanted_some rfl rfl e11).trans rfl)) hz))) ?_
    exact hK _ _ rfl (grown_refl W _)
   ·intro a vs W hX hR he hf K hK
    have e11 : a.eval (.tmp 11) = .bool false := (he 4 11 (by kernel_rfl) rfl).trans (hR 4 (by kernel_rfl))
    refine Eq.mpr (if_neg (fun hz => Bool.false_ne_true (Eq.trans (by exact Eq.symm ((wanted_some rfl rfl e11).trans rfl)) hz))) ?_
    exact hK _ _ rfl (grown_refl W _)
   ·intro a vs W hX hR he hf K hK
    have e11 : a.eval (.tmp 11) = .bool false := (he 4 11 (by kernel_rfl) rfl).trans (hR 4 (by kernel_rfl))
    refine Eq.mpr (if_neg (fun hz => Bool.false_ne_true (Eq.trans (by exact Eq.symm ((wanted_some rfl rfl e11).trans rfl)) hz))) ?_
    exact hK _ _ rfl (grown_refl W _)
   ·intro a vs W hX hR he hf K hK
    have e11 : a.eval (.tmp 11) = .bool false := (he 4 11 (by kernel_rfl) rfl).trans (hR 4 (by kernel_rfl))
    refine Eq.mpr (if_neg (fun hz => Bool.false_ne_true (Eq.trans (by exact Eq.symm ((wanted_some rfl rfl e11).trans rfl)) hz))) ?_
    exact hK _ _ rfl (grown_refl W _)
   ·intro a vs W hX hR he hf K hK
    rw [if_pos (wanted_none rfl)]
    have e11 : a.eval (.tmp 11) = .bool false := (he 4 11 (by kernel_rfl) rfl).trans (hR 4 (by kernel_rfl))
    have e19 : a.eval (.tmp 19) = undef := (he 12 19 (by kernel_rfl) rfl).trans (hR 12 (by kernel_rfl))
    refine wp_value (v := .bool false) ?_ (hK _ _ rfl (grown_refl W _))
    simp only [execOp, e11, e19]
    try go_simp
   ·intro vs wx hXx hR
    have q0 := hR 0 (by decide)
    have q1 := hR 1 (by decide)
    have q2 := hR 2 (by decide)
    have q3 := hR 3 (by decide)
    have q4 := hR 4 (by decide)
    have q5 := hR 5 (by decide)
    have q6 := hR 6 (by decide)
    have q7 := hR 7 (by decide)
    have q8 := hR 8 (by decide)
    have q9 := hR 9 (by decide)
    have q10 := hR 10 (by decide)
    have q11 := hR 11 (by decide)
    have q12 := hR 12 (by decide)
    have q13 := hR 13 (by decide)
    change vs 0 = .int .i64 (k : Int) at q0
    change vs 1 = .slice A k c at q1
    change vs 2 = .int .i64 (k : Int) at q2
    change vs 3 = .bool false at q3
    change vs 4 = .bool false at q4
    change vs 5 = undef at q5
    change vs 6 = undef at q6
    change vs 7 = undef at q7
    change vs 8 = undef at q8
    change vs 9 = undef at q9
    change vs 10 = undef at q10
    change vs 11 = undef at q11
    change vs 12 = undef at q12
    change vs 13 = .bool false at q13
    simp only [putAll, Act.put, List.setIfInBounds_toArray, List.set_cons_zero, List.set_cons_succ, q0, q1, q2, q3, q4, q5, q6, q7, q8, q9, q10, q11, q12, q13]
    clear q0 q1 q2 q3 q4 q5 q6 q7 q8 q9 q10 q11 q12 q13
    clear hR
    replace hBE := Lib.hid (hBE.out.trans ((bthen (below_drew _) (grow_below hXx)).mono hBE.out.size))
    replace HP := Lib.hid (HP.out.on (bthen (below_drew _) (grow_below hXx)))
    replace HW := Lib.hid (bthen HW.out (bthen (below_drew _) (grow_below hXx)))
    clear hXx
    go_wp2_with fail
    refine wp_region_rel (fun A B => A.grownBy B none) (fun A => grown_refl A _) (fun A B C h k => grown_trans h k) (relAt (List.cons (fun v _ => v = .int .i64 (k : Int)) (List.cons (fun v _ => v = .int .i64 (k : Int)) (List.cons (fun v _ => v = .slice A k c) (List.cons (fun v _ => v = .int .i64 (k : Int)) (List.cons (fun v _ => v = .bool false) (List.cons (fun v _ => v = .bool false) (List.cons (fun v _ => v = undef) (List.cons (fun v _ => v = undef) (List.cons (fun v _ => v = undef) (List.cons (fun v _ => v = undef) (List.cons (fun v _ => v = undef) (List.cons (fun v _ => v = undef) (List.cons (fun v _ => v = undef) (List.cons (fun v _ => v = .bool false) (List.cons (fun v _ => v = .int .i64 (k : Int)) (List.cons (fun v _ => v = .bool false) ([])))))))))))))))))) (MonoL.at_ (.cons (mono_val _) (.cons (mono_val _) (.cons (mono_val _) (.cons (mono_val _) (.cons (mono_val _) (.cons (mono_val _) (.cons (mono_val _) (.cons (mono_val _) (.cons (mono_val _) (.cons (mono_val _) (.cons (mono_val _) (.cons (mono_val _) (.cons (mono_val _) (.cons (mono_val _) (.cons (mono_val _) (.cons (mono_val _) .nil))))))))))))))))) (by kernel_rfl) (by kernel_rfl) ⟨?_, ?_, ?_, ?_, ?_, ?_, ?_, ?_, ?_, ?_, ?_, ?_, ?_, ?_, ?_, ?_, trivial⟩ ?_
    ·intro a vs W hX hR he hf K hK
     rw [if_pos (wanted_none rfl)]
     have e6 : a.eval (.tmp 6) = .int .i64 (k : Int) := hf 6 (by kernel_rfl)
     refine wp_value (v := .int .i64 (k : Int)) ?_ (hK _ _ rfl (grown_refl W _))
     simp only [execOp, e6]
     try go_simp
    ·intro a vs W hX hR he hf K hK
     rw [if_pos (wanted_none rfl)]
     have e6 : a.eval (.tmp 6) = .int .i64 (k : Int) := hf 6 (by kernel_rfl)
     refine wp_value (v := .int .i64 (k : Int)) ?_ (hK _ _ rfl (grown_refl W _))
     simp only [execOp, e6]
     try go_simp
    ·intro a vs W hX hR he hf K hK
     rw [if_pos (wanted_none rfl)]
     have e0 : a.eval (.tmp 0) = .slice A k c := hf 0 (by kernel_rfl)
     refine wp_value (v := .slice A k c) ?_ (hK _ _ rfl (grown_refl W _))
     simp only [execOp, e0]
     try go_simp
    ·intro a vs W hX hR he hf K hK
     rw [if_pos (wanted_none rfl)]
     have e25 : a.eval (.tmp 25) = .slice A k c := (he 2 25 (by kernel_rfl) rfl).trans (hR 2 (by kernel_rfl))
     have f25 := e25
     simp only [Act.eval, Array.getD_eq_getD_getElem?] at f25
     refine wp_value (v := .int .i64 (k : Int)) ?_ (hK _ _ rfl (grown_refl W _))
     simp only [execOp, e25]
     try go_simp
    ·intro a vs W hX hR he hf K hK
     rw [if_pos (wanted_none rfl)]
     have e24 : a.eval (.tmp 24) = .int .i64 (k : Int) := (he 1 24 (by kernel_rfl) rfl).trans (hR 1 (by kernel_rfl))
     have e26 : a.eval (.tmp 26) = .int .i64 (k : Int) := (he 3 26 (by kernel_rfl) rfl).trans (hR 3 (by kernel_rfl))
     refine wp_value (v := .bool false) ?_ (hK _ _ rfl (grown_refl W _))
     simp only [execOp, e24, e26]
     try go_simp
    ·intro a vs W hX hR he hf K hK
     rw [if_pos (wanted_none rfl)]
     have e27 : a.eval (.tmp 27) = .bool false := (he 4 27 (by kernel_rfl) rfl).trans (hR 4 (by kernel_rfl))
     refine wp_value (v := .bool false) ?_ (hK _ _ rfl (grown_refl W _))
     simp only [execOp, e27]
     try go_simp
    ·intro a vs W hX hR he hf K hK
     have e28 : a.eval (.tmp 28) = .bool false := (he 5 28 (by kernel_rfl) rfl).trans (hR 5 (by kernel_rfl))
     refine Eq.mpr (if_neg (fun hz => Bool.false_ne_true (Eq.trans (by exact Eq.symm ((wanted_some rfl rfl e28).trans rfl)) hz))) ?_
     exact hK _ _ rfl (grown_refl W _)
    ·intro a vs W hX hR he hf K hK
     have e28 : a.eval (.tmp 28) = .bool false := (he 5 28 (by kernel_rfl) rfl).trans (hR 5 (by kernel_rfl))
     refine Eq.mpr (if_neg (fun hz => Bool.false_ne_true (Eq.trans (by exact Eq.symm ((wanted_some rfl rfl e28).trans rfl)) hz))) ?_
     exact hK _ _ rfl (grown_refl W _)
    ·intro a vs W hX hR he hf K hK
     have e28 : a.eval (.tmp 28) = .bool false := (he 5 28 (by kernel_rfl) rfl).trans (hR 5 (by kernel_rfl))
     refine Eq.mpr (if_neg (fun hz => Bool.false_ne_true (Eq.trans (by exact Eq.symm ((wanted_some rfl rfl e28).trans rfl)) hz))) ?_
     exact hK _ _ rfl (grown_refl W _)
    ·intro a vs W hX hR he hf K hK
     have e28 : a.eval (.tmp 28) = .bool false := (he 5 28 (by kernel_rfl) rfl).trans (hR 5 (by kernel_rfl))
     refine Eq.mpr (if_neg (fun hz => Bool.false_ne_true (Eq.trans (by exact Eq.symm ((wanted_some rfl rfl e28).trans rfl)) hz))) ?_
     exact hK _ _ rfl (grown_refl W _)
    ·intro a vs W hX hR he hf K hK
     have e28 : a.eval (.tmp 28) = .bool false := (he 5 28 (by kernel_rfl) rfl).trans (hR 5 (by kernel_rfl))
     refine Eq.mpr (if_neg (fun hz => Bool.false_ne_true (Eq.trans (by exact Eq.symm ((wanted_some rfl rfl e28).trans rfl)) hz))) ?_
     exact hK _ _ rfl (grown_refl W _)
    ·intro a vs W hX hR he hf K hK
     have e28 : a.eval (.tmp 28) = .bool false := (he 5 28 (by kernel_rfl) rfl).trans (hR 5 (by kernel_rfl))
     refine Eq.mpr (if_neg (fun hz => Bool.false_ne_true (Eq.trans (by exact Eq.symm ((wanted_some rfl rfl e28).trans rfl)) hz))) ?_
     exact hK _ _ rfl (grown_refl W _)
    ·intro a vs W hX hR he hf K hK
     have e28 : a.eval (.tmp 28) = .bool false := (he 5 28 (by kernel_rfl) rfl).trans (hR 5 (by kernel_rfl))
     refine Eq.mpr (if_neg (fun hz => Bool.false_ne_true (Eq.trans (by exact Eq.symm ((wanted_some rfl rfl e28).trans rfl)) hz))) ?_
     exact hK _ _ rfl (grown_refl W _)
    ·intro a vs W hX hR he hf K hK
     rw [if_pos (wanted_none rfl)]
     have e28 : a.eval (.tmp 28) = .bool false := (he 5 28 (by kernel_rfl) rfl).trans (hR 5 (by kernel_rfl))
     have e35 : a.eval (.tmp 35) = undef := (he 12 35 (by kernel_rfl) rfl).trans (hR 12 (by kernel_rfl))
     refine wp_value (v := .bool false) ?_ (hK _ _ rfl (grown_refl W _))
     simp only [execOp, e28, e35]
     try go_simp
    ·intro a vs W hX hR he hf K hK
     rw [if_pos (wanted_none rfl)]
     have e23 : a.eval (.tmp 23) = .int .i64 (k : Int) := (he 0 23 (by kernel_rfl) rfl).trans (hR 0 (by kernel_rfl))
     refine wp_value (v := .int .i64 (k : Int)) ?_ (hK _ _ rfl (grown_refl W _))
     simp only [execOp, e23]
     try go_simp
    ·intro a vs W hX hR he hf K hK
     rw [if_pos (wanted_none rfl)]
     have e36 : a.eval (.tmp 36) = .bool false := (he 13 36 (by kernel_rfl) rfl).trans (hR 13 (by kernel_rfl))
     refine wp_value (v := .bool false) ?_ (hK _ _ rfl (grown_refl W _))
     simp only [execOp, e36]
     try go_simp
    ·intro vs wy hXx hR
     have q0 := hR 0 (by decide)
     have q1 := hR 1 (by decide)
     have q2 := hR 2 (by decide)
     have q3 := hR 3 (by decide)
     have q4 := hR 4 (by decide)
     have q5 := hR 5 (by decide)
     have q6 := hR 6 (by decide)
     have q7 := hR 7 (by decide)
     have q8 := hR 8 (by decide)
     have q9 := hR 9 (by decide)
     have q10 := hR 10 (by decide)
     have q11 := hR 11 (by decide)
     have q12 := hR 12 (by decide)
     have q13 := hR 13 (by decide)
     have q14 := hR 14 (by decide)
     have q15 := hR 15 (by decide)
     change vs 0 = .int .i64 (k : Int) at q0
     change vs 1 = .int .i64 (k : Int) at q1
     change vs 2 = .slice A k c at q2
     change vs 3 = .int .i64 (k : Int) at q3
     change vs 4 = .bool false at q4
     change vs 5 = .bool false at q5
     change vs 6 = undef at q6
     change vs 7 = undef at q7
     change vs 8 = undef at q8
     change vs 9 = undef at q9
     change vs 10 = undef at q10
     change vs 11 = undef at q11
     change vs 12 = undef at q12
     change vs 13 = .bool false at q13
     change vs 14 = .int .i64 (k : Int) at q14
     change vs 15 = .bool false at q15
     simp only [putAll, Act.put, List.setIfInBounds_toArray, List.set_cons_zero, List.set_cons_succ, q0, q1, q2, q3, q4, q5, q6, q7, q8, q9, q10, q11, q12, q13, q14, q15]
     clear q0 q1 q2 q3 q4 q5 q6 q7 q8 q9 q10 q11 q12 q13 q14 q15
     clear hR
     replace hBE := Lib.hid (hBE.out.trans ((bthen (below_drew _) (grow_below hXx)).mono hBE.out.size))
     replace HP := Lib.hid (HP.out.on (bthen (below_drew _) (grow_below hXx)))
     replace HW := Lib.hid (bthen HW.out (bthen (below_drew _) (grow_below hXx)))
     clear hXx
     go_wp2_with fail
     go_ret2
     exact ⟨by rw [HCN.out, HHS.out]; rfl, HW.out⟩
end Go.Proofs.Ytbemhcihmlijaaa


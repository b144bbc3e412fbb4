/- Texts of this claim put together, in build order: each one's own remark stands ahead of it. -/
import Derived.Test.YtdmgomknamdcfaaG02
import Derived.Test.YtdmgomknamdcfaaG08
/- What the reference's Has and Check of prefixes (layer 8) compute. No condition but sizes. -/
namespace Go.Proofs.Ytdmgomknamdcfaa
open Go.RowKit
set_option linter.unusedVariables false
set_option maxRecDepth 20000
set_option linter.unusedSimpArgs false

theorem prefix_bits : ∀ (x y : List Bool), x.length ≤ y.length → (∀ j, j < x.length → sideB x j = sideB y j) → x <+: y
 | [], _, _, _ => List.nil_prefix
 | a :: x, [], h, _ => by simp at h
 | a :: x, b :: y, h, hj => by
  have h0 := hj 0 (by simp)
  have e : a = b := by simpa [sideB] using h0
  exact List.cons_prefix_cons.2 ⟨e, prefix_bits x y (by simpa using h) (fun j hl => by simpa [sideB] using hj (j + 1) (by simpa using hl))⟩
theorem bits_prefix {x y : List Bool} (h : x <+: y) (j : Nat) (hj : j < x.length) : sideB x j = sideB y j := by
 obtain ⟨r, rfl⟩ := h
 unfold sideB
 rw [List.getD_eq_getElem?_getD, List.getD_eq_getElem?_getD, List.getElem?_append_left hj]
theorem bitI_addr {p : Px} (hp : p.good) (ad : List UInt8) (n : Nat) (h1 : n < p.len.toNat) : (bitI p.addr (n : Int) = bitI ad (n : Int)) ↔ sideB p.bits n = sideB (abits ad) n := by
 have l1 := hp.len128
 have e : ∀ a : List UInt8, bitI a (n : Int) = if bitF a n then 1 else 0 := fun a => by
  unfold bitI
  rw [if_pos ⟨by omega, by omega⟩, Int.toNat_natCast]
 rw [e, e, side_addr hp n h1]
 unfold bitF
 cases sideB p.bits n <;> cases sideB (abits ad) n <;> simp
set_option maxHeartbeats 2000000 in
theorem rhas_any (p : Px) (hp : p.good) (ad : List UInt8) (ha : ad.length = 16) (w : World) :
  Calls Try.prog 46 #[.agg p.cells.toArray, .agg (bv ad).toArray] w fun e w' => e = .returned (.bool (hasA p ad)) ∧ Below w.heap.size w w' := by
 have HF := Hh hp.fit
 have HPG := Hh hp
 have HAL := Hh ha
 obtain ⟨m, hm⟩ : ∃ m, m = p.len.toNat := ⟨_, rfl⟩
 have p1 := hp.ge
 have hm128 : m ≤ 128 := by have := hp.len128; omega
 have HM := Hh hm
 have hml : p.len = (m : Int) := by omega
 have HML := Hh hml
 clear hp ha hm p1 hml
 go_enter Try.func46, Try.ntmps46
 go_upto_region 1 with (first
  | (refine wpList_box_blk (by rfl) 30 (.tmp 0) rfl p.cells rfl ?_; intro w1 hb1 hB1 hs1; clear hs1)
  | (refine wpList_box_blk (by rfl) 23 (.tmp 1) rfl (bv ad) rfl ?_; intro w2 hb2 hB2 hs2; clear hs2))
 obtain ⟨g0, hg0⟩ : ∃ g, w.heap.size = g := ⟨_, rfl⟩
 obtain ⟨g1, hg1⟩ : ∃ g, w1.heap.size = g := ⟨_, rfl⟩
 have hk0 := hb1.on hB2
 rw [hg0] at hk0
 rw [hg1] at hb2
 try rw [hg0]
 try rw [hg1]
 have HK0 := Hh hk0
 have HK1 := Hh hb2
 have HW := Hh (bthen hB1 hB2)
 clear hb1 hB1 hb2 hB2 hk0 hg0 hg1
 go_wp2_with fail
 go_loopw [5] (fun i wr => ∃ n : Nat, n ≤ m ∧ i = .int .i64 (n : Nat) ∧ (∀ j, j < n → sideB p.bits j = sideB (abits ad) j) ∧ Below w2.heap.size w2 wr) (fun i _ => m - (intOf i).toNat)
 case atStart => exact ⟨0, by omega, rfl, fun j h => by omega, Below.refl _ _⟩
 case round =>
  obtain ⟨n, hn, rfl, hj, hbe⟩ := hrel
  have HJ := Hh hj
  have hBE := Hh hbe
  replace HK0 := Hh (HK0.out.on hbe)
  replace HK1 := Hh (HK1.out.on hbe)
  replace HW := Hh (bthen HW.out hbe)
  have c2 : wr.cell? ⟨g0, 17, none⟩ = some (.int .i64 (m : Int)) := by rw [← HML.out]; exact (HK0.out.cell 17).trans (p.get_len HF.out.addr)
  have hn128 : n ≤ 128 := by omega
  clear hj hbe
  by_cases hlt : n < m
  ·have hli : (n : Int) < (m : Int) := by omega
   have hn7 : (n : Int) < 128 := by omega
   have HBI := Hh (bitI_addr HPG.out ad n (by have := HM.out; omega))
   by_cases hbit : bitI p.addr (n : Int) = bitI ad (n : Int)
   ·have HBT := Hh hbit
    have HS := Hh (HBI.out.1 hbit)
    clear hbit
    go_wp2_with fail
    refine wp_region_rel (fun A B => A.grownBy B none) (fun A => grown_refl A _) (fun A B C h k => grown_trans h k) (relAt (eqs [.pointer (some ⟨g0, 1, none⟩), .agg (bv p.addr).toArray, .int .i64 (n : Int), .int .i64 (bitI p.addr (n : Int)), .agg (bv ad).toArray, .int .i64 (n : Int), .int .i64 (bitI ad (n : Int)), .bool false])) (MonoL.at_ (eqs_mono _)) (by kernel_rfl) (by kernel_rfl) ⟨?_, ?_, ?_, ?_, ?_, ?_, ?_, ?_, trivial⟩ ?_
    ·intro a vs W hX hR he hf K hK
     refine wn rfl ?_
     have e2 : a.eval (.tmp 2) = .pointer (some ⟨g0, 0, none⟩) := hf 2 (by kernel_rfl)
     refine wV hK rfl ?_
     simp only [execOp, e2]
     try go_simp
    ·intro a vs W hX hR he hf K hK
     refine wn rfl ?_
     have e16 : a.eval (.tmp 16) = .pointer (some ⟨g0, 1, none⟩) := eH he hR 0 (by kernel_rfl) rfl
     have hbW := bthen (below_drew _) (grow_below hX)
     have hr := (HK0.out.on hbW).range 1 16
     rw [p.drop_addr HF.out.addr] at hr
     exact wp_value (exec_load_mid 23 _ rfl g0 1 e16 _ _ hr Try.underlying23 rfl (size16 _ HF.out.addr)) (gK hK rfl)
    ·intro a vs W hX hR he hf K hK
     refine wn rfl ?_
     have e5 : a.eval (.tmp 5) = .int .i64 (n : Int) := hf 5 (by kernel_rfl)
     refine wV hK rfl ?_
     simp only [execOp, e5]
     try go_simp
    ·intro a vs W hX hR he hf K hK
     refine wn rfl ?_
     have e17 : a.eval (.tmp 17) = .agg (bv p.addr).toArray := eH he hR 1 (by kernel_rfl) rfl
     have e18 : a.eval (.tmp 18) = .int .i64 (n : Int) := eH he hR 2 (by kernel_rfl) rfl
     refine wp_enter (f := 33) (args := #[.agg (bv p.addr).toArray, .int .i64 (n : Int)]) (by simp only [execOp, e17, e18]; go_simp; exact ⟨by simpa [Act.eval] using e17, by simpa [Act.eval] using e18⟩) ((rbit_any p.addr HF.out.addr (n : Int) (by omega) (by omega) W).mono ?_)
     rintro e w' ⟨rfl, hb⟩
     exact ⟨_, rfl, hK _ _ rfl (below_grow hb _)⟩
    ·intro a vs W hX hR he hf K hK
     refine wn rfl ?_
     have e3 : a.eval (.tmp 3) = .pointer (some ⟨g1, 0, none⟩) := hf 3 (by kernel_rfl)
     have hbW := bthen (below_drew _) (grow_below hX)
     exact wp_value (exec_load 23 _ rfl g1 e3 23 (bv ad) _ (HK1.out.on hbW) Try.underlying23 rfl (size16 _ HAL.out)) (gK hK rfl)
    ·intro a vs W hX hR he hf K hK
     refine wn rfl ?_
     have e5 : a.eval (.tmp 5) = .int .i64 (n : Int) := hf 5 (by kernel_rfl)
     refine wV hK rfl ?_
     simp only [execOp, e5]
     try go_simp
    ·intro a vs W hX hR he hf K hK
     refine wn rfl ?_
     have e20 : a.eval (.tmp 20) = .agg (bv ad).toArray := eH he hR 4 (by kernel_rfl) rfl
     have e21 : a.eval (.tmp 21) = .int .i64 (n : Int) := eH he hR 5 (by kernel_rfl) rfl
     refine wp_enter (f := 33) (args := #[.agg (bv ad).toArray, .int .i64 (n : Int)]) (by simp only [execOp, e20, e21]; go_simp; exact ⟨by simpa [Act.eval] using e20, by simpa [Act.eval] using e21⟩) ((rbit_any ad HAL.out (n : Int) (by omega) (by omega) W).mono ?_)
     rintro e w' ⟨rfl, hb⟩
     exact ⟨_, rfl, hK _ _ rfl (below_grow hb _)⟩
    ·intro a vs W hX hR he hf K hK
     refine wn rfl ?_
     have e19 : a.eval (.tmp 19) = .int .i64 (bitI p.addr (n : Int)) := eH he hR 3 (by kernel_rfl) rfl
     have e22 : a.eval (.tmp 22) = .int .i64 (bitI ad (n : Int)) := eH he hR 6 (by kernel_rfl) rfl
     refine wV hK rfl ?_
     simp only [execOp, e19, e22]
     have h9 := HBT.out
     go_simp
    intro vs wx hXx hR
    rw [put_eqs hR rfl]
    simp only [putL, Act.put, List.setIfInBounds_toArray, List.set_cons_zero, List.set_cons_succ]
    clear hR
    have hbx := hBE.out.trans ((bthen (below_drew _) (grow_below hXx)).mono hBE.out.size)
    clear hXx c2
    go_wp2_with fail
    go_roundw
    case rel => exact ⟨n + 1, by omega, by simp, fun j h => by
     rcases Nat.lt_or_ge j n with h2 | h2
     ·exact HJ.out j h2
     obtain rfl : j = n := by omega
     exact HS.out, hbx⟩
    case measure => simp [intOf]; omega
   have HBT := Hh hbit
   have HC := Hh (show hasA p ad = false by
    cases h : hasA p ad
    ·rfl
    exfalso
    have h1 := (hasA_iff HPG.out HAL.out).1 h
    exact HBT.out (HBI.out.2 (bits_prefix h1 n (by rw [HPG.out.bits_length]; have := HM.out; omega))))
   clear hbit
   go_wp2_with fail
   refine wp_region_rel (fun A B => A.grownBy B none) (fun A => grown_refl A _) (fun A B C h k => grown_trans h k) (relAt (eqs [.pointer (some ⟨g0, 1, none⟩), .agg (bv p.addr).toArray, .int .i64 (n : Int), .int .i64 (bitI p.addr (n : Int)), .agg (bv ad).toArray, .int .i64 (n : Int), .int .i64 (bitI ad (n : Int)), .bool true])) (MonoL.at_ (eqs_mono _)) (by kernel_rfl) (by kernel_rfl) ⟨?_, ?_, ?_, ?_, ?_, ?_, ?_, ?_, trivial⟩ ?_
   ·intro a vs W hX hR he hf K hK
    refine wn rfl ?_
    have e2 : a.eval (.tmp 2) = .pointer (some ⟨g0, 0, none⟩) := hf 2 (by kernel_rfl)
    refine wV hK rfl ?_
    simp only [execOp, e2]
    try go_simp
   ·intro a vs W hX hR he hf K hK
    refine wn rfl ?_
    have e16 : a.eval (.tmp 16) = .pointer (some ⟨g0, 1, none⟩) := eH he hR 0 (by kernel_rfl) rfl
    have hbW := bthen (below_drew _) (grow_below hX)
    have hr := (HK0.out.on hbW).range 1 16
    rw [p.drop_addr HF.out.addr] at hr
    exact wp_value (exec_load_mid 23 _ rfl g0 1 e16 _ _ hr Try.underlying23 rfl (size16 _ HF.out.addr)) (gK hK rfl)
   ·intro a vs W hX hR he hf K hK
    refine wn rfl ?_
    have e5 : a.eval (.tmp 5) = .int .i64 (n : Int) := hf 5 (by kernel_rfl)
    refine wV hK rfl ?_
    simp only [execOp, e5]
    try go_simp
   ·intro a vs W hX hR he hf K hK
    refine wn rfl ?_
    have e17 : a.eval (.tmp 17) = .agg (bv p.addr).toArray := eH he hR 1 (by kernel_rfl) rfl
    have e18 : a.eval (.tmp 18) = .int .i64 (n : Int) := eH he hR 2 (by kernel_rfl) rfl
    refine wp_enter (f := 33) (args := #[.agg (bv p.addr).toArray, .int .i64 (n : Int)]) (by simp only [execOp, e17, e18]; go_simp; exact ⟨by simpa [Act.eval] using e17, by simpa [Act.eval] using e18⟩) ((rbit_any p.addr HF.out.addr (n : Int) (by omega) (by omega) W).mono ?_)
    rintro e w' ⟨rfl, hb⟩
    exact ⟨_, rfl, hK _ _ rfl (below_grow hb _)⟩
   ·intro a vs W hX hR he hf K hK
    refine wn rfl ?_
    have e3 : a.eval (.tmp 3) = .pointer (some ⟨g1, 0, none⟩) := hf 3 (by kernel_rfl)
    have hbW := bthen (below_drew _) (grow_below hX)
    exact wp_value (exec_load 23 _ rfl g1 e3 23 (bv ad) _ (HK1.out.on hbW) Try.underlying23 rfl (size16 _ HAL.out)) (gK hK rfl)
   ·intro a vs W hX hR he hf K hK
    refine wn rfl ?_
    have e5 : a.eval (.tmp 5) = .int .i64 (n : Int) := hf 5 (by kernel_rfl)
    refine wV hK rfl ?_
    simp only [execOp, e5]
    try go_simp
   ·intro a vs W hX hR he hf K hK
    refine wn rfl ?_
    have e20 : a.eval (.tmp 20) = .agg (bv ad).toArray := eH he hR 4 (by kernel_rfl) rfl
    have e21 : a.eval (.tmp 21) = .int .i64 (n : Int) := eH he hR 5 (by kernel_rfl) rfl
    refine wp_enter (f := 33) (args := #[.agg (bv ad).toArray, .int .i64 (n : Int)]) (by simp only [execOp, e20, e21]; go_simp; exact ⟨by simpa [Act.eval] using e20, by simpa [Act.eval] using e21⟩) ((rbit_any ad HAL.out (n : Int) (by omega) (by omega) W).mono ?_)
    rintro e w' ⟨rfl, hb⟩
    exact ⟨_, rfl, hK _ _ rfl (below_grow hb _)⟩
   ·intro a vs W hX hR he hf K hK
    refine wn rfl ?_
    have e19 : a.eval (.tmp 19) = .int .i64 (bitI p.addr (n : Int)) := eH he hR 3 (by kernel_rfl) rfl
    have e22 : a.eval (.tmp 22) = .int .i64 (bitI ad (n : Int)) := eH he hR 6 (by kernel_rfl) rfl
    refine wV hK rfl ?_
    simp only [execOp, e19, e22]
    have h9 := HBT.out
    go_simp
   intro vs wx hXx hR
   rw [put_eqs hR rfl]
   simp only [putL, Act.put, List.setIfInBounds_toArray, List.set_cons_zero, List.set_cons_succ]
   clear hR
   have hbx := bthen HW.out (bthen (below_drew _) (grow_below hXx))
   clear hXx c2
   go_wp2_with fail
   go_ret
   exact ⟨by rw [HC.out]; rfl, hbx⟩
  have hli : ¬ (n : Int) < (m : Int) := by omega
  have HC := Hh (show hasA p ad = true from (hasA_iff HPG.out HAL.out).2 (prefix_bits _ _ (by rw [HPG.out.bits_length, abits_length, HAL.out]; have := HM.out; omega) (fun j hj => HJ.out j (by rw [HPG.out.bits_length] at hj; have := HM.out; omega))))
  go_wp2_with fail
  go_ret
  exact ⟨by rw [HC.out]; rfl, HW.out⟩
end Go.Proofs.Ytdmgomknamdcfaa

/- What the reference's Check of prefixes (layer 8) computes. No condition but sizes. -/
namespace Go.Proofs.Ytdmgomknamdcfaa
open Go.RowKit
set_option linter.unusedVariables false
set_option maxRecDepth 20000
set_option linter.unusedSimpArgs false

theorem first_zero (a : List UInt8) (ha : a.length = 16) (n : Nat) (hn : n ≤ 128) : firstF a n = a ↔ ∀ j, n ≤ j → j < 128 → bitF a j = false := by
 have h1 := abits_first a n
 rw [ha] at h1
 have hl : (abits a).length = 128 := by rw [abits_length, ha]
 constructor
 ·intro e j h2 h3
  rw [e] at h1
  unfold bitF sideB
  rw [h1, List.getD_eq_getElem?_getD, List.getElem?_append_right (by rw [List.length_take]; omega), List.getElem?_replicate]
  split <;> rfl
 intro h
 refine abits_inj _ _ (by rw [firstF_length]) ?_
 rw [h1]
 apply List.ext_getElem?
 intro j
 by_cases hj : j < n
 ·rw [List.getElem?_append_left (by rw [List.length_take]; omega), List.getElem?_take, if_pos hj]
 by_cases hj2 : j < 128
 ·rw [List.getElem?_append_right (by rw [List.length_take]; omega), List.length_take, List.getElem?_replicate, if_pos (by omega)]
  have h2 := h j (by omega) hj2
  unfold bitF sideB at h2
  rw [List.getD_eq_getElem?_getD, List.getElem?_eq_getElem (by omega)] at h2
  rw [List.getElem?_eq_getElem (by omega)]
  exact congrArg some h2.symm
 rw [List.getElem?_eq_none (by simp [List.length_take, hl]; omega), List.getElem?_eq_none (by omega)]
set_option maxHeartbeats 2000000 in
theorem rcheck_any (p : Px) (hf : p.fit) (w : World) :
  Calls Try.prog 13 #[.agg p.cells.toArray] w fun e w' => e = .returned (.int .i64 (chkP p)) ∧ Below w.heap.size w w' := by
 have HF := Hh hf
 clear hf
 by_cases h1 : p.len < 0
 ·have HC := Hh (show chkP p = 1 by unfold chkP; rw [if_pos h1])
  go_enter Try.func13, Try.ntmps13
  go_upto_region 1 with (refine wpList_box_blk (by rfl) 30 (.tmp 0) rfl p.cells rfl ?_; intro w1 hb1 hB1 hs1; clear hs1)
  obtain ⟨g0, hg0⟩ : ∃ g, w.heap.size = g := ⟨_, rfl⟩
  rw [hg0] at hb1
  try rw [hg0]
  have HP := Hh hb1
  have HW := Hh hB1
  clear hb1 hB1 hg0
  refine wp_region_rel (fun A B => A.grownBy B none) (fun A => grown_refl A _) (fun A B C h k => grown_trans h k) (relAt (eqs [.pointer (some ⟨g0, 17, none⟩), .int .i64 p.len, .bool true, .bool true, undef, undef, undef, undef, undef, undef, .bool true])) (MonoL.at_ (eqs_mono _)) (by kernel_rfl) (by kernel_rfl) ⟨?_, ?_, ?_, ?_, ?_, ?_, ?_, ?_, ?_, ?_, ?_, trivial⟩ ?_
  ·intro a vs W hX hR he hf K hK
   refine wn rfl ?_
   have e1 : a.eval (.tmp 1) = .pointer (some ⟨g0, 0, none⟩) := hf 1 (by kernel_rfl)
   refine wV hK rfl ?_
   simp only [execOp, e1]
   try go_simp
  ·intro a vs W hX hR he hf K hK
   refine wn rfl ?_
   have e4 : a.eval (.tmp 4) = .pointer (some ⟨g0, 17, none⟩) := eH he hR 0 (by kernel_rfl) rfl
   have hbW := bthen (below_drew _) (grow_below hX)
   have hc : W.cell? ⟨g0, 17, none⟩ = some (.int .i64 p.len) := ((HP.out.on hbW).cell 17).trans (p.get_len HF.out.addr)
   refine wV hK rfl ?_
   simp only [execOp, e4]
   try go_simp
  ·intro a vs W hX hR he hf K hK
   refine wn rfl ?_
   have e5 : a.eval (.tmp 5) = .int .i64 p.len := eH he hR 1 (by kernel_rfl) rfl
   refine wV hK rfl ?_
   simp only [execOp, e5]
   try go_simp
  ·intro a vs W hX hR he hf K hK
   refine wn rfl ?_
   have e6 : a.eval (.tmp 6) = .bool true := eH he hR 2 (by kernel_rfl) rfl
   refine wV hK rfl ?_
   simp only [execOp, e6]
   try go_simp
  ·intro a vs W hX hR he hf K hK
   have e7 : a.eval (.tmp 7) = .bool true := eH he hR 3 (by kernel_rfl) rfl
   exact gN e7 rfl rfl rfl (gK hK rfl)
  ·intro a vs W hX hR he hf K hK
   have e7 : a.eval (.tmp 7) = .bool true := eH he hR 3 (by kernel_rfl) rfl
   exact gN e7 rfl rfl rfl (gK hK rfl)
  ·intro a vs W hX hR he hf K hK
   have e7 : a.eval (.tmp 7) = .bool true := eH he hR 3 (by kernel_rfl) rfl
   exact gN e7 rfl rfl rfl (gK hK rfl)
  ·intro a vs W hX hR he hf K hK
   have e7 : a.eval (.tmp 7) = .bool true := eH he hR 3 (by kernel_rfl) rfl
   exact gN e7 rfl rfl rfl (gK hK rfl)
  ·intro a vs W hX hR he hf K hK
   have e7 : a.eval (.tmp 7) = .bool true := eH he hR 3 (by kernel_rfl) rfl
   exact gN e7 rfl rfl rfl (gK hK rfl)
  ·intro a vs W hX hR he hf K hK
   have e7 : a.eval (.tmp 7) = .bool true := eH he hR 3 (by kernel_rfl) rfl
   exact gN e7 rfl rfl rfl (gK hK rfl)
  ·intro a vs W hX hR he hf K hK
   refine wn rfl ?_
   have e7 : a.eval (.tmp 7) = .bool true := eH he hR 3 (by kernel_rfl) rfl
   have e13 : a.eval (.tmp 13) = undef := eH he hR 9 (by kernel_rfl) rfl
   refine wV hK rfl ?_
   simp only [execOp, e7, e13]
   try go_simp
  intro vs wx hXx hR
  rw [put_eqs hR rfl]
  simp only [putL, Act.put, List.setIfInBounds_toArray, List.set_cons_zero, List.set_cons_succ]
  clear hR
  have hbx := bthen HW.out (bthen (below_drew _) (grow_below hXx))
  clear hXx
  go_wp2_with fail
  go_ret
  exact ⟨by rw [HC.out]; rfl, hbx⟩
 by_cases h2 : (mostF p.six : Int) < p.len
 ·have HC := Hh (show chkP p = 1 by unfold chkP; rw [if_neg h1, if_pos h2])
  go_enter Try.func13, Try.ntmps13
  go_upto_region 1 with (refine wpList_box_blk (by rfl) 30 (.tmp 0) rfl p.cells rfl ?_; intro w1 hb1 hB1 hs1; clear hs1)
  obtain ⟨g0, hg0⟩ : ∃ g, w.heap.size = g := ⟨_, rfl⟩
  rw [hg0] at hb1
  try rw [hg0]
  have HP := Hh hb1
  have HW := Hh hB1
  clear hb1 hB1 hg0
  refine wp_region_rel (fun A B => A.grownBy B none) (fun A => grown_refl A _) (fun A B C h k => grown_trans h k) (relAt (eqs [.pointer (some ⟨g0, 17, none⟩), .int .i64 p.len, .bool false, .bool false, .pointer (some ⟨g0, 17, none⟩), .int .i64 p.len, .pointer (some ⟨g0, 0, none⟩), .bool p.six, .int .i64 ((mostF p.six : Nat) : Int), .bool true, .bool true])) (MonoL.at_ (eqs_mono _)) (by kernel_rfl) (by kernel_rfl) ⟨?_, ?_, ?_, ?_, ?_, ?_, ?_, ?_, ?_, ?_, ?_, trivial⟩ ?_
  ·intro a vs W hX hR he hf K hK
   refine wn rfl ?_
   have e1 : a.eval (.tmp 1) = .pointer (some ⟨g0, 0, none⟩) := hf 1 (by kernel_rfl)
   refine wV hK rfl ?_
   simp only [execOp, e1]
   try go_simp
  ·intro a vs W hX hR he hf K hK
   refine wn rfl ?_
   have e4 : a.eval (.tmp 4) = .pointer (some ⟨g0, 17, none⟩) := eH he hR 0 (by kernel_rfl) rfl
   have hbW := bthen (below_drew _) (grow_below hX)
   have hc : W.cell? ⟨g0, 17, none⟩ = some (.int .i64 p.len) := ((HP.out.on hbW).cell 17).trans (p.get_len HF.out.addr)
   refine wV hK rfl ?_
   simp only [execOp, e4]
   try go_simp
  ·intro a vs W hX hR he hf K hK
   refine wn rfl ?_
   have e5 : a.eval (.tmp 5) = .int .i64 p.len := eH he hR 1 (by kernel_rfl) rfl
   refine wV hK rfl ?_
   simp only [execOp, e5]
   try go_simp
  ·intro a vs W hX hR he hf K hK
   refine wn rfl ?_
   have e6 : a.eval (.tmp 6) = .bool false := eH he hR 2 (by kernel_rfl) rfl
   refine wV hK rfl ?_
   simp only [execOp, e6]
   try go_simp
  ·intro a vs W hX hR he hf K hK
   have e7 : a.eval (.tmp 7) = .bool false := eH he hR 3 (by kernel_rfl) rfl
   refine gT e7 rfl rfl rfl ?_
   have e1 : a.eval (.tmp 1) = .pointer (some ⟨g0, 0, none⟩) := hf 1 (by kernel_rfl)
   refine wV hK rfl ?_
   simp only [execOp, e1]
   try go_simp
  ·intro a vs W hX hR he hf K hK
   have e7 : a.eval (.tmp 7) = .bool false := eH he hR 3 (by kernel_rfl) rfl
   refine gT e7 rfl rfl rfl ?_
   have e8 : a.eval (.tmp 8) = .pointer (some ⟨g0, 17, none⟩) := eH he hR 4 (by kernel_rfl) rfl
   have hbW := bthen (below_drew _) (grow_below hX)
   have hc : W.cell? ⟨g0, 17, none⟩ = some (.int .i64 p.len) := ((HP.out.on hbW).cell 17).trans (p.get_len HF.out.addr)
   refine wV hK rfl ?_
   simp only [execOp, e8]
   try go_simp
  ·intro a vs W hX hR he hf K hK
   have e7 : a.eval (.tmp 7) = .bool false := eH he hR 3 (by kernel_rfl) rfl
   refine gT e7 rfl rfl rfl ?_
   have e1 : a.eval (.tmp 1) = .pointer (some ⟨g0, 0, none⟩) := hf 1 (by kernel_rfl)
   refine wV hK rfl ?_
   simp only [execOp, e1]
   try go_simp
  ·intro a vs W hX hR he hf K hK
   have e7 : a.eval (.tmp 7) = .bool false := eH he hR 3 (by kernel_rfl) rfl
   refine gT e7 rfl rfl rfl ?_
   have e10 : a.eval (.tmp 10) = .pointer (some ⟨g0, 0, none⟩) := eH he hR 6 (by kernel_rfl) rfl
   have hbW := bthen (below_drew _) (grow_below hX)
   have hc : W.cell? ⟨g0, 0, none⟩ = some (.bool p.six) := ((HP.out.on hbW).cell 0).trans (rfl : p.cells[0]? = some (.bool p.six))
   refine wV hK rfl ?_
   simp only [execOp, e10]
   try go_simp
  ·intro a vs W hX hR he hf K hK
   have e7 : a.eval (.tmp 7) = .bool false := eH he hR 3 (by kernel_rfl) rfl
   refine gT e7 rfl rfl rfl ?_
   have e11 : a.eval (.tmp 11) = .bool p.six := eH he hR 7 (by kernel_rfl) rfl
   refine wp_enter (f := 32) (args := #[.bool p.six]) (by simp only [execOp, e11]; go_simp; simpa [Act.eval] using e11) ((rmost_any p.six W).mono ?_)
   rintro e w' ⟨rfl, rfl⟩
   exact ⟨_, rfl, hK _ _ rfl (grown_refl W _)⟩
  ·intro a vs W hX hR he hf K hK
   have e7 : a.eval (.tmp 7) = .bool false := eH he hR 3 (by kernel_rfl) rfl
   refine gT e7 rfl rfl rfl ?_
   have e9 : a.eval (.tmp 9) = .int .i64 p.len := eH he hR 5 (by kernel_rfl) rfl
   have e12 : a.eval (.tmp 12) = .int .i64 ((mostF p.six : Nat) : Int) := eH he hR 8 (by kernel_rfl) rfl
   refine wV hK rfl ?_
   simp only [execOp, e9, e12]
   try go_simp
  ·intro a vs W hX hR he hf K hK
   refine wn rfl ?_
   have e7 : a.eval (.tmp 7) = .bool false := eH he hR 3 (by kernel_rfl) rfl
   have e13 : a.eval (.tmp 13) = .bool true := eH he hR 9 (by kernel_rfl) rfl
   refine wV hK rfl ?_
   simp only [execOp, e7, e13]
   try go_simp
  intro vs wx hXx hR
  rw [put_eqs hR rfl]
  simp only [putL, Act.put, List.setIfInBounds_toArray, List.set_cons_zero, List.set_cons_succ]
  clear hR
  have hbx := bthen HW.out (bthen (below_drew _) (grow_below hXx))
  clear hXx
  go_wp2_with fail
  go_ret
  exact ⟨by rw [HC.out]; rfl, hbx⟩
 obtain ⟨m, hm⟩ : ∃ m, m = p.len.toNat := ⟨_, rfl⟩
 have hml : p.len = (m : Int) := by omega
 have hm128 : m ≤ 128 := by have := mostF_le p.six; omega
 have HC := Hh (show chkP p = if firstF p.addr m = p.addr then 0 else 1 by unfold chkP; rw [if_neg h1, if_neg h2, hm])
 have HML := Hh hml
 have HZ := Hh (first_zero p.addr HF.out.addr m hm128)
 have HB := Hh (show ∀ j : Nat, j < 128 → (bitI p.addr (j : Int) = if bitF p.addr j then 1 else 0) from fun j hj => by unfold bitI; rw [if_pos ⟨by omega, by omega⟩, Int.toNat_natCast])
 clear hm hml
 go_enter Try.func13, Try.ntmps13
 go_upto_region 1 with (refine wpList_box_blk (by rfl) 30 (.tmp 0) rfl p.cells rfl ?_; intro w1 hb1 hB1 hs1; clear hs1)
 obtain ⟨g0, hg0⟩ : ∃ g, w.heap.size = g := ⟨_, rfl⟩
 rw [hg0] at hb1
 try rw [hg0]
 have HP := Hh hb1
 have HW := Hh hB1
 clear hb1 hB1 hg0
 refine wp_region_rel (fun A B => A.grownBy B none) (fun A => grown_refl A _) (fun A B C h k => grown_trans h k) (relAt (eqs [.pointer (some ⟨g0, 17, none⟩), .int .i64 p.len, .bool false, .bool false, .pointer (some ⟨g0, 17, none⟩), .int .i64 p.len, .pointer (some ⟨g0, 0, none⟩), .bool p.six, .int .i64 ((mostF p.six : Nat) : Int), .bool false, .bool false])) (MonoL.at_ (eqs_mono _)) (by kernel_rfl) (by kernel_rfl) ⟨?_, ?_, ?_, ?_, ?_, ?_, ?_, ?_, ?_, ?_, ?_, trivial⟩ ?_
 ·intro a vs W hX hR he hf K hK
  refine wn rfl ?_
  have e1 : a.eval (.tmp 1) = .pointer (some ⟨g0, 0, none⟩) := hf 1 (by kernel_rfl)
  refine wV hK rfl ?_
  simp only [execOp, e1]
  try go_simp
 ·intro a vs W hX hR he hf K hK
  refine wn rfl ?_
  have e4 : a.eval (.tmp 4) = .pointer (some ⟨g0, 17, none⟩) := eH he hR 0 (by kernel_rfl) rfl
  have hbW := bthen (below_drew _) (grow_below hX)
  have hc : W.cell? ⟨g0, 17, none⟩ = some (.int .i64 p.len) := ((HP.out.on hbW).cell 17).trans (p.get_len HF.out.addr)
  refine wV hK rfl ?_
  simp only [execOp, e4]
  try go_simp
 ·intro a vs W hX hR he hf K hK
  refine wn rfl ?_
  have e5 : a.eval (.tmp 5) = .int .i64 p.len := eH he hR 1 (by kernel_rfl) rfl
  refine wV hK rfl ?_
  simp only [execOp, e5]
  try go_simp
 ·intro a vs W hX hR he hf K hK
  refine wn rfl ?_
  have e6 : a.eval (.tmp 6) = .bool false := eH he hR 2 (by kernel_rfl) rfl
  refine wV hK rfl ?_
  simp only [execOp, e6]
  try go_simp
 ·intro a vs W hX hR he hf K hK
  have e7 : a.eval (.tmp 7) = .bool false := eH he hR 3 (by kernel_rfl) rfl
  refine gT e7 rfl rfl rfl ?_
  have e1 : a.eval (.tmp 1) = .pointer (some ⟨g0, 0, none⟩) := hf 1 (by kernel_rfl)
  refine wV hK rfl ?_
  simp only [execOp, e1]
  try go_simp
 ·intro a vs W hX hR he hf K hK
  have e7 : a.eval (.tmp 7) = .bool false := eH he hR 3 (by kernel_rfl) rfl
  refine gT e7 rfl rfl rfl ?_
  have e8 : a.eval (.tmp 8) = .pointer (some ⟨g0, 17, none⟩) := eH he hR 4 (by kernel_rfl) rfl
  have hbW := bthen (below_drew _) (grow_below hX)
  have hc : W.cell? ⟨g0, 17, none⟩ = some (.int .i64 p.len) := ((HP.out.on hbW).cell 17).trans (p.get_len HF.out.addr)
  refine wV hK rfl ?_
  simp only [execOp, e8]
  try go_simp
 ·intro a vs W hX hR he hf K hK
  have e7 : a.eval (.tmp 7) = .bool false := eH he hR 3 (by kernel_rfl) rfl
  refine gT e7 rfl rfl rfl ?_
  have e1 : a.eval (.tmp 1) = .pointer (some ⟨g0, 0, none⟩) := hf 1 (by kernel_rfl)
  refine wV hK rfl ?_
  simp only [execOp, e1]
  try go_simp
 ·intro a vs W hX hR he hf K hK
  have e7 : a.eval (.tmp 7) = .bool false := eH he hR 3 (by kernel_rfl) rfl
  refine gT e7 rfl rfl rfl ?_
  have e10 : a.eval (.tmp 10) = .pointer (some ⟨g0, 0, none⟩) := eH he hR 6 (by kernel_rfl) rfl
  have hbW := bthen (below_drew _) (grow_below hX)
  have hc : W.cell? ⟨g0, 0, none⟩ = some (.bool p.six) := ((HP.out.on hbW).cell 0).trans (rfl : p.cells[0]? = some (.bool p.six))
  refine wV hK rfl ?_
  simp only [execOp, e10]
  try go_simp
 ·intro a vs W hX hR he hf K hK
  have e7 : a.eval (.tmp 7) = .bool false := eH he hR 3 (by kernel_rfl) rfl
  refine gT e7 rfl rfl rfl ?_
  have e11 : a.eval (.tmp 11) = .bool p.six := eH he hR 7 (by kernel_rfl) rfl
  refine wp_enter (f := 32) (args := #[.bool p.six]) (by simp only [execOp, e11]; go_simp; simpa [Act.eval] using e11) ((rmost_any p.six W).mono ?_)
  rintro e w' ⟨rfl, rfl⟩
  exact ⟨_, rfl, hK _ _ rfl (grown_refl W _)⟩
 ·intro a vs W hX hR he hf K hK
  have e7 : a.eval (.tmp 7) = .bool false := eH he hR 3 (by kernel_rfl) rfl
  refine gT e7 rfl rfl rfl ?_
  have e9 : a.eval (.tmp 9) = .int .i64 p.len := eH he hR 5 (by kernel_rfl) rfl
  have e12 : a.eval (.tmp 12) = .int .i64 ((mostF p.six : Nat) : Int) := eH he hR 8 (by kernel_rfl) rfl
  refine wV hK rfl ?_
  simp only [execOp, e9, e12]
  try go_simp
 ·intro a vs W hX hR he hf K hK
  refine wn rfl ?_
  have e7 : a.eval (.tmp 7) = .bool false := eH he hR 3 (by kernel_rfl) rfl
  have e13 : a.eval (.tmp 13) = .bool false := eH he hR 9 (by kernel_rfl) rfl
  refine wV hK rfl ?_
  simp only [execOp, e7, e13]
  try go_simp
 intro vs wx hXx hR
 rw [put_eqs hR rfl]
 simp only [putL, Act.put, List.setIfInBounds_toArray, List.set_cons_zero, List.set_cons_succ]
 clear hR
 replace HP := Hh (HP.out.on (bthen (below_drew _) (grow_below hXx)))
 replace HW := Hh (bthen HW.out (bthen (below_drew _) (grow_below hXx)))
 have c2 : wx.cell? ⟨g0, 17, none⟩ = some (.int .i64 (m : Int)) := by rw [← HML.out]; exact (HP.out.cell 17).trans (p.get_len HF.out.addr)
 clear hXx h1 h2
 go_wp2_with fail
 clear c2
 go_loopw [3] (fun i wr => ∃ n : Nat, m ≤ n ∧ n ≤ 128 ∧ i = .int .i64 (n : Nat) ∧ (∀ j, m ≤ j → j < n → bitF p.addr j = false) ∧ Below wx.heap.size wx wr) (fun i _ => 128 - (intOf i).toNat)
 case atStart => exact ⟨m, Nat.le_refl _, hm128, rfl, fun j a b => by omega, Below.refl _ _⟩
 case round =>
  obtain ⟨n, hmn, hn, rfl, hj, hbe⟩ := hrel
  have HJ := Hh hj
  have hBE := Hh hbe
  replace HP := Hh (HP.out.on hbe)
  replace HW := Hh (bthen HW.out hbe)
  have hr := HP.out.range 1 16
  rw [p.drop_addr HF.out.addr] at hr
  have HR := Hh hr
  clear hj hbe hr
  by_cases hlt : n < 128
  ·have hli : (n : Int) < 128 := by omega
   have HBN := Hh (HB.out n hlt)
   go_wp2_with (refine wpList_value (by rfl) (exec_load_mid 23 _ rfl g0 1 (by rfl) (bv p.addr) _ HR.out Try.underlying23 rfl (size16 _ HF.out.addr)) ?_)
   refine (rbit_any p.addr HF.out.addr (n : Int) (by omega) (by omega) wr).mono ?_
   rintro e w5 ⟨rfl, hb⟩
   rw [HBN.out]
   cases hbt : bitF p.addr n
   ·have HBT := Hh hbt
    have hb5 := hBE.out.trans (hb.mono hBE.out.size)
    clear hbt hb
    go_wp2_with fail
    go_roundw
    case rel => exact ⟨n + 1, by omega, by omega, by simp, fun j a b => by
     rcases Nat.lt_or_ge j n with h2 | h2
     ·exact HJ.out j a h2
     obtain rfl : j = n := by omega
     exact HBT.out, hb5⟩
    case measure => simp [intOf]; omega
   have HC2 := Hh (show chkP p = 1 by
    rw [HC.out, if_neg]
    intro h
    have := HZ.out.1 h n hmn hlt
    rw [hbt] at this
    cases this)
   have hb5 := bthen HW.out hb
   clear hbt hb
   go_wp2_with fail
   go_ret
   exact ⟨by rw [HC2.out]; rfl, hb5⟩
  have hli : ¬ (n : Int) < 128 := by omega
  have HC2 := Hh (show chkP p = 0 by
   rw [HC.out, if_pos (HZ.out.2 (fun j a b => HJ.out j a (by omega)))])
  go_wp2_with fail
  go_ret
  exact ⟨by rw [HC2.out]; rfl, HW.out⟩
end Go.Proofs.Ytdmgomknamdcfaa


/- Texts of this claim put together, in build order: each one's own remark stands ahead of it. -/
import Derived.Test.YtbemhcihmlijaaaG08
/- What the reference's Has and Check of prefixes (layer 8) compute. No condition but sizes. -/
namespace Go.Proofs.Ytbemhcihmlijaaa
open Go.RowKit
set_option linter.unusedVariables false
set_option maxRecDepth 20000
set_option linter.unusedSimpArgs false

theorem prefix_bits : ∀ (x y : List Bool), x.length ≤ y.length → (∀ j, j < x.length → sideB x j = sideB y j) → x <+: y
 | [], _, _, _ => List.nil_prefix
 | a :: x, [], h, _ => by simp at h
 | a :: x, b :: y, h, hj => by
  have h0 := hj 0 (by simp)
  have e : a = b := by simpa [sideB] using h0
  exact List.cons_prefix_cons.2 ⟨e, prefix_bits x y (by simpa using h) (fun j hl => by simpa [sideB] using hj (j + 1) (by simpa using hl))⟩
theorem bits_prefix {x y : List Bool} (h : x <+: y) (j : Nat) (hj : j < x.length) : sideB x j = sideB y j := by
 obtain ⟨r, rfl⟩ := h
 unfold sideB
 rw [List.getD_eq_getElem?_getD, List.getD_eq_getElem?_getD, List.getElem?_append_left hj]
theorem bitI_addr {p : Px} (hp : p.good) (ad : List UInt8) (n : Nat) (h1 : n < p.len.toNat) : (bitI p.addr (n : Int) = bitI ad (n : Int)) ↔ sideB p.bits n = sideB (abits ad) n := by
 have l1 := hp.len128
 have e : ∀ a : List UInt8, bitI a (n : Int) = if bitF a n then 1 else 0 := fun a => by
  unfold bitI
  rw [if_pos ⟨by omega, by omega⟩, Int.toNat_natCast]
 rw [e, e, side_addr hp n h1]
 unfold bitF
 cases sideB p.bits n <;> cases sideB (abits ad) n <;> simp
set_option maxHeartbeats 2000000 in
theorem rhas_any (p : Px) (hp : p.good) (ad : List UInt8) (ha : ad.length = 16) (w : World) :
  Calls Try.prog 15 #[.agg p.cells.toArray, .agg (bv ad).toArray] w fun e w' => e = .returned (.bool (hasA p ad)) ∧ Below w.heap.size w w' := by
 have HF := Lib.hid hp.fit
 have HPG := Lib.hid hp
 have HAL := Lib.hid ha
 obtain ⟨m, hm⟩ : ∃ m, m = p.len.toNat := ⟨_, rfl⟩
 have p1 := hp.ge
 have hm128 : m ≤ 128 := by have := hp.len128; omega
 have HM := Lib.hid hm
 have hml : p.len = (m : Int) := by omega
 have HML := Lib.hid hml
 clear hp ha hm p1 hml
 go_enter Try.func15, Try.ntmps15
 go_upto_region 1 with (first
  | (refine wpList_box_blk (by rfl) 30 (.tmp 0) rfl p.cells rfl ?_; intro w1 hb1 hB1 hs1; clear hs1)
  | (refine wpList_box_blk (by rfl) 28 (.tmp 1) rfl (bv ad) rfl ?_; intro w2 hb2 hB2 hs2; clear hs2))
 obtain ⟨g0, hg0⟩ : ∃ g, w.heap.size = g := ⟨_, rfl⟩
 obtain ⟨g1, hg1⟩ : ∃ g, w1.heap.size = g := ⟨_, rfl⟩
 have hk0 := hb1.on hB2
 rw [hg0] at hk0
 rw [hg1] at hb2
 try rw [hg0]
 try rw [hg1]
 have HK0 := Lib.hid hk0
 have HK1 := Lib.hid hb2
 have HW := Lib.hid (bthen hB1 hB2)
 clear hb1 hB1 hb2 hB2 hk0 hg0 hg1
 go_wp2_with fail
 go_loopw [5] (fun i wr => ∃ n : Nat, n ≤ m ∧ i = .int .i64 (n : Nat) ∧ (∀ j, j < n → sideB p.bits j = sideB (abits ad) j) ∧ Below w2.heap.size w2 wr) (fun i _ => m - (intOf i).toNat)
 case atStart => exact ⟨0, by omega, rfl, fun j h => by omega, Below.refl _ _⟩
 case round =>
  obtain ⟨n, hn, rfl, hj, hbe⟩ := hrel
  have HJ := Lib.hid hj
  have hBE := Lib.hid hbe
  replace HK0 := Lib.hid (HK0.out.on hbe)
  replace HK1 := Lib.hid (HK1.out.on hbe)
  replace HW := Lib.hid (bthen HW.out hbe)
  have c2 : wr.cell? ⟨g0, 17, none⟩ = some (.int .i64 (m : Int)) := by rw [← HML.out]; exact (HK0.out.cell 17).trans (p.get_len HF.out.addr)
  have hn128 : n ≤ 128 := by omega
  clear hj hbe
  by_cases hlt : n < m
  ·have hli : (n : Int) < (m : Int) := by omega
   have hn7 : (n : Int) < 128 := by omega
   have HBI := Lib.hid (bitI_addr HPG.out ad n (by have := HM.out; omega))
   by_cases hbit : bitI p.addr (n : Int) = bitI ad (n : Int)
   ·have HBT := Lib.hid hbit
    have HS := Lib.hid (HBI.out.1 hbit)
    clear hbit
    go_wp2_with fail
    refine wp_region_rel (fun A B => A.grownBy B none) (fun A => grown_refl A _) (fun A B C h k => grown_trans h k) (relAt (List.cons (fun v _ => v = .pointer (some ⟨g0, 1, none⟩)) (List.cons (fun v _ => v = .agg (bv p.addr).toArray) (List.cons (fun v _ => v = .int .i64 (n : Int)) (List.cons (fun v _ => v = .int .i64 (bitI p.addr (n : Int))) (List.cons (fun v _ => v = .agg (bv ad).toArray) (List.cons (fun v _ => v = .int .i64 (n : Int)) (List.cons (fun v _ => v = .int .i64 (bitI ad (n : Int))) (List.cons (fun v _ => v = .bool false) ([])))))))))) (MonoL.at_ (.cons (mono_val _) (.cons (mono_val _) (.cons (mono_val _) (.cons (mono_val _) (.cons (mono_val _) (.cons (mono_val _) (.cons (mono_val _) (.cons (mono_val _) .nil))))))))) (by kernel_rfl) (by kernel_rfl) ⟨?_, ?_, ?_, ?_, ?_, ?_, ?_, ?_, trivial⟩ ?_
    ·intro a vs W hX hR he hf K hK
     rw [if_pos (wanted_none rfl)]
     have e2 : a.eval (.tmp 2) = .pointer (some ⟨g0, 0, none⟩) := hf 2 (by kernel_rfl)
     refine wp_value (v := .pointer (some ⟨g0, 1, none⟩)) ?_ (hK _ _ rfl (grown_refl W _))
     simp only [execOp, e2]
     try go_simp
     try (first | rfl | omega | (simp only [IntKind.wrap_i64, IntKind.wrap_u8, IntKind.wrap_u64, IntKind.wrap_u16, IntKind.wrap_u32]; omega) | (rw [Int.tmod_eq_emod_of_nonneg (by omega)]) | (rw [Int.tmod_eq_emod_of_nonneg (by omega)]; omega))
    ·intro a vs W hX hR he hf K hK
     rw [if_pos (wanted_none rfl)]
     have e16 : a.eval (.tmp 16) = .pointer (some ⟨g0, 1, none⟩) := (he 0 16 (by kernel_rfl) rfl).trans (hR 0 (by kernel_rfl))
     have hbW := bthen (below_drew _) (grow_below hX)
     have hr := (HK0.out.on hbW).range 1 16
     rw [p.drop_addr HF.out.addr] at hr
     exact wp_value (exec_load_mid 28 _ rfl g0 1 e16 _ _ hr Try.underlying28 rfl (size16 _ HF.out.addr)) (hK _ _ rfl (grown_refl W _))
    ·intro a vs W hX hR he hf K hK
     rw [if_pos (wanted_none rfl)]
     have e5 : a.eval (.tmp 5) = .int .i64 (n : Int) := hf 5 (by kernel_rfl)
     refine wp_value (v := .int .i64 (n : Int)) ?_ (hK _ _ rfl (grown_refl W _))
     simp only [execOp, e5]
     try go_simp
     try (first | rfl | omega | (simp only [IntKind.wrap_i64, IntKind.wrap_u8, IntKind.wrap_u64, IntKind.wrap_u16, IntKind.wrap_u32]; omega) | (rw [Int.tmod_eq_emod_of_nonneg (by omega)]) | (rw [Int.tmod_eq_emod_of_nonneg (by omega)]; omega))
    ·intro a vs W hX hR he hf K hK
     rw [if_pos (wanted_none rfl)]
     have e17 : a.eval (.tmp 17) = .agg (bv p.addr).toArray := (he 1 17 (by kernel_rfl) rfl).trans (hR 1 (by kernel_rfl))
     have e18 : a.eval (.tmp 18) = .int .i64 (n : Int) := (he 2 18 (by kernel_rfl) rfl).trans (hR 2 (by kernel_rfl))
     refine wp_enter (f := 31) (args := #[.agg (bv p.addr).toArray, .int .i64 (n : Int)]) (by simp only [execOp, e17, e18]; go_simp; exact ⟨by simpa [Act.eval] using e17, by simpa [Act.eval] using e18⟩) ((rbit_any p.addr HF.out.addr (n : Int) (by omega) (by omega) W).mono ?_)
     rintro e w' ⟨rfl, hb⟩
     exact ⟨_, rfl, hK _ _ rfl (below_grow hb _)⟩
    ·intro a vs W hX hR he hf K hK
     rw [if_pos (wanted_none rfl)]
     have e3 : a.eval (.tmp 3) = .pointer (some ⟨g1, 0, none⟩) := hf 3 (by kernel_rfl)
     have hbW := bthen (below_drew _) (grow_below hX)
     exact wp_value (exec_load 28 _ rfl g1 e3 28 (bv ad) _ (HK1.out.on hbW) Try.underlying28 rfl (size16 _ HAL.out)) (hK _ _ rfl (grown_refl W _))
    ·intro a vs W hX hR he hf K hK
     rw [if_pos (wanted_none rfl)]
     have e5 : a.eval (.tmp 5) = .int .i64 (n : Int) := hf 5 (by kernel_rfl)
     refine wp_value (v := .int .i64 (n : Int)) ?_ (hK _ _ rfl (grown_refl W _))
     simp only [execOp, e5]
     try go_simp
     try (first | rfl | omega | (simp only [IntKind.wrap_i64, IntKind.wrap_u8, IntKind.wrap_u64, IntKind.wrap_u16, IntKind.wrap_u32]; omega) | (rw [Int.tmod_eq_emod_of_nonneg (by omega)]) | (rw [Int.tmod_eq_emod_of_nonneg (by omega)]; omega))
    ·intro a vs W hX hR he hf K hK
     rw [if_pos (wanted_none rfl)]
     have e20 : a.eval (.tmp 20) = .agg (bv ad).toArray := (he 4 20 (by kernel_rfl) rfl).trans (hR 4 (by kernel_rfl))
     have e21 : a.eval (.tmp 21) = .int .i64 (n : Int) := (he 5 21 (by kernel_rfl) rfl).trans (hR 5 (by kernel_rfl))
     refine wp_enter (f := 31) (args := #[.agg (bv ad).toArray, .int .i64 (n : Int)]) (by simp only [execOp, e20, e21]; go_simp; exact ⟨by simpa [Act.eval] using e20, by simpa [Act.eval] using e21⟩) ((rbit_any ad HAL.out (n : Int) (by omega) (by omega) W).mono ?_)
     rintro e w' ⟨rfl, hb⟩
     exact ⟨_, rfl, hK _ _ rfl (below_grow hb _)⟩
    ·intro a vs W hX hR he hf K hK
     rw [if_pos (wanted_none rfl)]
     have e19 : a.eval (.tmp 19) = .int .i64 (bitI p.addr (n : Int)) := (he 3 19 (by kernel_rfl) rfl).trans (hR 3 (by kernel_rfl))
     have e22 : a.eval (.tmp 22) = .int .i64 (bitI ad (n : Int)) := (he 6 22 (by kernel_rfl) rfl).trans (hR 6 (by kernel_rfl))
     refine wp_value (v := .bool false) ?_ (hK _ _ rfl (grown_refl W _))
     simp only [execOp, e19, e22]
     have h9 := HBT.out
     go_simp
    ·intro vs wx hXx hR
     have q0 := hR 0 (by decide)
     have q1 := hR 1 (by decide)
     have q2 := hR 2 (by decide)
     have q3 := hR 3 (by decide)
     have q4 := hR 4 (by decide)
     have q5 := hR 5 (by decide)
     have q6 := hR 6 (by decide)
     have q7 := hR 7 (by decide)
     change vs 0 = .pointer (some ⟨g0, 1, none⟩) at q0
     change vs 1 = .agg (bv p.addr).toArray at q1
     change vs 2 = .int .i64 (n : Int) at q2
     change vs 3 = .int .i64 (bitI p.addr (n : Int)) at q3
     change vs 4 = .agg (bv ad).toArray at q4
     change vs 5 = .int .i64 (n : Int) at q5
     change vs 6 = .int .i64 (bitI ad (n : Int)) at q6
     change vs 7 = .bool false at q7
     simp only [putAll, Act.put, List.setIfInBounds_toArray, List.set_cons_zero, List.set_cons_succ, q0, q1, q2, q3, q4, q5, q6, q7]
     clear q0 q1 q2 q3 q4 q5 q6 q7
     clear hR
     have hbx := hBE.out.trans ((bthen (below_drew _) (grow_below hXx)).mono hBE.out.size)
     clear hXx c2
     go_wp2_with fail
     go_roundw
     case rel => exact ⟨n + 1, by omega, by simp, fun j h => by
      rcases Nat.lt_or_ge j n with h2 | h2
      ·exact HJ.out j h2
      ·obtain rfl : j = n := by omega
       exact HS.out, hbx⟩
     case measure => simp [intOf]; omega
   ·have HBT := Lib.hid hbit
    have HC := Lib.hid (show hasA p ad = false by
     cases h : hasA p ad
     ·rfl
     ·exfalso
      have h1 := (hasA_iff HPG.out HAL.out).1 h
      exact HBT.out (HBI.out.2 (bits_prefix h1 n (by rw [HPG.out.bits_length]; have := HM.out; omega))))
    clear hbit
    go_wp2_with fail
    refine wp_region_rel (fun A B => A.grownBy B none) (fun A => grown_refl A _) (fun A B C h k => grown_trans h k) (relAt (List.cons (fun v _ => v = .pointer (some ⟨g0, 1, none⟩)) (List.cons (fun v _ => v = .agg (bv p.addr).toArray) (List.cons (fun v _ => v = .int .i64 (n : Int)) (List.cons (fun v _ => v = .int .i64 (bitI p.addr (n : Int))) (List.cons (fun v _ => v = .agg (bv ad).toArray) (List.cons (fun v _ => v = .int .i64 (n : Int)) (List.cons (fun v _ => v = .int .i64 (bitI ad (n : Int))) (List.cons (fun v _ => v = .bool true) ([])))))))))) (MonoL.at_ (.cons (mono_val _) (.cons (mono_val _) (.cons (mono_val _) (.cons (mono_val _) (.cons (mono_val _) (.cons (mono_val _) (.cons (mono_val _) (.cons (mono_val _) .nil))))))))) (by kernel_rfl) (by kernel_rfl) ⟨?_, ?_, ?_, ?_, ?_, ?_, ?_, ?_, trivial⟩ ?_
    ·intro a vs W hX hR he hf K hK
     rw [if_pos (wanted_none rfl)]
     have e2 : a.eval (.tmp 2) = .pointer (some ⟨g0, 0, none⟩) := hf 2 (by kernel_rfl)
     refine wp_value (v := .pointer (some ⟨g0, 1, none⟩)) ?_ (hK _ _ rfl (grown_refl W _))
     simp only [execOp, e2]
     try go_simp
     try (first | rfl | omega | (simp only [IntKind.wrap_i64, IntKind.wrap_u8, IntKind.wrap_u64, IntKind.wrap_u16, IntKind.wrap_u32]; omega) | (rw [Int.tmod_eq_emod_of_nonneg (by omega)]) | (rw [Int.tmod_eq_emod_of_nonneg (by omega)]; omega))
    ·intro a vs W hX hR he hf K hK
     rw [if_pos (wanted_none rfl)]
     have e16 : a.eval (.tmp 16) = .pointer (some ⟨g0, 1, none⟩) := (he 0 16 (by kernel_rfl) rfl).trans (hR 0 (by kernel_rfl))
     have hbW := bthen (below_drew _) (grow_below hX)
     have hr := (HK0.out.on hbW).range 1 16
     rw [p.drop_addr HF.out.addr] at hr
     exact wp_value (exec_load_mid 28 _ rfl g0 1 e16 _ _ hr Try.underlying28 rfl (size16 _ HF.out.addr)) (hK _ _ rfl (grown_refl W _))
    ·intro a vs W hX hR he hf K hK
     rw [if_pos (wanted_none rfl)]
     have e5 : a.eval (.tmp 5) = .int .i64 (n : Int) := hf 5 (by kernel_rfl)
     refine wp_value (v := .int .i64 (n : Int)) ?_ (hK _ _ rfl (grown_refl W _))
     simp only [execOp, e5]
     try go_simp
     try (first | rfl | omega | (simp only [IntKind.wrap_i64, IntKind.wrap_u8, IntKind.wrap_u64, IntKind.wrap_u16, IntKind.wrap_u32]; omega) | (rw [Int.tmod_eq_emod_of_nonneg (by omega)]) | (rw [Int.tmod_eq_emod_of_nonneg (by omega)]; omega))
    ·intro a vs W hX hR he hf K hK
     rw [if_pos (wanted_none rfl)]
     have e17 : a.eval (.tmp 17) = .agg (bv p.addr).toArray := (he 1 17 (by kernel_rfl) rfl).trans (hR 1 (by kernel_rfl))
     have e18 : a.eval (.tmp 18) = .int .i64 (n : Int) := (he 2 18 (by kernel_rfl) rfl).trans (hR 2 (by kernel_rfl))
     refine wp_enter (f := 31) (args := #[.agg (bv p.addr).toArray, .int .i64 (n : Int)]) (by simp only [execOp, e17, e18]; go_simp; exact ⟨by simpa [Act.eval] using e17, by simpa [Act.eval] using e18⟩) ((rbit_any p.addr HF.out.addr (n : Int) (by omega) (by omega) W).mono ?_)
     rintro e w' ⟨rfl, hb⟩
     exact ⟨_, rfl, hK _ _ rfl (below_grow hb _)⟩
    ·intro a vs W hX hR he hf K hK
     rw [if_pos (wanted_none rfl)]
     have e3 : a.eval (.tmp 3) = .pointer (some ⟨g1, 0, none⟩) := hf 3 (by kernel_rfl)
     have hbW := bthen (below_drew _) (grow_below hX)
     exact wp_value (exec_load 28 _ rfl g1 e3 28 (bv ad) _ (HK1.out.on hbW) Try.underlying28 rfl (size16 _ HAL.out)) (hK _ _ rfl (grown_refl W _))
    ·intro a vs W hX hR he hf K hK
     rw [if_pos (wanted_none rfl)]
     have e5 : a.eval (.tmp 5) = .int .i64 (n : Int) := hf 5 (by kernel_rfl)
     refine wp_value (v := .int .i64 (n : Int)) ?_ (hK _ _ rfl (grown_refl W _))
     simp only [execOp, e5]
     try go_simp
     try (first | rfl | omega | (simp only [IntKind.wrap_i64, IntKind.wrap_u8, IntKind.wrap_u64, IntKind.wrap_u16, IntKind.wrap_u32]; omega) | (rw [Int.tmod_eq_emod_of_nonneg (by omega)]) | (rw [Int.tmod_eq_emod_of_nonneg (by omega)]; omega))
    ·intro a vs W hX hR he hf K hK
     rw [if_pos (wanted_none rfl)]
     have e20 : a.eval (.tmp 20) = .agg (bv ad).toArray := (he 4 20 (by kernel_rfl) rfl).trans (hR 4 (by kernel_rfl))
     have e21 : a.eval (.tmp 21) = .int .i64 (n : Int) := (he 5 21 (by kernel_rfl) rfl).trans (hR 5 (by kernel_rfl))
     refine wp_enter (f := 31) (args := #[.agg (bv ad).toArray, .int .i64 (n : Int)]) (by simp only [execOp, e20, e21]; go_simp; exact ⟨by simpa [Act.eval] using e20, by simpa [Act.eval] using e21⟩) ((rbit_any ad HAL.out (n : Int) (by omega) (by omega) W).mono ?_)
     rintro e w' ⟨rfl, hb⟩
     exact ⟨_, rfl, hK _ _ rfl (below_grow hb _)⟩
    ·intro a vs W hX hR he hf K hK
     rw [if_pos (wanted_none rfl)]
     have e19 : a.eval (.tmp 19) = .int .i64 (bitI p.addr (n : Int)) := (he 3 19 (by kernel_rfl) rfl).trans (hR 3 (by kernel_rfl))
     have e22 : a.eval (.tmp 22) = .int .i64 (bitI ad (n : Int)) := (he 6 22 (by kernel_rfl) rfl).trans (hR 6 (by kernel_rfl))
     refine wp_value (v := .bool true) ?_ (hK _ _ rfl (grown_refl W _))
     simp only [execOp, e19, e22]
     have h9 := HBT.out
     go_simp
    ·intro vs wx hXx hR
     have q0 := hR 0 (by decide)
     have q1 := hR 1 (by decide)
     have q2 := hR 2 (by decide)
     have q3 := hR 3 (by decide)
     have q4 := hR 4 (by decide)
     have q5 := hR 5 (by decide)
     have q6 := hR 6 (by decide)
     have q7 := hR 7 (by decide)
     change vs 0 = .pointer (some ⟨g0, 1, none⟩) at q0
     change vs 1 = .agg (bv p.addr).toArray at q1
     change vs 2 = .int .i64 (n : Int) at q2
     change vs 3 = .int .i64 (bitI p.addr (n : Int)) at q3
     change vs 4 = .agg (bv ad).toArray at q4
     change vs 5 = .int .i64 (n : Int) at q5
     change vs 6 = .int .i64 (bitI ad (n : Int)) at q6
     change vs 7 = .bool true at q7
     simp only [putAll, Act.put, List.setIfInBounds_toArray, List.set_cons_zero, List.set_cons_succ, q0, q1, q2, q3, q4, q5, q6, q7]
     clear q0 q1 q2 q3 q4 q5 q6 q7
     clear hR
     have hbx := bthen HW.out (bthen (below_drew _) (grow_below hXx))
     clear hXx c2
     go_wp2_with fail
     go_ret
     exact ⟨by rw [HC.out]; rfl, hbx⟩
  ·have hli : ¬ (n : Int) < (m : Int) := by omega
   have HC := Lib.hid (show hasA p ad = true from (hasA_iff HPG.out HAL.out).2 (prefix_bits _ _ (by rw [HPG.out.bits_length, abits_length, HAL.out]; have := HM.out; omega) (fun j hj => HJ.out j (by rw [HPG.out.bits_length] at hj; have := HM.out; omega))))
   go_wp2_with fail
   go_ret
   exact ⟨by rw [HC.out]; rfl, HW.out⟩
end Go.Proofs.Ytbemhcihmlijaaa


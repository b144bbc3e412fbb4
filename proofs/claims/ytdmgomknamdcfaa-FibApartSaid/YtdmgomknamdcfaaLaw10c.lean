/- What is above a prefix and what is below it have nothing in common (FibApart). No condition but sizes. -/
import Derived.Test.YtdmgomknamdcfaaG28
import Derived.Test.YtdmgomknamdcfaaG29
import Derived.Deep.DeepCutAuto
namespace Go.Proofs.Ytdmgomknamdcfaa
open Go.RowKit
set_option linter.unusedVariables false
set_option maxRecDepth 20000
set_option linter.unusedSimpArgs false

theorem st_at19 {w : World} {b o : Nat} {x : St9} (h : w.rangeAt b o x.cells) (hx : x.p.addr.length = 16) : w.cell? ⟨b, o + 19, none⟩ = some (.int .i64 x.v) := h 19 _ (st_v hx)
/-- none: what it answers -/
theorem fb_none (w : World) : FbO w (fun _ => False) none false 0 (fun _ => []) 0 := ⟨fun _ => none, fun _ _ => False, fun _ _ => rfl, (fun g h => by cases h), fun b => ⟨rfl, rfl⟩, fun k h => h.elim, fun b k h => h.elim⟩
theorem put_none (p : Px) (vl : Int) : (putR false p.six 0 ((fun _ => []) p.six) p vl).2 = 1 := by
 unfold putR okR
 rw [Bool.false_and, if_neg (by decide)]
theorem del_none (p : Px) : (delR false p.six ((fun _ => []) p.six) p).2 = 1 := by
 unfold delR okR
 rw [Bool.false_and, if_neg (by decide)]
theorem above_none (p : Px) : aboveF ((fun _ => []) p.six) p = [] := by unfold aboveF; split <;> rfl
theorem below_none (p : Px) : belowF ((fun _ => []) p.six) p = [] := by unfold belowF; split <;> rfl
set_option maxHeartbeats 4000000 in
theorem walk_FibApart (w : World) (z : Sl9) (hz : z.ok w) (p : Px) (hpf : p.fit) :
  Calls Try.prog 4 #[.slice z.A z.n z.c, .agg p.cells.toArray] w fun e w' => e = .returned (.bool true) ∧ Below w.heap.size w w' := by
 obtain ⟨A, n, c, Sc⟩ := z
 obtain ⟨hr, hle, hcap, hfit⟩ := hz
 simp only at hr hle hcap hfit ⊢
 have HR := Lib.hid hr
 have HF := Lib.hid hfit
 have HLN := Lib.hid (sts_row hr hfit)
 have HPF := Lib.hid hpf
 clear hr hfit hpf hle hcap
 go_enter Try.func4, Try.ntmps4
 go_upto_region 1 with (refine wpList_box_blk (by rfl) 30 (.tmp 1) rfl p.cells rfl ?_; intro w1 hb1 hB1 hs1; clear hs1)
 obtain ⟨g3, hg3⟩ : ∃ g, w.heap.size = g := ⟨_, rfl⟩
 have HW1 := Lib.hid hB1
 have HWG := Lib.hid (show w.heap.size ≤ g3 by omega)
 rw [hg3] at hb1
 try rw [hg3]
 have H31 := Lib.hid hb1
 clear hb1 hB1 hg3
 go_wp2_with fail
 refine (awake_any w1).mono ?_
 rintro e w2 ⟨rfl, hb⟩
 have H3 := Lib.hid (H31.out.on hb)
 have HW2 := Lib.hid (bthen HW1.out hb)
 clear hb
 by_cases h50 : (50 : Int) < (n : Int)
 ·go_wp2_with fail
  go_ret
  exact ⟨rfl, HW2.out⟩
 ·have HN50 := Lib.hid (show n ≤ 50 by omega)
  have hd50 : decide ((50 : Int) < (n : Int)) = false := decide_eq_false h50
  go_wp2_with (refine wpList_value (by rfl) (exec_load 30 _ rfl g3 (by rfl) 30 p.cells _ H3.out Try.underlying30 rfl (sizePx _ HPF.out.addr)) ?_)
  refine (rcheck_any p HPF.out w2).mono ?_
  rintro e w2b ⟨rfl, hb⟩
  replace H3 := Lib.hid (H3.out.on hb)
  replace HW2 := Lib.hid (bthen HW2.out hb)
  clear hb
  by_cases hq : chkP p = 0
  ·have HGP := Lib.hid ((chkP_iff p HPF.out.addr).1 hq)
   rw [hq]
   clear hq
   go_wp2_with fail
   refine (fnew_any 60 w2b).mono ?_
   rintro e w3 ⟨f, rfl, hne, hT, hb⟩
   have hi : f.isSome = true := by
    cases f with
    | none => exact absurd (hne.1 rfl) (by decide)
    | some g => rfl
   rw [hi] at hT
   have hlt5 := H3.out.lt
   have hsz2 := HW2.out.size
   have HT3 := Lib.hid (show FbO w3 (fun b => w.heap.size ≤ b ∧ b ≠ g3) f true 60 (fun _ => []) 1 from hT.mono (fun b hb h9 => h9.elim False.elim (fun h => ⟨by omega, by omega⟩)) (Nat.le_refl _))
   have HW3 := Lib.hid (bthen HW2.out hb)
   have H33 := Lib.hid (H3.out.on hb)
   clear hb hT hne hi hlt5 hsz2
   go_wp2_with fail
   go_loopw [7] (fun i wr => ∃ (k : Nat) (L : Bool → List Itm) (K : Nat), k ≤ n ∧ i = .int .i64 (k : Nat) ∧ FbO wr (fun b => w.heap.size ≤ b ∧ b ≠ g3) f true 60 L K ∧ K ≤ 2 * k + 1 ∧ (∀ b, (L b).length ≤ k) ∧ Below w.heap.size w wr ∧ Blk wr g3 30 p.cells) (fun i _ => n - (intOf i).toNat)
   case atStart => exact ⟨0, _, 1, by omega, rfl, HT3.out, by omega, fun b => Nat.le_refl _, HW3.out, H33.out⟩
   case round =>
    obtain ⟨k, L, K, hk, rfl, hT, hK, hL, hW, hA⟩ := hrel
    clear HT3 HW3 H33 H3
    have HT := Lib.hid hT
    have HW := Lib.hid hW
    have HA := Lib.hid hA
    have HK := Lib.hid hK
    have HL := Lib.hid hL
    clear hT hW hA hL hK
    by_cases hlt : k < n
    ·obtain ⟨s, hs⟩ := get_ex Sc (k := k) (by rw [HLN.out]; exact hlt)
     obtain ⟨bA, oA, rfl, hbA, hcA⟩ := sts_at HR.out HF.out k s hs
     have HSF := Lib.hid (HF.out s (List.mem_of_getElem? hs))
     have HSR := Lib.hid (range_below HW.out hbA hcA)
     have HBA := Lib.hid (show bA < wr.heap.size from Nat.lt_of_lt_of_le hbA HW.out.size)
     have hlt2 : (k : Int) < (n : Int) := by omega
     have hlt3 : (k : Int) + 1 ≤ (n : Int) := by omega
     have hn50 := HN50.out
     clear hbA hcA hs
     go_wp2_with fail
     refine wp_region_last 11 (fun A B => A.grownBy B none) (fun A => grown_refl A _) (fun A B C h k => grown_trans h k) (relAt (List.cons (fun v _ => v = ptV f) (List.cons (fun v _ => v = .slice (some ⟨bA, oA, none⟩) n c) (List.cons (fun v _ => v = .int .i64 (k : Nat)) (List.cons (fun v _ => v = .pointer (some ⟨bA, oA + k * 20, none⟩)) (List.cons (fun v _ => v = .pointer (some ⟨bA, oA + k * 20 + 1, none⟩)) (List.cons (fun v _ => v = .agg s.p.cells.toArray) (List.cons (fun v _ => v = .slice (some ⟨bA, oA, none⟩) n c) (List.cons (fun v _ => v = .int .i64 (k : Nat)) (List.cons (fun v _ => v = .pointer (some ⟨bA, oA + k * 20, none⟩)) (List.cons (fun v _ => v = .pointer (some ⟨bA, oA + k * 20 + 19, none⟩)) (List.cons (fun v _ => v = .int .i64 s.v) ([]))))))))))))) (MonoL.at_ (.cons (mono_val _) (.cons (mono_val _) (.cons (mono_val _) (.cons (mono_val _) (.cons (mono_val _) (.cons (mono_val _) (.cons (mono_val _) (.cons (mono_val _) (.cons (mono_val _) (.cons (mono_val _) (.cons (mono_val _) .nil)))))))))))) (by kernel_rfl) (by kernel_rfl) rfl (by kernel_rfl) _ rfl rfl ⟨?_, ?_, ?_, ?_, ?_, ?_, ?_, ?_, ?_, ?_, ?_, trivial⟩ ?_
     ·intro a vs W hX hR he hf K hK
      rw [if_pos (wanted_none rfl)]
      have e6 : a.eval (.tmp 6) = ptV f := hf 6 (by kernel_rfl)
      refine wp_value (v := ptV f) ?_ (hK _ _ rfl (grown_refl W _))
      simp only [execOp, e6]
      try go_simp
      try (first | rfl | omega | (simp only [IntKind.wrap_i64, IntKind.wrap_u8, IntKind.wrap_u64, IntKind.wrap_u16, IntKind.wrap_u32]; omega) | (rw [Int.tmod_eq_emod_of_nonneg (by omega)]) | (rw [Int.tmod_eq_emod_of_nonneg (by omega)]; omega))
     ·intro a vs W hX hR he hf K hK
      rw [if_pos (wanted_none rfl)]
      have e0 : a.eval (.tmp 0) = .slice (some ⟨bA, oA, none⟩) n c := hf 0 (by kernel_rfl)
      refine wp_value (v := .slice (some ⟨bA, oA, none⟩) n c) ?_ (hK _ _ rfl (grown_refl W _))
      simp only [execOp, e0]
      try go_simp
      try (first | rfl | omega | (simp only [IntKind.wrap_i64, IntKind.wrap_u8, IntKind.wrap_u64, IntKind.wrap_u16, IntKind.wrap_u32]; omega) | (rw [Int.tmod_eq_emod_of_nonneg (by omega)]) | (rw [Int.tmod_eq_emod_of_nonneg (by omega)]; omega))
     ·intro a vs W hX hR he hf K hK
      rw [if_pos (wanted_none rfl)]
      have e7 : a.eval (.tmp 7) = .int .i64 (k : Nat) := hf 7 (by kernel_rfl)
      refine wp_value (v := .int .i64 (k : Nat)) ?_ (hK _ _ rfl (grown_refl W _))
      simp only [execOp, e7]
      try go_simp
      try (first | rfl | omega | (simp only [IntKind.wrap_i64, IntKind.wrap_u8, IntKind.wrap_u64, IntKind.wrap_u16, IntKind.wrap_u32]; omega) | (rw [Int.tmod_eq_emod_of_nonneg (by omega)]) | (rw [Int.tmod_eq_emod_of_nonneg (by omega)]; omega))
     ·intro a vs W hX hR he hf K hK
      rw [if_pos (wanted_none rfl)]
      have e36 : a.eval (.tmp 36) = .slice (some ⟨bA, oA, none⟩) n c := (he 1 36 (by kernel_rfl) rfl).trans (hR 1 (by kernel_rfl))
      have e37 : a.eval (.tmp 37) = .int .i64 (k : Nat) := (he 2 37 (by kernel_rfl) rfl).trans (hR 2 (by kernel_rfl))
      refine wp_value (v := .pointer (some ⟨bA, oA + k * 20, none⟩)) ?_ (hK _ _ rfl (grown_refl W _))
      simp only [execOp, e36, e37]
      go_simp
     ·intro a vs W hX hR he hf K hK
      rw [if_pos (wanted_none rfl)]
      have e38 : a.eval (.tmp 38) = .pointer (some ⟨bA, oA + k * 20, none⟩) := (he 3 38 (by kernel_rfl) rfl).trans (hR 3 (by kernel_rfl))
      refine wp_value (v := .pointer (some ⟨bA, oA + k * 20 + 1, none⟩)) ?_ (hK _ _ rfl (grown_refl W _))
      simp only [execOp, e38]
      try go_simp
      try (first | rfl | omega | (simp only [IntKind.wrap_i64, IntKind.wrap_u8, IntKind.wrap_u64, IntKind.wrap_u16, IntKind.wrap_u32]; omega) | (rw [Int.tmod_eq_emod_of_nonneg (by omega)]) | (rw [Int.tmod_eq_emod_of_nonneg (by omega)]; omega))
     ·intro a vs W hX hR he hf K hK
      rw [if_pos (wanted_none rfl)]
      have e39 : a.eval (.tmp 39) = .pointer (some ⟨bA, oA + k * 20 + 1, none⟩) := (he 4 39 (by kernel_rfl) rfl).trans (hR 4 (by kernel_rfl))
      have hbW := bthen (below_drew _) (grow_below hX)
      exact wp_value (exec_load_mid 30 _ rfl bA (oA + k * 20 + 1) e39 s.p.cells _ (range_below hbW HBA.out (st_px HSR.out)) Try.underlying30 rfl (sizePx _ HSF.out.p.addr)) (hK _ _ rfl (grown_refl W _))
     ·intro a vs W hX hR he hf K hK
      rw [if_pos (wanted_none rfl)]
      have e0 : a.eval (.tmp 0) = .slice (some ⟨bA, oA, none⟩) n c := hf 0 (by kernel_rfl)
      refine wp_value (v := .slice (some ⟨bA, oA, none⟩) n c) ?_ (hK _ _ rfl (grown_refl W _))
      simp only [execOp, e0]
      try go_simp
      try (first | rfl | omega | (simp only [IntKind.wrap_i64, IntKind.wrap_u8, IntKind.wrap_u64, IntKind.wrap_u16, IntKind.wrap_u32]; omega) | (rw [Int.tmod_eq_emod_of_nonneg (by omega)]) | (rw [Int.tmod_eq_emod_of_nonneg (by omega)]; omega))
     ·intro a vs W hX hR he hf K hK
      rw [if_pos (wanted_none rfl)]
      have e7 : a.eval (.tmp 7) = .int .i64 (k : Nat) := hf 7 (by kernel_rfl)
      refine wp_value (v := .int .i64 (k : Nat)) ?_ (hK _ _ rfl (grown_refl W _))
      simp only [execOp, e7]
      try go_simp
      try (first | rfl | omega | (simp only [IntKind.wrap_i64, IntKind.wrap_u8, IntKind.wrap_u64, IntKind.wrap_u16, IntKind.wrap_u32]; omega) | (rw [Int.tmod_eq_emod_of_nonneg (by omega)]) | (rw [Int.tmod_eq_emod_of_nonneg (by omega)]; omega))
     ·intro a vs W hX hR he hf K hK
      rw [if_pos (wanted_none rfl)]
      have e41 : a.eval (.tmp 41) = .slice (some ⟨bA, oA, none⟩) n c := (he 6 41 (by kernel_rfl) rfl).trans (hR 6 (by kernel_rfl))
      have e42 : a.eval (.tmp 42) = .int .i64 (k : Nat) := (he 7 42 (by kernel_rfl) rfl).trans (hR 7 (by kernel_rfl))
      refine wp_value (v := .pointer (some ⟨bA, oA + k * 20, none⟩)) ?_ (hK _ _ rfl (grown_refl W _))
      simp only [execOp, e41, e42]
      go_simp
     ·intro a vs W hX hR he hf K hK
      rw [if_pos (wanted_none rfl)]
      have e43 : a.eval (.tmp 43) = .pointer (some ⟨bA, oA + k * 20, none⟩) := (he 8 43 (by kernel_rfl) rfl).trans (hR 8 (by kernel_rfl))
      refine wp_value (v := .pointer (some ⟨bA, oA + k * 20 + 19, none⟩)) ?_ (hK _ _ rfl (grown_refl W _))
      simp only [execOp, e43]
      try go_simp
      try (first | rfl | omega | (simp only [IntKind.wrap_i64, IntKind.wrap_u8, IntKind.wrap_u64, IntKind.wrap_u16, IntKind.wrap_u32]; omega) | (rw [Int.tmod_eq_emod_of_nonneg (by omega)]) | (rw [Int.tmod_eq_emod_of_nonneg (by omega)]; omega))
     ·intro a vs W hX hR he hf K hK
      rw [if_pos (wanted_none rfl)]
      have e44 : a.eval (.tmp 44) = .pointer (some ⟨bA, oA + k * 20 + 19, none⟩) := (he 9 44 (by kernel_rfl) rfl).trans (hR 9 (by kernel_rfl))
      have hbW := bthen (below_drew _) (grow_below hX)
      have hc : W.cell? ⟨bA, oA + k * 20 + 19, none⟩ = some (.int .i64 s.v) := st_at19 (range_below hbW HBA.out HSR.out) HSF.out.p.addr
      refine wp_value (v := _) ?_ (hK _ _ rfl (grown_refl W _))
      simp only [execOp, e44]
      try go_simp
     ·intro vs wx hXx hR
      have q0 := hR 0 (by decide)
      have q1 := hR 1 (by decide)
      have q2 := hR 2 (by decide)
      have q3 := hR 3 (by decide)
      have q4 := hR 4 (by decide)
      have q5 := hR 5 (by decide)
      have q6 := hR 6 (by decide)
      have q7 := hR 7 (by decide)
      have q8 := hR 8 (by decide)
      have q9 := hR 9 (by decide)
      have q10 := hR 10 (by decide)
      change vs 0 = ptV f at q0
      change vs 1 = .slice (some ⟨bA, oA, none⟩) n c at q1
      change vs 2 = .int .i64 (k : Nat) at q2
      change vs 3 = .pointer (some ⟨bA, oA + k * 20, none⟩) at q3
      change vs 4 = .pointer (some ⟨bA, oA + k * 20 + 1, none⟩) at q4
      change vs 5 = .agg s.p.cells.toArray at q5
      change vs 6 = .slice (some ⟨bA, oA, none⟩) n c at q6
      change vs 7 = .int .i64 (k : Nat) at q7
      change vs 8 = .pointer (some ⟨bA, oA + k * 20, none⟩) at q8
      change vs 9 = .pointer (some ⟨bA, oA + k * 20 + 19, none⟩) at q9
      change vs 10 = .int .i64 s.v at q10
      simp only [putAll, Act.put, List.setIfInBounds_toArray, List.set_cons_zero, List.set_cons_succ, List.take_succ_cons, List.take_zero, q0, q1, q2, q3, q4, q5, q6, q7, q8, q9, q10]
      clear q0 q1 q2 q3 q4 q5 q6 q7 q8 q9 q10
      clear hR
      have hbW := bthen (below_drew _) (grow_below hXx)
      have hAx := HA.out.on hbW
      have hT9 := fput_P (HT.out.on hbW) (fun b h9 => ⟨Nat.le_trans (Nat.le_trans HW.out.size hbW.size) h9, fun e => by have := hAx.lt; omega⟩) (by have := HK.out; omega) s.p HSF.out.p s.v
      refine wp_enter (f := 8) (args := #[ptV f, .agg s.p.cells.toArray, .int .i64 s.v]) (by simp only [execOp]; go_simp) (hT9.mono ?_)
      rintro e wy ⟨rfl, hTy, hky⟩
      refine ⟨_, rfl, ?_⟩
      clear hT9
      have hwy := (bthen HW.out hbW).trans (hky.below (Nat.le_trans HW.out.size hbW.size) (fun b h9 => h9.1))
      have hay := hky.blk hAx (fun h9 => h9.2 rfl)
      have hly : ∀ b, (setL L s.p.six (putR true s.p.six 60 (L s.p.six) s.p s.v).1 b).length ≤ k + 1 := fun b => by
       unfold setL
       split
       ·exact Nat.le_trans (putR_len _ _ _ _ _ _) (Nat.succ_le_succ (HL.out _))
       ·exact Nat.le_trans (HL.out b) (Nat.le_succ _)
      clear hbW hky hXx hAx
      try simp only [List.getElem_toArray, List.getElem_cons_succ, List.getElem_cons_zero, Act.put, List.setIfInBounds_toArray, List.set_cons_zero, List.set_cons_succ]
      go_wp2_with fail
      go_roundw
      case rel => exact ⟨k + 1, _, K + 2, by omega, by simp, hTy, by have := HK.out; omega, hly, hwy, hay⟩
      case measure => simp [intOf]; omega
    ·obtain rfl : k = n := by omega
     have hk9 : K ≤ 100000 := by have := HK.out; have := HN50.out; omega
     have HK9 := Lib.hid hk9
     have HLK := Lib.hid (fun b => HT.out.lok b)
     have hL6 : ∀ b, (L b).length ≤ 50 := fun b => by have := HL.out b; have := HN50.out; omega
     have HL6 := Lib.hid hL6
     have H3 := Lib.hid HA.out
     clear hk9 hL6 HA
     go_wp2_with (refine wpList_value (by rfl) (exec_load 30 _ rfl g3 (by rfl) 30 p.cells _ H3.out Try.underlying30 rfl (sizePx _ HPF.out.addr)) ?_)
     refine (fabove_any HT.out HK9.out p (by have := HL6.out p.six; omega) HPF.out).mono ?_
     rintro e w4 ⟨A8, n8, c8, rfl, hr8, hb⟩
     obtain ⟨M8, hM8⟩ : ∃ M, aboveF (L p.six) p = M := ⟨_, rfl⟩
     rw [hM8] at hr8
     have hq0 : chkP p = 0 := (chkP_iff p HPF.out.addr).2 HGP.out
     have hfit8 : ∀ x ∈ M8, x.1.fit := fun x hx => by
      rw [← hM8] at hx
      unfold aboveF at hx
      rw [if_pos hq0] at hx
      exact ((HLK.out p.six).good x (List.mem_filter.1 (List.mem_reverse.1 hx)).1).fit
     have hl8 : M8.length = n8 := its_row hr8 hfit8
     have hdown : M8.Pairwise fun x y => y.1.len < x.1.len := by
      rw [← hM8]
      unfold aboveF
      rw [if_pos hq0]
      exact List.pairwise_reverse.2 (over_rise (HLK.out p.six) HGP.out)
     have HFI8 := Lib.hid hfit8
     have HL8 := Lib.hid hl8
     have HDN := Lib.hid hdown
     have HM8 := Lib.hid hM8
     have HR4 := Lib.hid hr8
     have HT4 := Lib.hid (HT.out.on hb)
     have HW4 := Lib.hid (bthen HW.out hb)
     have H34 := Lib.hid (H3.out.on hb)
     have hn8 : n8 ≤ 50 := by
      rw [← hl8, ← hM8]
      unfold aboveF
      rw [if_pos hq0, List.length_reverse]
      exact Nat.le_trans (List.length_filter_le _ _) (HL6.out _)
     have HN8 := Lib.hid hn8
     clear hr8 hb hM8 hfit8 hl8 hdown hn8 H3
     go_wp2_with (refine wpList_value (by rfl) (exec_load 30 _ rfl g3 (by rfl) 30 p.cells _ H34.out Try.underlying30 rfl (sizePx _ HPF.out.addr)) ?_)
     refine (fbelow_any HT4.out HK9.out p HPF.out).mono ?_
     rintro e w5 ⟨A9, n9, c9, rfl, hr9, hb⟩
     have hl9 : (belowF (L p.six) p).length = n9 := its_row hr9 (fun x hx => by
      unfold belowF at hx
      rw [if_pos hq0] at hx
      exact ((HLK.out p.six).good x (List.mem_filter.1 hx).1).fit)
     have hn9 : n9 ≤ 50 := by
      rw [← hl9]
      unfold belowF
      rw [if_pos hq0]
      exact Nat.le_trans (List.length_filter_le _ _) (HL6.out _)
     have HN9 := Lib.hid hn9
     have HL9 := Lib.hid hl9
     have HT5 := Lib.hid (HT4.out.on hb)
     have HW5 := Lib.hid (bthen HW4.out hb)
     have H35 := Lib.hid (H34.out.on hb)
     have HR5 := Lib.hid ((HR4.out.below hb).more hb.size)
     clear hr9 hb hl9 hn9 hq0
     go_wp2_with fail
     refine (fall_any HT5.out HK9.out).mono ?_
     rintro e w6 ⟨A10, c10, rfl, hO, hb⟩
     obtain ⟨Z, hZ⟩ : ∃ Z, L false ++ L true = Z := ⟨_, rfl⟩
     have hcnt : (Z.filter (relB p)).length = n8 + n9 := by
      rw [← hZ, List.filter_append, List.length_append, ← HL8.out, ← HL9.out, ← HM8.out]
      cases h6 : p.six
      ·rw [rel_len (HLK.out false) HGP.out h6, rel_other (HLK.out true) (by rw [h6]; decide)]
       simp
      ·rw [rel_len (HLK.out true) HGP.out h6, rel_other (HLK.out false) (by rw [h6]; decide)]
       simp
     have hgz : ∀ x ∈ Z, x.1.good := fun x hx => by
      rw [← hZ] at hx
      exact (List.mem_append.1 hx).elim (fun hx => (HLK.out false).good x hx) (fun hx => (HLK.out true).good x hx)
     have hlz : Z.length ≤ 100 := by
      rw [← hZ, List.length_append]
      have := HL6.out false
      have := HL6.out true
      omega
     rw [hZ] at hO
     rw [hZ]
     obtain ⟨m, hm⟩ : ∃ m, Z.length = m := ⟨_, rfl⟩
     rw [hm] at hO hlz
     rw [hm]
     have HM := Lib.hid hm
     have HCN := Lib.hid hcnt
     have HGZ := Lib.hid hgz
     have HLZ := Lib.hid hlz
     have HR6 := Lib.hid hO.row
     have HR8 := Lib.hid ((HR5.out.below hb).more hb.size)
     have HW6 := Lib.hid (bthen HW5.out hb)
     have H36 := Lib.hid (H35.out.on hb)
     clear hO hb hZ hcnt hgz hlz hm
     go_wp2_with fail
     go_loopw [11, 12, 13, 14] (fun s11 s12 _ _ wr => ∃ (i : Nat), i ≤ m ∧ s12 = .int .i64 (i : Nat) ∧ s11 = .int .i64 ((((Z.take i).filter (relB p)).length : Nat) : Int) ∧ Below w6.heap.size w6 wr) (fun _ s12 _ _ _ => m - (intOf s12).toNat)
     case atStart => exact ⟨0, Nat.zero_le _, rfl, rfl, Below.refl _ _⟩
     case round =>
      obtain ⟨i, hi, rfl, rfl, hbe⟩ := hrel
      have HBE := Lib.hid hbe
      have H3r := Lib.hid (H36.out.on hbe)
      clear hbe
      by_cases hlt : i < m
      ·obtain ⟨x, hx⟩ := get_ex Z (k := i) (by rw [HM.out]; exact hlt)
       obtain ⟨bM, oM, rfl, hbM, hcM⟩ := its_at2 HR6.out (fun x hx => (HGZ.out x hx).fit) i x hx
       have HXG := Lib.hid (HGZ.out x (List.mem_of_getElem? hx))
       have HXF := Lib.hid HXG.out.fit
       have HXM := Lib.hid (range_below HBE.out hbM hcM)
       have HBM := Lib.hid (show bM < wr.heap.size from Nat.lt_of_lt_of_le hbM HBE.out.size)
       have hlt2 : (i : Int) < (m : Int) := by omega
       have hm100 : (m : Int) ≤ 100 := by have := HLZ.out; omega
       have HTK := Lib.hid (show ((Z.take (i + 1)).filter (relB p)).length = ((Z.take i).filter (relB p)).length + (if covP x.1 p || covP p x.1 then 1 else 0) by
        rw [take_snoc Z i x hx, List.filter_append, List.length_append]
        congr 1
        show ([x].filter (relB p)).length = _
        unfold relB
        cases h : covP x.1 p || covP p x.1
        ·rw [List.filter_cons_of_neg (by rw [h]; decide)]; rfl
        ·rw [List.filter_cons_of_pos (by rw [h])]; rfl)
       obtain ⟨q, hqq⟩ : ∃ q, ((Z.take i).filter (relB p)).length = q := ⟨_, rfl⟩
       have hq100 : (q : Int) ≤ 100 := by
        have h1 : q ≤ m := by rw [← hqq, ← HM.out]; exact Nat.le_trans (List.length_filter_le _ _) (by rw [List.length_take]; omega)
        omega
       rw [hqq] at HTK
       rw [hqq]
       obtain ⟨b1, hb1⟩ : ∃ b, covP x.1 p = b := ⟨_, rfl⟩
       obtain ⟨b2, hb2⟩ : ∃ b, covP p x.1 = b := ⟨_, rfl⟩
       rw [hb1, hb2] at HTK
       have HC1 := Lib.hid hb1
       have HC2 := Lib.hid hb2
       clear hbM hcM hx hqq hb1 hb2
       go_wp2_with fail
       refine wp_region_rel (fun A B => A.grownBy B none) (fun A => grown_refl A _) (fun A B C h k => grown_trans h k) (relAt (List.cons (fun v _ => v = .slice (some ⟨bM, oM, none⟩) m c10) (List.cons (fun v _ => v = .int .i64 (i : Nat)) (List.cons (fun v _ => v = .pointer (some ⟨bM, oM + i * 19, none⟩)) (List.cons (fun v _ => v = .pointer (some ⟨bM, oM + i * 19, none⟩)) (List.cons (fun v _ => v = .agg x.1.cells.toArray) (List.cons (fun v _ => v = .agg p.cells.toArray) (List.cons (fun v _ => v = .bool b1) (List.cons (fun v _ => v = .bool b1) ([])))))))))) (MonoL.at_ (.cons (mono_val _) (.cons (mono_val _) (.cons (mono_val _) (.cons (mono_val _) (.cons (mono_val _) (.cons (mono_val _) (.cons (mono_val _) (.cons (mono_val _) .nil))))))))) (by kernel_rfl) (by kernel_rfl) ⟨?_, ?_, ?_, ?_, ?_, ?_, ?_, ?_, trivial⟩ ?_
       ·intro a vs W hX hR he hf K hK
        rw [if_pos (wanted_none rfl)]
        have e10 : a.eval (.tmp 10) = .slice (some ⟨bM, oM, none⟩) m c10 := hf 10 (by kernel_rfl)
        refine wp_value (v := .slice (some ⟨bM, oM, none⟩) m c10) ?_ (hK _ _ rfl (grown_refl W _))
        simp only [execOp, e10]
        try go_simp
        try (first | rfl | omega | (simp only [IntKind.wrap_i64, IntKind.wrap_u8, IntKind.wrap_u64, IntKind.wrap_u16, IntKind.wrap_u32]; omega) | (rw [Int.tmod_eq_emod_of_nonneg (by omega)]) | (rw [Int.tmod_eq_emod_of_nonneg (by omega)]; omega))
       ·intro a vs W hX hR he hf K hK
        rw [if_pos (wanted_none rfl)]
        have e12 : a.eval (.tmp 12) = .int .i64 (i : Nat) := hf 12 (by kernel_rfl)
        refine wp_value (v := .int .i64 (i : Nat)) ?_ (hK _ _ rfl (grown_refl W _))
        simp only [execOp, e12]
        try go_simp
        try (first | rfl | omega | (simp only [IntKind.wrap_i64, IntKind.wrap_u8, IntKind.wrap_u64, IntKind.wrap_u16, IntKind.wrap_u32]; omega) | (rw [Int.tmod_eq_emod_of_nonneg (by omega)]) | (rw [Int.tmod_eq_emod_of_nonneg (by omega)]; omega))
       ·intro a vs W hX hR he hf K hK
        rw [if_pos (wanted_none rfl)]
        have e61 : a.eval (.tmp 61) = .slice (some ⟨bM, oM, none⟩) m c10 := (he 0 61 (by kernel_rfl) rfl).trans (hR 0 (by kernel_rfl))
        have e62 : a.eval (.tmp 62) = .int .i64 (i : Nat) := (he 1 62 (by kernel_rfl) rfl).trans (hR 1 (by kernel_rfl))
        refine wp_value (v := .pointer (some ⟨bM, oM + i * 19, none⟩)) ?_ (hK _ _ rfl (grown_refl W _))
        simp only [execOp, e61, e62]
        go_simp
       ·intro a vs W hX hR he hf K hK
        rw [if_pos (wanted_none rfl)]
        have e63 : a.eval (.tmp 63) = .pointer (some ⟨bM, oM + i * 19, none⟩) := (he 2 63 (by kernel_rfl) rfl).trans (hR 2 (by kernel_rfl))
        refine wp_value (v := .pointer (some ⟨bM, oM + i * 19, none⟩)) ?_ (hK _ _ rfl (grown_refl W _))
        simp only [execOp, e63]
        try go_simp
        try (first | rfl | omega | (simp only [IntKind.wrap_i64, IntKind.wrap_u8, IntKind.wrap_u64, IntKind.wrap_u16, IntKind.wrap_u32]; omega) | (rw [Int.tmod_eq_emod_of_nonneg (by omega)]) | (rw [Int.tmod_eq_emod_of_nonneg (by omega)]; omega))
       ·intro a vs W hX hR he hf K hK
        rw [if_pos (wanted_none rfl)]
        have e64 : a.eval (.tmp 64) = .pointer (some ⟨bM, oM + i * 19, none⟩) := (he 3 64 (by kernel_rfl) rfl).trans (hR 3 (by kernel_rfl))
        have hbW := bthen (below_drew _) (grow_below hX)
        exact wp_value (exec_load_mid 30 _ rfl bM (oM + i * 19) e64 x.1.cells _ (range_below hbW HBM.out (it_px HXM.out)) Try.underlying30 rfl (sizePx _ HXF.out.addr)) (hK _ _ rfl (grown_refl W _))
       ·intro a vs W hX hR he hf K hK
        rw [if_pos (wanted_none rfl)]
        have e3 : a.eval (.tmp 3) = .pointer (some ⟨g3, 0, none⟩) := hf 3 (by kernel_rfl)
        have hbW := bthen (below_drew _) (grow_below hX)
        exact wp_value (exec_load 30 _ rfl g3 e3 30 p.cells _ (H3r.out.on hbW) Try.underlying30 rfl (sizePx _ HPF.out.addr)) (hK _ _ rfl (grown_refl W _))
       ·intro a vs W hX hR he hf K hK
        rw [if_pos (wanted_none rfl)]
        have e65 : a.eval (.tmp 65) = .agg x.1.cells.toArray := (he 4 65 (by kernel_rfl) rfl).trans (hR 4 (by kernel_rfl))
        have e66 : a.eval (.tmp 66) = .agg p.cells.toArray := (he 5 66 (by kernel_rfl) rfl).trans (hR 5 (by kernel_rfl))
        refine wp_enter (f := 16) (args := #[.agg x.1.cells.toArray, .agg p.cells.toArray]) (by simp only [execOp, e65, e66]; go_simp; exact ⟨by simpa [Act.eval] using e65, by simpa [Act.eval] using e66⟩) ((rcovers_any x.1 HXG.out p HGP.out W).mono ?_)
        rintro e w' ⟨rfl, hb⟩
        rw [HC1.out]
        exact ⟨_, rfl, hK _ _ rfl (below_grow hb _)⟩
       ·intro a vs W hX hR he hf K hK
        rw [if_pos (wanted_none rfl)]
        have e67 : a.eval (.tmp 67) = .bool b1 := (he 6 67 (by kernel_rfl) rfl).trans (hR 6 (by kernel_rfl))
        refine wp_value (v := .bool b1) ?_ (hK _ _ rfl (grown_refl W _))
        simp only [execOp, e67]
        try go_simp
        try (first | rfl | omega | (simp only [IntKind.wrap_i64, IntKind.wrap_u8, IntKind.wrap_u64, IntKind.wrap_u16, IntKind.wrap_u32]; omega) | (rw [Int.tmod_eq_emod_of_nonneg (by omega)]) | (rw [Int.tmod_eq_emod_of_nonneg (by omega)]; omega))
       ·intro vs wx hXx hR
        have q0 := hR 0 (by decide)
        have q1 := hR 1 (by decide)
        have q2 := hR 2 (by decide)
        have q3 := hR 3 (by decide)
        have q4 := hR 4 (by decide)
        have q5 := hR 5 (by decide)
        have q6 := hR 6 (by decide)
        have q7 := hR 7 (by decide)
        change vs 0 = .slice (some ⟨bM, oM, none⟩) m c10 at q0
        change vs 1 = .int .i64 (i : Nat) at q1
        change vs 2 = .pointer (some ⟨bM, oM + i * 19, none⟩) at q2
        change vs 3 = .pointer (some ⟨bM, oM + i * 19, none⟩) at q3
        change vs 4 = .agg x.1.cells.toArray at q4
        change vs 5 = .agg p.cells.toArray at q5
        change vs 6 = .bool b1 at q6
        change vs 7 = .bool b1 at q7
        simp only [putAll, Act.put, List.setIfInBounds_toArray, List.set_cons_zero, List.set_cons_succ, q0, q1, q2, q3, q4, q5, q6, q7]
        clear q0 q1 q2 q3 q4 q5 q6 q7
        clear hR
        replace HBE := Lib.hid (HBE.out.trans ((bthen (below_drew _) (grow_below hXx)).mono HBE.out.size))
        replace H3r := Lib.hid (H3r.out.on (bthen (below_drew _) (grow_below hXx)))
        replace HXM := Lib.hid (range_below (bthen (below_drew _) (grow_below hXx)) HBM.out HXM.out)
        replace HBM := Lib.hid (Nat.lt_of_lt_of_le HBM.out (bthen (below_drew _) (grow_below hXx)).size)
        clear hXx
        go_wp2_with fail
        refine wp_region_rel (fun A B => A.grownBy B none) (fun A => grown_refl A _) (fun A B C h k => grown_trans h k) (relAt (List.cons (fun v _ => v = .agg p.cells.toArray) (List.cons (fun v _ => v = .slice (some ⟨bM, oM, none⟩) m c10) (List.cons (fun v _ => v = .int .i64 (i : Nat)) (List.cons (fun v _ => v = .pointer (some ⟨bM, oM + i * 19, none⟩)) (List.cons (fun v _ => v = .pointer (some ⟨bM, oM + i * 19, none⟩)) (List.cons (fun v _ => v = .agg x.1.cells.toArray) (List.cons (fun v _ => v = .bool b2) (List.cons (fun v _ => v = .bool b2) ([])))))))))) (MonoL.at_ (.cons (mono_val _) (.cons (mono_val _) (.cons (mono_val _) (.cons (mono_val _) (.cons (mono_val _) (.cons (mono_val _) (.cons (mono_val _) (.cons (mono_val _) .nil))))))))) (by kernel_rfl) (by kernel_rfl) ⟨?_, ?_, ?_, ?_, ?_, ?_, ?_, ?_, trivial⟩ ?_
        ·intro a vs W hX hR he hf K hK
         rw [if_pos (wanted_none rfl)]
         have e3 : a.eval (.tmp 3) = .pointer (some ⟨g3, 0, none⟩) := hf 3 (by kernel_rfl)
         have hbW := bthen (below_drew _) (grow_below hX)
         exact wp_value (exec_load 30 _ rfl g3 e3 30 p.cells _ (H3r.out.on hbW) Try.underlying30 rfl (sizePx _ HPF.out.addr)) (hK _ _ rfl (grown_refl W _))
        ·intro a vs W hX hR he hf K hK
         rw [if_pos (wanted_none rfl)]
         have e10 : a.eval (.tmp 10) = .slice (some ⟨bM, oM, none⟩) m c10 := hf 10 (by kernel_rfl)
         refine wp_value (v := .slice (some ⟨bM, oM, none⟩) m c10) ?_ (hK _ _ rfl (grown_refl W _))
         simp only [execOp, e10]
         try go_simp
         try (first | rfl | omega | (simp only [IntKind.wrap_i64, IntKind.wrap_u8, IntKind.wrap_u64, IntKind.wrap_u16, IntKind.wrap_u32]; omega) | (rw [Int.tmod_eq_emod_of_nonneg (by omega)]) | (rw [Int.tmod_eq_emod_of_nonneg (by omega)]; omega))
        ·intro a vs W hX hR he hf K hK
         rw [if_pos (wanted_none rfl)]
         have e12 : a.eval (.tmp 12) = .int .i64 (i : Nat) := hf 12 (by kernel_rfl)
         refine wp_value (v := .int .i64 (i : Nat)) ?_ (hK _ _ rfl (grown_refl W _))
         simp only [execOp, e12]
         try go_simp
         try (first | rfl | omega | (simp only [IntKind.wrap_i64, IntKind.wrap_u8, IntKind.wrap_u64, IntKind.wrap_u16, IntKind.wrap_u32]; omega) | (rw [Int.tmod_eq_emod_of_nonneg (by omega)]) | (rw [Int.tmod_eq_emod_of_nonneg (by omega)]; omega))
        ·intro a vs W hX hR he hf K hK
         rw [if_pos (wanted_none rfl)]
         have e69 : a.eval (.tmp 69) = .slice (some ⟨bM, oM, none⟩) m c10 := (he 1 69 (by kernel_rfl) rfl).trans (hR 1 (by kernel_rfl))
         have e70 : a.eval (.tmp 70) = .int .i64 (i : Nat) := (he 2 70 (by kernel_rfl) rfl).trans (hR 2 (by kernel_rfl))
         refine wp_value (v := .pointer (some ⟨bM, oM + i * 19, none⟩)) ?_ (hK _ _ rfl (grown_refl W _))
         simp only [execOp, e69, e70]
         go_simp
        ·intro a vs W hX hR he hf K hK
         rw [if_pos (wanted_none rfl)]
         have e71 : a.eval (.tmp 71) = .pointer (some ⟨bM, oM + i * 19, none⟩) := (he 3 71 (by kernel_rfl) rfl).trans (hR 3 (by kernel_rfl))
         refine wp_value (v := .pointer (some ⟨bM, oM + i * 19, none⟩)) ?_ (hK _ _ rfl (grown_refl W _))
         simp only [execOp, e71]
         try go_simp
         try (first | rfl | omega | (simp only [IntKind.wrap_i64, IntKind.wrap_u8, IntKind.wrap_u64, IntKind.wrap_u16, IntKind.wrap_u32]; omega) | (rw [Int.tmod_eq_emod_of_nonneg (by omega)]) | (rw [Int.tmod_eq_emod_of_nonneg (by omega)]; omega))
        ·intro a vs W hX hR he hf K hK
         rw [if_pos (wanted_none rfl)]
         have e72 : a.eval (.tmp 72) = .pointer (some ⟨bM, oM + i * 19, none⟩) := (he 4 72 (by kernel_rfl) rfl).trans (hR 4 (by kernel_rfl))
         have hbW := bthen (below_drew _) (grow_below hX)
         exact wp_value (exec_load_mid 30 _ rfl bM (oM + i * 19) e72 x.1.cells _ (range_below hbW HBM.out (it_px HXM.out)) Try.underlying30 rfl (sizePx _ HXF.out.addr)) (hK _ _ rfl (grown_refl W _))
        ·intro a vs W hX hR he hf K hK
         rw [if_pos (wanted_none rfl)]
         have e68 : a.eval (.tmp 68) = .agg p.cells.toArray := (he 0 68 (by kernel_rfl) rfl).trans (hR 0 (by kernel_rfl))
         have e73 : a.eval (.tmp 73) = .agg x.1.cells.toArray := (he 5 73 (by kernel_rfl) rfl).trans (hR 5 (by kernel_rfl))
         refine wp_enter (f := 16) (args := #[.agg p.cells.toArray, .agg x.1.cells.toArray]) (by simp only [execOp, e68, e73]; go_simp; exact ⟨by simpa [Act.eval] using e68, by simpa [Act.eval] using e73⟩) ((rcovers_any p HGP.out x.1 HXG.out W).mono ?_)
         rintro e w' ⟨rfl, hb⟩
         rw [HC2.out]
         exact ⟨_, rfl, hK _ _ rfl (below_grow hb _)⟩
        ·intro a vs W hX hR he hf K hK
         rw [if_pos (wanted_none rfl)]
         have e74 : a.eval (.tmp 74) = .bool b2 := (he 6 74 (by kernel_rfl) rfl).trans (hR 6 (by kernel_rfl))
         refine wp_value (v := .bool b2) ?_ (hK _ _ rfl (grown_refl W _))
         simp only [execOp, e74]
         try go_simp
         try (first | rfl | omega | (simp only [IntKind.wrap_i64, IntKind.wrap_u8, IntKind.wrap_u64, IntKind.wrap_u16, IntKind.wrap_u32]; omega) | (rw [Int.tmod_eq_emod_of_nonneg (by omega)]) | (rw [Int.tmod_eq_emod_of_nonneg (by omega)]; omega))
        ·intro vs wz hXx hR
         have q0 := hR 0 (by decide)
         have q1 := hR 1 (by decide)
         have q2 := hR 2 (by decide)
         have q3 := hR 3 (by decide)
         have q4 := hR 4 (by decide)
         have q5 := hR 5 (by decide)
         have q6 := hR 6 (by decide)
         have q7 := hR 7 (by decide)
         change vs 0 = .agg p.cells.toArray at q0
         change vs 1 = .slice (some ⟨bM, oM, none⟩) m c10 at q1
         change vs 2 = .int .i64 (i : Nat) at q2
         change vs 3 = .pointer (some ⟨bM, oM + i * 19, none⟩) at q3
         change vs 4 = .pointer (some ⟨bM, oM + i * 19, none⟩) at q4
         change vs 5 = .agg x.1.cells.toArray at q5
         change vs 6 = .bool b2 at q6
         change vs 7 = .bool b2 at q7
         simp only [putAll, Act.put, List.setIfInBounds_toArray, List.set_cons_zero, List.set_cons_succ, q0, q1, q2, q3, q4, q5, q6, q7]
         clear q0 q1 q2 q3 q4 q5 q6 q7
         clear hR
         replace HBE := Lib.hid (HBE.out.trans ((bthen (below_drew _) (grow_below hXx)).mono HBE.out.size))
         replace H3r := Lib.hid (H3r.out.on (bthen (below_drew _) (grow_below hXx)))
         replace HXM := Lib.hid (range_below (bthen (below_drew _) (grow_below hXx)) HBM.out HXM.out)
         replace HBM := Lib.hid (Nat.lt_of_lt_of_le HBM.out (bthen (below_drew _) (grow_below hXx)).size)
         clear hXx
         cases b1 <;> cases b2
         all_goals
          go_wp2_with fail
          go_roundw
          case rel => exact ⟨i + 1, by omega, by simp, by rw [HTK.out]; simp, HBE.out⟩
          case measure => simp [intOf]; omega
      ·obtain rfl : i = m := by omega
       have htk : Z.take i = Z := List.take_of_length_le (by rw [HM.out]; exact Nat.le_refl _)
       obtain ⟨tot, htot⟩ : ∃ t, n8 + n9 = t := ⟨_, rfl⟩
       have HTOT := Lib.hid htot
       rw [htk, HCN.out, htot]
       clear htk htot
       have HR8r := Lib.hid ((HR8.out.below HBE.out).more HBE.out.size)
       have HWr := Lib.hid (bthen HW6.out HBE.out)
       go_wp2_with fail
       obtain ⟨w7, hw7⟩ : ∃ x, wr = x := ⟨_, rfl⟩
       subst hw7
       go_loopw [15] (fun s15 wq => ∃ (j : Nat), 1 ≤ j ∧ (j ≤ n8 ∨ j = 1) ∧ s15 = .int .i64 (j : Nat) ∧ Below wr.heap.size wr wq) (fun s15 _ => n8 - (intOf s15).toNat)
       case atStart => exact ⟨1, by omega, .inr rfl, rfl, Below.refl _ _⟩
       case round =>
        obtain ⟨j, hj1, hj2, rfl, hbe⟩ := hrel
        have HBF := Lib.hid hbe
        clear hbe
        by_cases hlt : j < n8
        ·obtain ⟨q, rfl⟩ : ∃ q, j = q + 1 := ⟨j - 1, by omega⟩
         obtain ⟨x, hx⟩ := get_ex M8 (k := q + 1) (by rw [HL8.out]; exact hlt)
         obtain ⟨y, hy⟩ := get_ex M8 (k := q) (by rw [HL8.out]; omega)
         obtain ⟨b8, o8, rfl, hb8, k1⟩ := its_at2 HR8r.out HFI8.out (q + 1) x hx
         obtain ⟨b8', o8', he9, _, k0⟩ := its_at2 HR8r.out HFI8.out q y hy
         injection he9 with he9
         injection he9 with h1 h2
         subst h1
         subst h2
         have HXF := Lib.hid (HFI8.out x (List.mem_of_getElem? hx))
         have HYF := Lib.hid (HFI8.out y (List.mem_of_getElem? hy))
         have HXM := Lib.hid (range_below HBF.out hb8 k1)
         have HYM := Lib.hid (range_below HBF.out hb8 k0)
         have HBM := Lib.hid (Nat.lt_of_lt_of_le hb8 HBF.out.size)
         have HLT := Lib.hid (show x.1.len < y.1.len by
          have h9 := List.pairwise_iff_getElem.1 HDN.out q (q + 1) (by rw [HL8.out]; omega) (by rw [HL8.out]; exact hlt) (by omega)
          rw [(List.getElem?_eq_some_iff.1 hy).2, (List.getElem?_eq_some_iff.1 hx).2] at h9
          exact h9)
         obtain ⟨j, hjq⟩ : ∃ j, q + 1 = j := ⟨_, rfl⟩
         have HJQ := Lib.hid (show (j : Int) - 1 = (q : Int) by omega)
         rw [hjq] at hlt hj1 HXM
         try rw [hjq]
         have HJ := Lib.hid hjq
         have hlt2 : (j : Int) < (n8 : Int) := by omega
         have hq2 : (q : Int) < (n8 : Int) := by omega
         have hn50 : (n8 : Int) ≤ 50 := by have := HN8.out; omega
         clear hx hy k0 k1 hb8 hjq hj2
         go_wp2_with fail
         refine wp_region_rel (fun A B => A.grownBy B none) (fun A => grown_refl A _) (fun A B C h k => grown_trans h k) (relAt (List.cons (fun v _ => v = .slice (some ⟨b8, o8, none⟩) n8 c8) (List.cons (fun v _ => v = .int .i64 (j : Nat)) (List.cons (fun v _ => v = .pointer (some ⟨b8, o8 + j * 19, none⟩)) (List.cons (fun v _ => v = .pointer (some ⟨b8, o8 + j * 19, none⟩)) (List.cons (fun v _ => v = .pointer (some ⟨b8, o8 + j * 19 + 17, none⟩)) (List.cons (fun v _ => v = .int .i64 x.1.len) (List.cons (fun v _ => v = .slice (some ⟨b8, o8, none⟩) n8 c8) (List.cons (fun v _ => v = .int .i64 (j : Nat)) (List.cons (fun v _ => v = .int .i64 (q : Nat)) (List.cons (fun v _ => v = .pointer (some ⟨b8, o8 + q * 19, none⟩)) (List.cons (fun v _ => v = .pointer (some ⟨b8, o8 + q * 19, none⟩)) (List.cons (fun v _ => v = .pointer (some ⟨b8, o8 + q * 19 + 17, none⟩)) (List.cons (fun v _ => v = .int .i64 y.1.len) (List.cons (fun v _ => v = .bool false) ([])))))))))))))))) (MonoL.at_ (.cons (mono_val _) (.cons (mono_val _) (.cons (mono_val _) (.cons (mono_val _) (.cons (mono_val _) (.cons (mono_val _) (.cons (mono_val _) (.cons (mono_val _) (.cons (mono_val _) (.cons (mono_val _) (.cons (mono_val _) (.cons (mono_val _) (.cons (mono_val _) (.cons (mono_val _) .nil))))))))))))))) (by kernel_rfl) (by kernel_rfl) ⟨?_, ?_, ?_, ?_, ?_, ?_, ?_, ?_, ?_, ?_, ?_, ?_, ?_, ?_, trivial⟩ ?_
         ·intro a vs W hX hR he hf K hK
          rw [if_pos (wanted_none rfl)]
          have e8 : a.eval (.tmp 8) = .slice (some ⟨b8, o8, none⟩) n8 c8 := hf 8 (by kernel_rfl)
          refine wp_value (v := .slice (some ⟨b8, o8, none⟩) n8 c8) ?_ (hK _ _ rfl (grown_refl W _))
          simp only [execOp, e8]
          try go_simp
          try (first | rfl | omega | (simp only [IntKind.wrap_i64, IntKind.wrap_u8, IntKind.wrap_u64, IntKind.wrap_u16, IntKind.wrap_u32]; omega) | (rw [Int.tmod_eq_emod_of_nonneg (by omega)]) | (rw [Int.tmod_eq_emod_of_nonneg (by omega)]; omega))
         ·intro a vs W hX hR he hf K hK
          rw [if_pos (wanted_none rfl)]
          have e15 : a.eval (.tmp 15) = .int .i64 (j : Nat) := hf 15 (by kernel_rfl)
          refine wp_value (v := .int .i64 (j : Nat)) ?_ (hK _ _ rfl (grown_refl W _))
          simp only [execOp, e15]
          try go_simp
          try (first | rfl | omega | (simp only [IntKind.wrap_i64, IntKind.wrap_u8, IntKind.wrap_u64, IntKind.wrap_u16, IntKind.wrap_u32]; omega) | (rw [Int.tmod_eq_emod_of_nonneg (by omega)]) | (rw [Int.tmod_eq_emod_of_nonneg (by omega)]; omega))
         ·intro a vs W hX hR he hf K hK
          rw [if_pos (wanted_none rfl)]
          have e87 : a.eval (.tmp 87) = .slice (some ⟨b8, o8, none⟩) n8 c8 := (he 0 87 (by kernel_rfl) rfl).trans (hR 0 (by kernel_rfl))
          have e88 : a.eval (.tmp 88) = .int .i64 (j : Nat) := (he 1 88 (by kernel_rfl) rfl).trans (hR 1 (by kernel_rfl))
          refine wp_value (v := .pointer (some ⟨b8, o8 + j * 19, none⟩)) ?_ (hK _ _ rfl (grown_refl W _))
          simp only [execOp, e87, e88]
          go_simp
         ·intro a vs W hX hR he hf K hK
          rw [if_pos (wanted_none rfl)]
          have e89 : a.eval (.tmp 89) = .pointer (some ⟨b8, o8 + j * 19, none⟩) := (he 2 89 (by kernel_rfl) rfl).trans (hR 2 (by kernel_rfl))
          refine wp_value (v := .pointer (some ⟨b8, o8 + j * 19, none⟩)) ?_ (hK _ _ rfl (grown_refl W _))
          simp only [execOp, e89]
          try go_simp
          try (first | rfl | omega | (simp only [IntKind.wrap_i64, IntKind.wrap_u8, IntKind.wrap_u64, IntKind.wrap_u16, IntKind.wrap_u32]; omega) | (rw [Int.tmod_eq_emod_of_nonneg (by omega)]) | (rw [Int.tmod_eq_emod_of_nonneg (by omega)]; omega))
         ·intro a vs W hX hR he hf K hK
          rw [if_pos (wanted_none rfl)]
          have e90 : a.eval (.tmp 90) = .pointer (some ⟨b8, o8 + j * 19, none⟩) := (he 3 90 (by kernel_rfl) rfl).trans (hR 3 (by kernel_rfl))
          refine wp_value (v := .pointer (some ⟨b8, o8 + j * 19 + 17, none⟩)) ?_ (hK _ _ rfl (grown_refl W _))
          simp only [execOp, e90]
          try go_simp
          try (first | rfl | omega | (simp only [IntKind.wrap_i64, IntKind.wrap_u8, IntKind.wrap_u64, IntKind.wrap_u16, IntKind.wrap_u32]; omega) | (rw [Int.tmod_eq_emod_of_nonneg (by omega)]) | (rw [Int.tmod_eq_emod_of_nonneg (by omega)]; omega))
         ·intro a vs W hX hR he hf K hK
          rw [if_pos (wanted_none rfl)]
          have e91 : a.eval (.tmp 91) = .pointer (some ⟨b8, o8 + j * 19 + 17, none⟩) := (he 4 91 (by kernel_rfl) rfl).trans (hR 4 (by kernel_rfl))
          have hbW := bthen (below_drew _) (grow_below hX)
          have hc : W.cell? ⟨b8, o8 + j * 19 + 17, none⟩ = some (.int .i64 x.1.len) := range_below hbW HBM.out HXM.out 17 _ (it_len HXF.out.addr)
          refine wp_value (v := _) ?_ (hK _ _ rfl (grown_refl W _))
          simp only [execOp, e91]
          try go_simp
         ·intro a vs W hX hR he hf K hK
          rw [if_pos (wanted_none rfl)]
          have e8 : a.eval (.tmp 8) = .slice (some ⟨b8, o8, none⟩) n8 c8 := hf 8 (by kernel_rfl)
          refine wp_value (v := .slice (some ⟨b8, o8, none⟩) n8 c8) ?_ (hK _ _ rfl (grown_refl W _))
          simp only [execOp, e8]
          try go_simp
          try (first | rfl | omega | (simp only [IntKind.wrap_i64, IntKind.wrap_u8, IntKind.wrap_u64, IntKind.wrap_u16, IntKind.wrap_u32]; omega) | (rw [Int.tmod_eq_emod_of_nonneg (by omega)]) | (rw [Int.tmod_eq_emod_of_nonneg (by omega)]; omega))
         ·intro a vs W hX hR he hf K hK
          rw [if_pos (wanted_none rfl)]
          have e15 : a.eval (.tmp 15) = .int .i64 (j : Nat) := hf 15 (by kernel_rfl)
          refine wp_value (v := .int .i64 (j : Nat)) ?_ (hK _ _ rfl (grown_refl W _))
          simp only [execOp, e15]
          try go_simp
          try (first | rfl | omega | (simp only [IntKind.wrap_i64, IntKind.wrap_u8, IntKind.wrap_u64, IntKind.wrap_u16, IntKind.wrap_u32]; omega) | (rw [Int.tmod_eq_emod_of_nonneg (by omega)]) | (rw [Int.tmod_eq_emod_of_nonneg (by omega)]; omega))
         ·intro a vs W hX hR he hf K hK
          rw [if_pos (wanted_none rfl)]
          have e94 : a.eval (.tmp 94) = .int .i64 (j : Nat) := (he 7 94 (by kernel_rfl) rfl).trans (hR 7 (by kernel_rfl))
          refine wp_value (v := .int .i64 (q : Nat)) ?_ (hK _ _ rfl (grown_refl W _))
          rw [← HJQ.out]
          simp only [execOp, e94]
          go_simp
          simp only [IntKind.wrap_i64]
          omega
         ·intro a vs W hX hR he hf K hK
          rw [if_pos (wanted_none rfl)]
          have e93 : a.eval (.tmp 93) = .slice (some ⟨b8, o8, none⟩) n8 c8 := (he 6 93 (by kernel_rfl) rfl).trans (hR 6 (by kernel_rfl))
          have e95 : a.eval (.tmp 95) = .int .i64 (q : Nat) := (he 8 95 (by kernel_rfl) rfl).trans (hR 8 (by kernel_rfl))
          refine wp_value (v := .pointer (some ⟨b8, o8 + q * 19, none⟩)) ?_ (hK _ _ rfl (grown_refl W _))
          simp only [execOp, e93, e95]
          go_simp
         ·intro a vs W hX hR he hf K hK
          rw [if_pos (wanted_none rfl)]
          have e96 : a.eval (.tmp 96) = .pointer (some ⟨b8, o8 + q * 19, none⟩) := (he 9 96 (by kernel_rfl) rfl).trans (hR 9 (by kernel_rfl))
          refine wp_value (v := .pointer (some ⟨b8, o8 + q * 19, none⟩)) ?_ (hK _ _ rfl (grown_refl W _))
          simp only [execOp, e96]
          try go_simp
          try (first | rfl | omega | (simp only [IntKind.wrap_i64, IntKind.wrap_u8, IntKind.wrap_u64, IntKind.wrap_u16, IntKind.wrap_u32]; omega) | (rw [Int.tmod_eq_emod_of_nonneg (by omega)]) | (rw [Int.tmod_eq_emod_of_nonneg (by omega)]; omega))
         ·intro a vs W hX hR he hf K hK
          rw [if_pos (wanted_none rfl)]
          have e97 : a.eval (.tmp 97) = .pointer (some ⟨b8, o8 + q * 19, none⟩) := (he 10 97 (by kernel_rfl) rfl).trans (hR 10 (by kernel_rfl))
          refine wp_value (v := .pointer (some ⟨b8, o8 + q * 19 + 17, none⟩)) ?_ (hK _ _ rfl (grown_refl W _))
          simp only [execOp, e97]
          try go_simp
          try (first | rfl | omega | (simp only [IntKind.wrap_i64, IntKind.wrap_u8, IntKind.wrap_u64, IntKind.wrap_u16, IntKind.wrap_u32]; omega) | (rw [Int.tmod_eq_emod_of_nonneg (by omega)]) | (rw [Int.tmod_eq_emod_of_nonneg (by omega)]; omega))
         ·intro a vs W hX hR he hf K hK
          rw [if_pos (wanted_none rfl)]
          have e98 : a.eval (.tmp 98) = .pointer (some ⟨b8, o8 + q * 19 + 17, none⟩) := (he 11 98 (by kernel_rfl) rfl).trans (hR 11 (by kernel_rfl))
          have hbW := bthen (below_drew _) (grow_below hX)
          have hc : W.cell? ⟨b8, o8 + q * 19 + 17, none⟩ = some (.int .i64 y.1.len) := range_below hbW HBM.out HYM.out 17 _ (it_len HYF.out.addr)
          refine wp_value (v := _) ?_ (hK _ _ rfl (grown_refl W _))
          simp only [execOp, e98]
          try go_simp
         ·intro a vs W hX hR he hf K hK
          rw [if_pos (wanted_none rfl)]
          have e92 : a.eval (.tmp 92) = .int .i64 x.1.len := (he 5 92 (by kernel_rfl) rfl).trans (hR 5 (by kernel_rfl))
          have e99 : a.eval (.tmp 99) = .int .i64 y.1.len := (he 12 99 (by kernel_rfl) rfl).trans (hR 12 (by kernel_rfl))
          refine wp_value (v := .bool false) ?_ (hK _ _ rfl (grown_refl W _))
          have h9 := HLT.out
          simp only [execOp, e92, e99]
          go_simp
          try omega
         ·intro vs wx hXx hR
          have q0 := hR 0 (by decide)
          have q1 := hR 1 (by decide)
          have q2 := hR 2 (by decide)
          have q3 := hR 3 (by decide)
          have q4 := hR 4 (by decide)
          have q5 := hR 5 (by decide)
          have q6 := hR 6 (by decide)
          have q7 := hR 7 (by decide)
          have q8 := hR 8 (by decide)
          have q9 := hR 9 (by decide)
          have q10 := hR 10 (by decide)
          have q11 := hR 11 (by decide)
          have q12 := hR 12 (by decide)
          have q13 := hR 13 (by decide)
          change vs 0 = .slice (some ⟨b8, o8, none⟩) n8 c8 at q0
          change vs 1 = .int .i64 (j : Nat) at q1
          change vs 2 = .pointer (some ⟨b8, o8 + j * 19, none⟩) at q2
          change vs 3 = .pointer (some ⟨b8, o8 + j * 19, none⟩) at q3
          change vs 4 = .pointer (some ⟨b8, o8 + j * 19 + 17, none⟩) at q4
          change vs 5 = .int .i64 x.1.len at q5
          change vs 6 = .slice (some ⟨b8, o8, none⟩) n8 c8 at q6
          change vs 7 = .int .i64 (j : Nat) at q7
          change vs 8 = .int .i64 (q : Nat) at q8
          change vs 9 = .pointer (some ⟨b8, o8 + q * 19, none⟩) at q9
          change vs 10 = .pointer (some ⟨b8, o8 + q * 19, none⟩) at q10
          change vs 11 = .pointer (some ⟨b8, o8 + q * 19 + 17, none⟩) at q11
          change vs 12 = .int .i64 y.1.len at q12
          change vs 13 = .bool false at q13
          simp only [putAll, Act.put, List.setIfInBounds_toArray, List.set_cons_zero, List.set_cons_succ, q0, q1, q2, q3, q4, q5, q6, q7, q8, q9, q10, q11, q12, q13]
          clear q0 q1 q2 q3 q4 q5 q6 q7 q8 q9 q10 q11 q12 q13
          clear hR
          replace HBF := Lib.hid (HBF.out.trans ((bthen (below_drew _) (grow_below hXx)).mono HBF.out.size))
          clear hXx
          go_wp2_with fail
          go_roundw
          case rel => exact ⟨j + 1, by omega, .inl (by omega), by simp, HBF.out⟩
          case measure => simp [intOf]; omega
        ·have HWq := Lib.hid (bthen HWr.out HBF.out)
         have H3q := Lib.hid (H3r.out.on HBF.out)
         have hn8 : (n8 : Int) ≤ 50 := by have := HN8.out; omega
         have hn9 : (n9 : Int) ≤ 50 := by have := HN9.out; omega
         have hlt2 : ¬ (j : Int) < (n8 : Int) := by omega
         go_wp2_with fail
         refine wp_region_rel (fun A B => A.grownBy B none) (fun A => grown_refl A _) (fun A B C h k => grown_trans h k) (relAt (List.cons (fun v _ => v = .int .i64 (tot : Nat)) (List.cons (fun v _ => v = .slice A8 n8 c8) (List.cons (fun v _ => v = .int .i64 (n8 : Int)) (List.cons (fun v _ => v = .slice A9 n9 c9) (List.cons (fun v _ => v = .int .i64 (n9 : Int)) (List.cons (fun v _ => v = .int .i64 (tot : Nat)) (List.cons (fun v _ => v = .bool true) (List.cons (fun v _ => v = .bool true) (List.cons (fun v _ => v = .pointer none) (List.cons (fun v _ => v = .agg p.cells.toArray) (List.cons (fun v _ => v = .int .i64 1) (List.cons (fun v _ => v = .bool true) (List.cons (fun v _ => v = .bool true) (List.cons (fun v _ => v = .bool true) (List.cons (fun v _ => v = .pointer none) (List.cons (fun v _ => v = .agg p.cells.toArray) (List.cons (fun v _ => v = .int .i64 1) (List.cons (fun v _ => v = .bool true) (List.cons (fun v _ => v = .bool true) (List.cons (fun v _ => v = .bool true) (List.cons (fun v _ => v = .pointer none) (List.cons (fun v _ => ∃ A' c', v = .slice A' 0 c') (List.cons (fun v _ => v = .int .i64 0) (List.cons (fun v _ => v = .pointer none) (List.cons (fun v _ => v = .agg p.cells.toArray) (List.cons (fun v _ => ∃ A' c', v = .slice A' 0 c') (List.cons (fun v _ => v = .int .i64 0) (List.cons (fun v _ => v = .int .i64 0) (List.cons (fun v _ => v = .pointer none) (List.cons (fun v _ => v = .agg p.cells.toArray) (List.cons (fun v _ => ∃ A' c', v = .slice A' 0 c') (List.cons (fun v _ => v = .int .i64 0) (List.cons (fun v _ => v = .int .i64 0) (List.cons (fun v _ => v = .pointer none) (List.cons (fun v _ => v = .int .i64 0) (List.cons (fun v _ => v = .int .i64 0) (List.cons (fun v _ => v = .bool true) (List.cons (fun v _ => v = .bool true) (List.cons (fun v _ => v = .bool true) ([]))))))))))))))))))))))))))))))))))))))))) (MonoL.at_ (.cons (mono_val _) (.cons (mono_val _) (.cons (mono_val _) (.cons (mono_val _) (.cons (mono_val _) (.cons (mono_val _) (.cons (mono_val _) (.cons (mono_val _) (.cons (mono_val _) (.cons (mono_val _) (.cons (mono_val _) (.cons (mono_val _) (.cons (mono_val _) (.cons (mono_val _) (.cons (mono_val _) (.cons (mono_val _) (.cons (mono_val _) (.cons (mono_val _) (.cons (mono_val _) (.cons (mono_val _) (.cons (mono_val _) (.cons (fun _ _ _ h _ => h) (.cons (mono_val _) (.cons (mono_val _) (.cons (mono_val _) (.cons (fun _ _ _ h _ => h) (.cons (mono_val _) (.cons (mono_val _) (.cons (mono_val _) (.cons (mono_val _) (.cons (fun _ _ _ h _ => h) (.cons (mono_val _) (.cons (mono_val _) (.cons (mono_val _) (.cons (mono_val _) (.cons (mono_val _) (.cons (mono_val _) (.cons (mono_val _) (.cons (mono_val _) .nil)))))))))))))))))))))))))))))))))))))))) (by kernel_rfl) (by kernel_rfl) ⟨?_, ?_, ?_, ?_, ?_, ?_, ?_, ?_, ?_, ?_, ?_, ?_, ?_, ?_, ?_, ?_, ?_, ?_, ?_, ?_, ?_, ?_, ?_, ?_, ?_, ?_, ?_, ?_, ?_, ?_, ?_, ?_, ?_, ?_, ?_, ?_, ?_, ?_, ?_, trivial⟩ ?_
         ·intro a vs W hX hR he hf K hK
          rw [if_pos (wanted_none rfl)]
          have e11 : a.eval (.tmp 11) = .int .i64 (tot : Nat) := hf 11 (by kernel_rfl)
          refine wp_value (v := .int .i64 (tot : Nat)) ?_ (hK _ _ rfl (grown_refl W _))
          simp only [execOp, e11]
          try go_simp
          try (first | rfl | omega | (simp only [IntKind.wrap_i64, IntKind.wrap_u8, IntKind.wrap_u64, IntKind.wrap_u16, IntKind.wrap_u32]; omega) | (rw [Int.tmod_eq_emod_of_nonneg (by omega)]) | (rw [Int.tmod_eq_emod_of_nonneg (by omega)]; omega))
         ·intro a vs W hX hR he hf K hK
          rw [if_pos (wanted_none rfl)]
          have e8 : a.eval (.tmp 8) = .slice A8 n8 c8 := hf 8 (by kernel_rfl)
          refine wp_value (v := .slice A8 n8 c8) ?_ (hK _ _ rfl (grown_refl W _))
          simp only [execOp, e8]
          try go_simp
          try (first | rfl | omega | (simp only [IntKind.wrap_i64, IntKind.wrap_u8, IntKind.wrap_u64, IntKind.wrap_u16, IntKind.wrap_u32]; omega) | (rw [Int.tmod_eq_emod_of_nonneg (by omega)]) | (rw [Int.tmod_eq_emod_of_nonneg (by omega)]; omega))
         ·intro a vs W hX hR he hf K hK
          rw [if_pos (wanted_none rfl)]
          have e102 : a.eval (.tmp 102) = .slice A8 n8 c8 := (he 1 102 (by kernel_rfl) rfl).trans (hR 1 (by kernel_rfl))
          have f102 := e102
          simp only [Act.eval, Array.getD_eq_getD_getElem?] at f102
          refine wp_value (v := .int .i64 (n8 : Int)) ?_ (hK _ _ rfl (grown_refl W _))
          simp only [execOp, e102]
          try go_simp
          try (first | rfl | omega | (simp only [IntKind.wrap_i64, IntKind.wrap_u8, IntKind.wrap_u64, IntKind.wrap_u16, IntKind.wrap_u32]; omega) | (rw [Int.tmod_eq_emod_of_nonneg (by omega)]) | (rw [Int.tmod_eq_emod_of_nonneg (by omega)]; omega))
         ·intro a vs W hX hR he hf K hK
          rw [if_pos (wanted_none rfl)]
          have e9 : a.eval (.tmp 9) = .slice A9 n9 c9 := hf 9 (by kernel_rfl)
          refine wp_value (v := .slice A9 n9 c9) ?_ (hK _ _ rfl (grown_refl W _))
          simp only [execOp, e9]
          try go_simp
          try (first | rfl | omega | (simp only [IntKind.wrap_i64, IntKind.wrap_u8, IntKind.wrap_u64, IntKind.wrap_u16, IntKind.wrap_u32]; omega) | (rw [Int.tmod_eq_emod_of_nonneg (by omega)]) | (rw [Int.tmod_eq_emod_of_nonneg (by omega)]; omega))
         ·intro a vs W hX hR he hf K hK
          rw [if_pos (wanted_none rfl)]
          have e104 : a.eval (.tmp 104) = .slice A9 n9 c9 := (he 3 104 (by kernel_rfl) rfl).trans (hR 3 (by kernel_rfl))
          have f104 := e104
          simp only [Act.eval, Array.getD_eq_getD_getElem?] at f104
          refine wp_value (v := .int .i64 (n9 : Int)) ?_ (hK _ _ rfl (grown_refl W _))
          simp only [execOp, e104]
          try go_simp
          try (first | rfl | omega | (simp only [IntKind.wrap_i64, IntKind.wrap_u8, IntKind.wrap_u64, IntKind.wrap_u16, IntKind.wrap_u32]; omega) | (rw [Int.tmod_eq_emod_of_nonneg (by omega)]) | (rw [Int.tmod_eq_emod_of_nonneg (by omega)]; omega))
         ·intro a vs W hX hR he hf K hK
          rw [if_pos (wanted_none rfl)]
          have e103 : a.eval (.tmp 103) = .int .i64 (n8 : Int) := (he 2 103 (by kernel_rfl) rfl).trans (hR 2 (by kernel_rfl))
          have e105 : a.eval (.tmp 105) = .int .i64 (n9 : Int) := (he 4 105 (by kernel_rfl) rfl).trans (hR 4 (by kernel_rfl))
          refine wp_value (v := .int .i64 (tot : Nat)) ?_ (hK _ _ rfl (grown_refl W _))
          have h9 := HTOT.out
          simp only [execOp, e103, e105]
          go_simp
          try (simp only [IntKind.wrap_i64]; omega)
          try omega
         ·intro a vs W hX hR he hf K hK
          rw [if_pos (wanted_none rfl)]
          have e101 : a.eval (.tmp 101) = .int .i64 (tot : Nat) := (he 0 101 (by kernel_rfl) rfl).trans (hR 0 (by kernel_rfl))
          have e106 : a.eval (.tmp 106) = .int .i64 (tot : Nat) := (he 5 106 (by kernel_rfl) rfl).trans (hR 5 (by kernel_rfl))
          refine wp_value (v := .bool true) ?_ (hK _ _ rfl (grown_refl W _))
          simp only [execOp, e101, e106]
          try go_simp
          try (first | rfl | omega | (simp only [IntKind.wrap_i64, IntKind.wrap_u8, IntKind.wrap_u64, IntKind.wrap_u16, IntKind.wrap_u32]; omega) | (rw [Int.tmod_eq_emod_of_nonneg (by omega)]) | (rw [Int.tmod_eq_emod_of_nonneg (by omega)]; omega))
         ·intro a vs W hX hR he hf K hK
          rw [if_pos (wanted_none rfl)]
          have e107 : a.eval (.tmp 107) = .bool true := (he 6 107 (by kernel_rfl) rfl).trans (hR 6 (by kernel_rfl))
          refine wp_value (v := .bool true) ?_ (hK _ _ rfl (grown_refl W _))
          simp only [execOp, e107]
          try go_simp
          try (first | rfl | omega | (simp only [IntKind.wrap_i64, IntKind.wrap_u8, IntKind.wrap_u64, IntKind.wrap_u16, IntKind.wrap_u32]; omega) | (rw [Int.tmod_eq_emod_of_nonneg (by omega)]) | (rw [Int.tmod_eq_emod_of_nonneg (by omega)]; omega))
         ·intro a vs W hX hR he hf K hK
          have e108 : a.eval (.tmp 108) = .bool true := (he 7 108 (by kernel_rfl) rfl).trans (hR 7 (by kernel_rfl))
          refine Eq.mpr (if_pos (by exact (wanted_some rfl rfl e108).trans rfl)) ?_
          have e16 : a.eval (.tmp 16) = .pointer none := hf 16 (by kernel_rfl)
          refine wp_value (v := .pointer none) ?_ (hK _ _ rfl (grown_refl W _))
          simp only [execOp, e16]
          try go_simp
          try (first | rfl | omega | (simp only [IntKind.wrap_i64, IntKind.wrap_u8, IntKind.wrap_u64, IntKind.wrap_u16, IntKind.wrap_u32]; omega) | (rw [Int.tmod_eq_emod_of_nonneg (by omega)]) | (rw [Int.tmod_eq_emod_of_nonneg (by omega)]; omega))
         ·intro a vs W hX hR he hf K hK
          have e108 : a.eval (.tmp 108) = .bool true := (he 7 108 (by kernel_rfl) rfl).trans (hR 7 (by kernel_rfl))
          refine Eq.mpr (if_pos (by exact (wanted_some rfl rfl e108).trans rfl)) ?_
          have e3 : a.eval (.tmp 3) = .pointer (some ⟨g3, 0, none⟩) := hf 3 (by kernel_rfl)
          have hbW := bthen (below_drew _) (grow_below hX)
          exact wp_value (exec_load 30 _ rfl g3 e3 30 p.cells _ (H3q.out.on hbW) Try.underlying30 rfl (sizePx _ HPF.out.addr)) (hK _ _ rfl (grown_refl W _))
         ·intro a vs W hX hR he hf K hK
          have e108 : a.eval (.tmp 108) = .bool true := (he 7 108 (by kernel_rfl) rfl).trans (hR 7 (by kernel_rfl))
          refine Eq.mpr (if_pos (by exact (wanted_some rfl rfl e108).trans rfl)) ?_
          have e109 : a.eval (.tmp 109) = .pointer none := (he 8 109 (by kernel_rfl) rfl).trans (hR 8 (by kernel_rfl))
          have e110 : a.eval (.tmp 110) = .agg p.cells.toArray := (he 9 110 (by kernel_rfl) rfl).trans (hR 9 (by kernel_rfl))
          have hcl := fput_any (fb_none W) (by omega) p HPF.out 1
          rw [put_none] at hcl
          refine wp_enter (f := 8) (args := #[.pointer none, .agg p.cells.toArray, .int .i64 1]) (by simp only [execOp, e109, e110]; go_simp; exact ⟨by simpa [Act.eval] using e109, by simpa [Act.eval] using e110⟩) (hcl.mono ?_)
          rintro e w' ⟨rfl, _, hk⟩
          exact ⟨_, rfl, hK _ _ rfl (below_grow (hk.below (Nat.le_refl _) (fun _ h => h.elim)) _)⟩
         ·intro a vs W hX hR he hf K hK
          have e108 : a.eval (.tmp 108) = .bool true := (he 7 108 (by kernel_rfl) rfl).trans (hR 7 (by kernel_rfl))
          refine Eq.mpr (if_pos (by exact (wanted_some rfl rfl e108).trans rfl)) ?_
          have e111 : a.eval (.tmp 111) = .int .i64 1 := (he 10 111 (by kernel_rfl) rfl).trans (hR 10 (by kernel_rfl))
          refine wp_value (v := .bool true) ?_ (hK _ _ rfl (grown_refl W _))
          simp only [execOp, e111]
          try go_simp
          try (first | rfl | omega | (simp only [IntKind.wrap_i64, IntKind.wrap_u8, IntKind.wrap_u64, IntKind.wrap_u16, IntKind.wrap_u32]; omega) | (rw [Int.tmod_eq_emod_of_nonneg (by omega)]) | (rw [Int.tmod_eq_emod_of_nonneg (by omega)]; omega))
         ·intro a vs W hX hR he hf K hK
          rw [if_pos (wanted_none rfl)]
          have e108 : a.eval (.tmp 108) = .bool true := (he 7 108 (by kernel_rfl) rfl).trans (hR 7 (by kernel_rfl))
          have e112 : a.eval (.tmp 112) = .bool true := (he 11 112 (by kernel_rfl) rfl).trans (hR 11 (by kernel_rfl))
          refine wp_value (v := .bool true) ?_ (hK _ _ rfl (grown_refl W _))
          simp only [execOp, e108, e112]
          try go_simp
          try (first | rfl | omega | (simp only [IntKind.wrap_i64, IntKind.wrap_u8, IntKind.wrap_u64, IntKind.wrap_u16, IntKind.wrap_u32]; omega) | (rw [Int.tmod_eq_emod_of_nonneg (by omega)]) | (rw [Int.tmod_eq_emod_of_nonneg (by omega)]; omega))
         ·intro a vs W hX hR he hf K hK
          rw [if_pos (wanted_none rfl)]
          have e113 : a.eval (.tmp 113) = .bool true := (he 12 113 (by kernel_rfl) rfl).trans (hR 12 (by kernel_rfl))
          refine wp_value (v := .bool true) ?_ (hK _ _ rfl (grown_refl W _))
          simp only [execOp, e113]
          try go_simp
          try (first | rfl | omega | (simp only [IntKind.wrap_i64, IntKind.wrap_u8, IntKind.wrap_u64, IntKind.wrap_u16, IntKind.wrap_u32]; omega) | (rw [Int.tmod_eq_emod_of_nonneg (by omega)]) | (rw [Int.tmod_eq_emod_of_nonneg (by omega)]; omega))
         ·intro a vs W hX hR he hf K hK
          have e114 : a.eval (.tmp 114) = .bool true := (he 13 114 (by kernel_rfl) rfl).trans (hR 13 (by kernel_rfl))
          refine Eq.mpr (if_pos (by exact (wanted_some rfl rfl e114).trans rfl)) ?_
          have e16 : a.eval (.tmp 16) = .pointer none := hf 16 (by kernel_rfl)
          refine wp_value (v := .pointer none) ?_ (hK _ _ rfl (grown_refl W _))
          simp only [execOp, e16]
          try go_simp
          try (first | rfl | omega | (simp only [IntKind.wrap_i64, IntKind.wrap_u8, IntKind.wrap_u64, IntKind.wrap_u16, IntKind.wrap_u32]; omega) | (rw [Int.tmod_eq_emod_of_nonneg (by omega)]) | (rw [Int.tmod_eq_emod_of_nonneg (by omega)]; omega))
         ·intro a vs W hX hR he hf K hK
          have e114 : a.eval (.tmp 114) = .bool true := (he 13 114 (by kernel_rfl) rfl).trans (hR 13 (by kernel_rfl))
          refine Eq.mpr (if_pos (by exact (wanted_some rfl rfl e114).trans rfl)) ?_
          have e3 : a.eval (.tmp 3) = .pointer (some ⟨g3, 0, none⟩) := hf 3 (by kernel_rfl)
          have hbW := bthen (below_drew _) (grow_below hX)
          exact wp_value (exec_load 30 _ rfl g3 e3 30 p.cells _ (H3q.out.on hbW) Try.underlying30 rfl (sizePx _ HPF.out.addr)) (hK _ _ rfl (grown_refl W _))
         ·intro a vs W hX hR he hf K hK
          have e114 : a.eval (.tmp 114) = .bool true := (he 13 114 (by kernel_rfl) rfl).trans (hR 13 (by kernel_rfl))
          refine Eq.mpr (if_pos (by exact (wanted_some rfl rfl e114).trans rfl)) ?_
          have e115 : a.eval (.tmp 115) = .pointer none := (he 14 115 (by kernel_rfl) rfl).trans (hR 14 (by kernel_rfl))
          have e116 : a.eval (.tmp 116) = .agg p.cells.toArray := (he 15 116 (by kernel_rfl) rfl).trans (hR 15 (by kernel_rfl))
          have hcl := fdel_any (fb_none W) (by omega) p HPF.out
          rw [del_none] at hcl
          refine wp_enter (f := 17) (args := #[.pointer none, .agg p.cells.toArray]) (by simp only [execOp, e115, e116]; go_simp; exact ⟨by simpa [Act.eval] using e115, by simpa [Act.eval] using e116⟩) (hcl.mono ?_)
          rintro e w' ⟨rfl, _, hk⟩
          exact ⟨_, rfl, hK _ _ rfl (below_grow (hk.below (Nat.le_refl _) (fun _ h => h.elim)) _)⟩
         ·intro a vs W hX hR he hf K hK
          have e114 : a.eval (.tmp 114) = .bool true := (he 13 114 (by kernel_rfl) rfl).trans (hR 13 (by kernel_rfl))
          refine Eq.mpr (if_pos (by exact (wanted_some rfl rfl e114).trans rfl)) ?_
          have e117 : a.eval (.tmp 117) = .int .i64 1 := (he 16 117 (by kernel_rfl) rfl).trans (hR 16 (by kernel_rfl))
          refine wp_value (v := .bool true) ?_ (hK _ _ rfl (grown_refl W _))
          simp only [execOp, e117]
          try go_simp
          try (first | rfl | omega | (simp only [IntKind.wrap_i64, IntKind.wrap_u8, IntKind.wrap_u64, IntKind.wrap_u16, IntKind.wrap_u32]; omega) | (rw [Int.tmod_eq_emod_of_nonneg (by omega)]) | (rw [Int.tmod_eq_emod_of_nonneg (by omega)]; omega))
         ·intro a vs W hX hR he hf K hK
          rw [if_pos (wanted_none rfl)]
          have e114 : a.eval (.tmp 114) = .bool true := (he 13 114 (by kernel_rfl) rfl).trans (hR 13 (by kernel_rfl))
          have e118 : a.eval (.tmp 118) = .bool true := (he 17 118 (by kernel_rfl) rfl).trans (hR 17 (by kernel_rfl))
          refine wp_value (v := .bool true) ?_ (hK _ _ rfl (grown_refl W _))
          simp only [execOp, e114, e118]
          try go_simp
          try (first | rfl | omega | (simp only [IntKind.wrap_i64, IntKind.wrap_u8, IntKind.wrap_u64, IntKind.wrap_u16, IntKind.wrap_u32]; omega) | (rw [Int.tmod_eq_emod_of_nonneg (by omega)]) | (rw [Int.tmod_eq_emod_of_nonneg (by omega)]; omega))
         ·intro a vs W hX hR he hf K hK
          rw [if_pos (wanted_none rfl)]
          have e119 : a.eval (.tmp 119) = .bool true := (he 18 119 (by kernel_rfl) rfl).trans (hR 18 (by kernel_rfl))
          refine wp_value (v := .bool true) ?_ (hK _ _ rfl (grown_refl W _))
          simp only [execOp, e119]
          try go_simp
          try (first | rfl | omega | (simp only [IntKind.wrap_i64, IntKind.wrap_u8, IntKind.wrap_u64, IntKind.wrap_u16, IntKind.wrap_u32]; omega) | (rw [Int.tmod_eq_emod_of_nonneg (by omega)]) | (rw [Int.tmod_eq_emod_of_nonneg (by omega)]; omega))
         ·intro a vs W hX hR he hf K hK
          have e120 : a.eval (.tmp 120) = .bool true := (he 19 120 (by kernel_rfl) rfl).trans (hR 19 (by kernel_rfl))
          refine Eq.mpr (if_pos (by exact (wanted_some rfl rfl e120).trans rfl)) ?_
          have e16 : a.eval (.tmp 16) = .pointer none := hf 16 (by kernel_rfl)
          refine wp_value (v := .pointer none) ?_ (hK _ _ rfl (grown_refl W _))
          simp only [execOp, e16]
          try go_simp
          try (first | rfl | omega | (simp only [IntKind.wrap_i64, IntKind.wrap_u8, IntKind.wrap_u64, IntKind.wrap_u16, IntKind.wrap_u32]; omega) | (rw [Int.tmod_eq_emod_of_nonneg (by omega)]) | (rw [Int.tmod_eq_emod_of_nonneg (by omega)]; omega))
         ·intro a vs W hX hR he hf K hK
          have e120 : a.eval (.tmp 120) = .bool true := (he 19 120 (by kernel_rfl) rfl).trans (hR 19 (by kernel_rfl))
          refine Eq.mpr (if_pos (by exact (wanted_some rfl rfl e120).trans rfl)) ?_
          have e121 : a.eval (.tmp 121) = .pointer none := (he 20 121 (by kernel_rfl) rfl).trans (hR 20 (by kernel_rfl))
          have hcl := fall_any (fb_none W) (by omega)
          refine wp_enter (f := 15) (args := #[.pointer none]) (by simp only [execOp, e121]; go_simp; simpa [Act.eval] using e121) (hcl.mono ?_)
          rintro e w' ⟨A', c', rfl, _, hb⟩
          exact ⟨_, rfl, hK _ _ ⟨A', c', rfl⟩ (below_grow hb _)⟩
         ·intro a vs W hX hR he hf K hK
          have e120 : a.eval (.tmp 120) = .bool true := (he 19 120 (by kernel_rfl) rfl).trans (hR 19 (by kernel_rfl))
          refine Eq.mpr (if_pos (by exact (wanted_some rfl rfl e120).trans rfl)) ?_
          have e122 := he 21 122 (by kernel_rfl) rfl
          have p122 := hR 21 (by kernel_rfl)
          change (fun v _ => ∃ A' c', v = .slice A' 0 c') (vs 21) W at p122
          have f122 := e122
          simp only [Act.eval, Array.getD_eq_getD_getElem?] at f122
          obtain ⟨A', c', h1⟩ := p122
          rw [h1] at e122 f122
          refine wp_value (v := .int .i64 0) ?_ (hK _ _ rfl (grown_refl W _))
          simp only [execOp, e122]
          go_simp
         ·intro a vs W hX hR he hf K hK
          have e120 : a.eval (.tmp 120) = .bool true := (he 19 120 (by kernel_rfl) rfl).trans (hR 19 (by kernel_rfl))
          refine Eq.mpr (if_pos (by exact (wanted_some rfl rfl e120).trans rfl)) ?_
          have e16 : a.eval (.tmp 16) = .pointer none := hf 16 (by kernel_rfl)
          refine wp_value (v := .pointer none) ?_ (hK _ _ rfl (grown_refl W _))
          simp only [execOp, e16]
          try go_simp
          try (first | rfl | omega | (simp only [IntKind.wrap_i64, IntKind.wrap_u8, IntKind.wrap_u64, IntKind.wrap_u16, IntKind.wrap_u32]; omega) | (rw [Int.tmod_eq_emod_of_nonneg (by omega)]) | (rw [Int.tmod_eq_emod_of_nonneg (by omega)]; omega))
         ·intro a vs W hX hR he hf K hK
          have e120 : a.eval (.tmp 120) = .bool true := (he 19 120 (by kernel_rfl) rfl).trans (hR 19 (by kernel_rfl))
          refine Eq.mpr (if_pos (by exact (wanted_some rfl rfl e120).trans rfl)) ?_
          have e3 : a.eval (.tmp 3) = .pointer (some ⟨g3, 0, none⟩) := hf 3 (by kernel_rfl)
          have hbW := bthen (below_drew _) (grow_below hX)
          exact wp_value (exec_load 30 _ rfl g3 e3 30 p.cells _ (H3q.out.on hbW) Try.underlying30 rfl (sizePx _ HPF.out.addr)) (hK _ _ rfl (grown_refl W _))
         ·intro a vs W hX hR he hf K hK
          have e120 : a.eval (.tmp 120) = .bool true := (he 19 120 (by kernel_rfl) rfl).trans (hR 19 (by kernel_rfl))
          refine Eq.mpr (if_pos (by exact (wanted_some rfl rfl e120).trans rfl)) ?_
          have e124 : a.eval (.tmp 124) = .pointer none := (he 23 124 (by kernel_rfl) rfl).trans (hR 23 (by kernel_rfl))
          have e125 : a.eval (.tmp 125) = .agg p.cells.toArray := (he 24 125 (by kernel_rfl) rfl).trans (hR 24 (by kernel_rfl))
          have hcl := fabove_any (fb_none W) (by omega) p (by simp) HPF.out
          rw [above_none] at hcl
          refine wp_enter (f := 12) (args := #[.pointer none, .agg p.cells.toArray]) (by simp only [execOp, e124, e125]; go_simp; exact ⟨by simpa [Act.eval] using e124, by simpa [Act.eval] using e125⟩) (hcl.mono ?_)
          rintro e w' ⟨A', n', c', rfl, hr, hb⟩
          obtain rfl : 0 = n' := its_row hr (by simp)
          exact ⟨_, rfl, hK _ _ ⟨A', c', rfl⟩ (below_grow hb _)⟩
         ·intro a vs W hX hR he hf K hK
          have e120 : a.eval (.tmp 120) = .bool true := (he 19 120 (by kernel_rfl) rfl).trans (hR 19 (by kernel_rfl))
          refine Eq.mpr (if_pos (by exact (wanted_some rfl rfl e120).trans rfl)) ?_
          have e126 := he 25 126 (by kernel_rfl) rfl
          have p126 := hR 25 (by kernel_rfl)
          change (fun v _ => ∃ A' c', v = .slice A' 0 c') (vs 25) W at p126
          have f126 := e126
          simp only [Act.eval, Array.getD_eq_getD_getElem?] at f126
          obtain ⟨A', c', h1⟩ := p126
          rw [h1] at e126 f126
          refine wp_value (v := .int .i64 0) ?_ (hK _ _ rfl (grown_refl W _))
          simp only [execOp, e126]
          go_simp
         ·intro a vs W hX hR he hf K hK
          have e120 : a.eval (.tmp 120) = .bool true := (he 19 120 (by kernel_rfl) rfl).trans (hR 19 (by kernel_rfl))
          refine Eq.mpr (if_pos (by exact (wanted_some rfl rfl e120).trans rfl)) ?_
          have e123 : a.eval (.tmp 123) = .int .i64 0 := (he 22 123 (by kernel_rfl) rfl).trans (hR 22 (by kernel_rfl))
          have e127 : a.eval (.tmp 127) = .int .i64 0 := (he 26 127 (by kernel_rfl) rfl).trans (hR 26 (by kernel_rfl))
          refine wp_value (v := .int .i64 0) ?_ (hK _ _ rfl (grown_refl W _))
          simp only [execOp, e123, e127]
          try go_simp
          try (first | rfl | omega | (simp only [IntKind.wrap_i64, IntKind.wrap_u8, IntKind.wrap_u64, IntKind.wrap_u16, IntKind.wrap_u32]; omega) | (rw [Int.tmod_eq_emod_of_nonneg (by omega)]) | (rw [Int.tmod_eq_emod_of_nonneg (by omega)]; omega))
         ·intro a vs W hX hR he hf K hK
          have e120 : a.eval (.tmp 120) = .bool true := (he 19 120 (by kernel_rfl) rfl).trans (hR 19 (by kernel_rfl))
          refine Eq.mpr (if_pos (by exact (wanted_some rfl rfl e120).trans rfl)) ?_
          have e16 : a.eval (.tmp 16) = .pointer none := hf 16 (by kernel_rfl)
          refine wp_value (v := .pointer none) ?_ (hK _ _ rfl (grown_refl W _))
          simp only [execOp, e16]
          try go_simp
          try (first | rfl | omega | (simp only [IntKind.wrap_i64, IntKind.wrap_u8, IntKind.wrap_u64, IntKind.wrap_u16, IntKind.wrap_u32]; omega) | (rw [Int.tmod_eq_emod_of_nonneg (by omega)]) | (rw [Int.tmod_eq_emod_of_nonneg (by omega)]; omega))
         ·intro a vs W hX hR he hf K hK
          have e120 : a.eval (.tmp 120) = .bool true := (he 19 120 (by kernel_rfl) rfl).trans (hR 19 (by kernel_rfl))
          refine Eq.mpr (if_pos (by exact (wanted_some rfl rfl e120).trans rfl)) ?_
          have e3 : a.eval (.tmp 3) = .pointer (some ⟨g3, 0, none⟩) := hf 3 (by kernel_rfl)
          have hbW := bthen (below_drew _) (grow_below hX)
          exact wp_value (exec_load 30 _ rfl g3 e3 30 p.cells _ (H3q.out.on hbW) Try.underlying30 rfl (sizePx _ HPF.out.addr)) (hK _ _ rfl (grown_refl W _))
         ·intro a vs W hX hR he hf K hK
          have e120 : a.eval (.tmp 120) = .bool true := (he 19 120 (by kernel_rfl) rfl).trans (hR 19 (by kernel_rfl))
          refine Eq.mpr (if_pos (by exact (wanted_some rfl rfl e120).trans rfl)) ?_
          have e129 : a.eval (.tmp 129) = .pointer none := (he 28 129 (by kernel_rfl) rfl).trans (hR 28 (by kernel_rfl))
          have e130 : a.eval (.tmp 130) = .agg p.cells.toArray := (he 29 130 (by kernel_rfl) rfl).trans (hR 29 (by kernel_rfl))
          have hcl := fbelow_any (fb_none W) (by omega) p HPF.out
          rw [below_none] at hcl
          refine wp_enter (f := 14) (args := #[.pointer none, .agg p.cells.toArray]) (by simp only [execOp, e129, e130]; go_simp; exact ⟨by simpa [Act.eval] using e129, by simpa [Act.eval] using e130⟩) (hcl.mono ?_)
          rintro e w' ⟨A', n', c', rfl, hr, hb⟩
          obtain rfl : 0 = n' := its_row hr (by simp)
          exact ⟨_, rfl, hK _ _ ⟨A', c', rfl⟩ (below_grow hb _)⟩
         ·intro a vs W hX hR he hf K hK
          have e120 : a.eval (.tmp 120) = .bool true := (he 19 120 (by kernel_rfl) rfl).trans (hR 19 (by kernel_rfl))
          refine Eq.mpr (if_pos (by exact (wanted_some rfl rfl e120).trans rfl)) ?_
          have e131 := he 30 131 (by kernel_rfl) rfl
          have p131 := hR 30 (by kernel_rfl)
          change (fun v _ => ∃ A' c', v = .slice A' 0 c') (vs 30) W at p131
          have f131 := e131
          simp only [Act.eval, Array.getD_eq_getD_getElem?] at f131
          obtain ⟨A', c', h1⟩ := p131
          rw [h1] at e131 f131
          refine wp_value (v := .int .i64 0) ?_ (hK _ _ rfl (grown_refl W _))
          simp only [execOp, e131]
          go_simp
         ·intro a vs W hX hR he hf K hK
          have e120 : a.eval (.tmp 120) = .bool true := (he 19 120 (by kernel_rfl) rfl).trans (hR 19 (by kernel_rfl))
          refine Eq.mpr (if_pos (by exact (wanted_some rfl rfl e120).trans rfl)) ?_
          have e128 : a.eval (.tmp 128) = .int .i64 0 := (he 27 128 (by kernel_rfl) rfl).trans (hR 27 (by kernel_rfl))
          have e132 : a.eval (.tmp 132) = .int .i64 0 := (he 31 132 (by kernel_rfl) rfl).trans (hR 31 (by kernel_rfl))
          refine wp_value (v := .int .i64 0) ?_ (hK _ _ rfl (grown_refl W _))
          simp only [execOp, e128, e132]
          try go_simp
          try (first | rfl | omega | (simp only [IntKind.wrap_i64, IntKind.wrap_u8, IntKind.wrap_u64, IntKind.wrap_u16, IntKind.wrap_u32]; omega) | (rw [Int.tmod_eq_emod_of_nonneg (by omega)]) | (rw [Int.tmod_eq_emod_of_nonneg (by omega)]; omega))
         ·intro a vs W hX hR he hf K hK
          have e120 : a.eval (.tmp 120) = .bool true := (he 19 120 (by kernel_rfl) rfl).trans (hR 19 (by kernel_rfl))
          refine Eq.mpr (if_pos (by exact (wanted_some rfl rfl e120).trans rfl)) ?_
          have e16 : a.eval (.tmp 16) = .pointer none := hf 16 (by kernel_rfl)
          refine wp_value (v := .pointer none) ?_ (hK _ _ rfl (grown_refl W _))
          simp only [execOp, e16]
          try go_simp
          try (first | rfl | omega | (simp only [IntKind.wrap_i64, IntKind.wrap_u8, IntKind.wrap_u64, IntKind.wrap_u16, IntKind.wrap_u32]; omega) | (rw [Int.tmod_eq_emod_of_nonneg (by omega)]) | (rw [Int.tmod_eq_emod_of_nonneg (by omega)]; omega))
         ·intro a vs W hX hR he hf K hK
          have e120 : a.eval (.tmp 120) = .bool true := (he 19 120 (by kernel_rfl) rfl).trans (hR 19 (by kernel_rfl))
          refine Eq.mpr (if_pos (by exact (wanted_some rfl rfl e120).trans rfl)) ?_
          have e134 : a.eval (.tmp 134) = .pointer none := (he 33 134 (by kernel_rfl) rfl).trans (hR 33 (by kernel_rfl))
          have hcl := fuses_any (fb_none W) (by omega) 0
          refine wp_enter (f := 18) (args := #[.pointer none, .int .i64 0]) (by simp only [execOp, e134]; go_simp; simpa [Act.eval] using e134) (hcl.mono ?_)
          rintro e w' ⟨rfl, hb⟩
          exact ⟨_, rfl, hK _ _ rfl (below_grow hb _)⟩
         ·intro a vs W hX hR he hf K hK
          have e120 : a.eval (.tmp 120) = .bool true := (he 19 120 (by kernel_rfl) rfl).trans (hR 19 (by kernel_rfl))
          refine Eq.mpr (if_pos (by exact (wanted_some rfl rfl e120).trans rfl)) ?_
          have e133 : a.eval (.tmp 133) = .int .i64 0 := (he 32 133 (by kernel_rfl) rfl).trans (hR 32 (by kernel_rfl))
          have e135 : a.eval (.tmp 135) = .int .i64 0 := (he 34 135 (by kernel_rfl) rfl).trans (hR 34 (by kernel_rfl))
          refine wp_value (v := .int .i64 0) ?_ (hK _ _ rfl (grown_refl W _))
          simp only [execOp, e133, e135]
          try go_simp
          try (first | rfl | omega | (simp only [IntKind.wrap_i64, IntKind.wrap_u8, IntKind.wrap_u64, IntKind.wrap_u16, IntKind.wrap_u32]; omega) | (rw [Int.tmod_eq_emod_of_nonneg (by omega)]) | (rw [Int.tmod_eq_emod_of_nonneg (by omega)]; omega))
         ·intro a vs W hX hR he hf K hK
          have e120 : a.eval (.tmp 120) = .bool true := (he 19 120 (by kernel_rfl) rfl).trans (hR 19 (by kernel_rfl))
          refine Eq.mpr (if_pos (by exact (wanted_some rfl rfl e120).trans rfl)) ?_
          have e136 : a.eval (.tmp 136) = .int .i64 0 := (he 35 136 (by kernel_rfl) rfl).trans (hR 35 (by kernel_rfl))
          refine wp_value (v := .bool true) ?_ (hK _ _ rfl (grown_refl W _))
          simp only [execOp, e136]
          try go_simp
          try (first | rfl | omega | (simp only [IntKind.wrap_i64, IntKind.wrap_u8, IntKind.wrap_u64, IntKind.wrap_u16, IntKind.wrap_u32]; omega) | (rw [Int.tmod_eq_emod_of_nonneg (by omega)]) | (rw [Int.tmod_eq_emod_of_nonneg (by omega)]; omega))
         ·intro a vs W hX hR he hf K hK
          rw [if_pos (wanted_none rfl)]
          have e120 : a.eval (.tmp 120) = .bool true := (he 19 120 (by kernel_rfl) rfl).trans (hR 19 (by kernel_rfl))
          have e137 : a.eval (.tmp 137) = .bool true := (he 36 137 (by kernel_rfl) rfl).trans (hR 36 (by kernel_rfl))
          refine wp_value (v := .bool true) ?_ (hK _ _ rfl (grown_refl W _))
          simp only [execOp, e120, e137]
          try go_simp
          try (first | rfl | omega | (simp only [IntKind.wrap_i64, IntKind.wrap_u8, IntKind.wrap_u64, IntKind.wrap_u16, IntKind.wrap_u32]; omega) | (rw [Int.tmod_eq_emod_of_nonneg (by omega)]) | (rw [Int.tmod_eq_emod_of_nonneg (by omega)]; omega))
         ·intro a vs W hX hR he hf K hK
          rw [if_pos (wanted_none rfl)]
          have e138 : a.eval (.tmp 138) = .bool true := (he 37 138 (by kernel_rfl) rfl).trans (hR 37 (by kernel_rfl))
          refine wp_value (v := .bool true) ?_ (hK _ _ rfl (grown_refl W _))
          simp only [execOp, e138]
          try go_simp
          try (first | rfl | omega | (simp only [IntKind.wrap_i64, IntKind.wrap_u8, IntKind.wrap_u64, IntKind.wrap_u16, IntKind.wrap_u32]; omega) | (rw [Int.tmod_eq_emod_of_nonneg (by omega)]) | (rw [Int.tmod_eq_emod_of_nonneg (by omega)]; omega))
         ·intro vs wx hXx hR
          have q0 := hR 0 (by decide)
          have q1 := hR 1 (by decide)
          have q2 := hR 2 (by decide)
          have q3 := hR 3 (by decide)
          have q4 := hR 4 (by decide)
          have q5 := hR 5 (by decide)
          have q6 := hR 6 (by decide)
          have q7 := hR 7 (by decide)
          have q8 := hR 8 (by decide)
          have q9 := hR 9 (by decide)
          have q10 := hR 10 (by decide)
          have q11 := hR 11 (by decide)
          have q12 := hR 12 (by decide)
          have q13 := hR 13 (by decide)
          have q14 := hR 14 (by decide)
          have q15 := hR 15 (by decide)
          have q16 := hR 16 (by decide)
          have q17 := hR 17 (by decide)
          have q18 := hR 18 (by decide)
          have q19 := hR 19 (by decide)
          have q20 := hR 20 (by decide)
          have q21 := hR 21 (by decide)
          have q22 := hR 22 (by decide)
          have q23 := hR 23 (by decide)
          have q24 := hR 24 (by decide)
          have q25 := hR 25 (by decide)
          have q26 := hR 26 (by decide)
          have q27 := hR 27 (by decide)
          have q28 := hR 28 (by decide)
          have q29 := hR 29 (by decide)
          have q30 := hR 30 (by decide)
          have q31 := hR 31 (by decide)
          have q32 := hR 32 (by decide)
          have q33 := hR 33 (by decide)
          have q34 := hR 34 (by decide)
          have q35 := hR 35 (by decide)
          have q36 := hR 36 (by decide)
          have q37 := hR 37 (by decide)
          have q38 := hR 38 (by decide)
          change vs 0 = .int .i64 (tot : Nat) at q0
          change vs 1 = .slice A8 n8 c8 at q1
          change vs 2 = .int .i64 (n8 : Int) at q2
          change vs 3 = .slice A9 n9 c9 at q3
          change vs 4 = .int .i64 (n9 : Int) at q4
          change vs 5 = .int .i64 (tot : Nat) at q5
          change vs 6 = .bool true at q6
          change vs 7 = .bool true at q7
          change vs 8 = .pointer none at q8
          change vs 9 = .agg p.cells.toArray at q9
          change vs 10 = .int .i64 1 at q10
          change vs 11 = .bool true at q11
          change vs 12 = .bool true at q12
          change vs 13 = .bool true at q13
          change vs 14 = .pointer none at q14
          change vs 15 = .agg p.cells.toArray at q15
          change vs 16 = .int .i64 1 at q16
          change vs 17 = .bool true at q17
          change vs 18 = .bool true at q18
          change vs 19 = .bool true at q19
          change vs 20 = .pointer none at q20
          change (fun v _ => ∃ A' c', v = .slice A' 0 c') (vs 21) wx at q21
          change vs 22 = .int .i64 0 at q22
          change vs 23 = .pointer none at q23
          change vs 24 = .agg p.cells.toArray at q24
          change (fun v _ => ∃ A' c', v = .slice A' 0 c') (vs 25) wx at q25
          change vs 26 = .int .i64 0 at q26
          change vs 27 = .int .i64 0 at q27
          change vs 28 = .pointer none at q28
          change vs 29 = .agg p.cells.toArray at q29
          change (fun v _ => ∃ A' c', v = .slice A' 0 c') (vs 30) wx at q30
          change vs 31 = .int .i64 0 at q31
          change vs 32 = .int .i64 0 at q32
          change vs 33 = .pointer none at q33
          change vs 34 = .int .i64 0 at q34
          change vs 35 = .int .i64 0 at q35
          change vs 36 = .bool true at q36
          change vs 37 = .bool true at q37
          change vs 38 = .bool true at q38
          simp only [putAll, Act.put, List.setIfInBounds_toArray, List.set_cons_zero, List.set_cons_succ, q0, q1, q2, q3, q4, q5, q6, q7, q8, q9, q10, q11, q12, q13, q14, q15, q16, q17, q18, q19, q20, q22, q23, q24, q26, q27, q28, q29, q31, q32, q33, q34, q35, q36, q37, q38]
          clear q0 q1 q2 q3 q4 q5 q6 q7 q8 q9 q10 q11 q12 q13 q14 q15 q16 q17 q18 q19 q20 q22 q23 q24 q26 q27 q28 q29 q31 q32 q33 q34 q35 q36 q37 q38
          clear hR
          have HWz := Lib.hid (bthen HWq.out (bthen (below_drew _) (grow_below hXx)))
          clear hXx
          go_wp2_with fail
          go_ret
          exact ⟨rfl, HWz.out⟩
  ·obtain ⟨q, hqq⟩ : ∃ q, chkP p = q := ⟨_, rfl⟩
   rw [hqq] at hq
   rw [hqq]
   clear hqq
   go_wp2_with fail
   go_ret
   exact ⟨rfl, HW2.out⟩
end Go.Proofs.Ytdmgomknamdcfaa

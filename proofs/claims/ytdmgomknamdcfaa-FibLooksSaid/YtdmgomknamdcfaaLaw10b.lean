/- What is found of an address is it alone, if it is there, else the longest one that covers it (FibLooks). No condition but sizes. -/
import Derived.Test.YtdmgomknamdcfaaG28
import Derived.Test.YtdmgomknamdcfaaG29
import Derived.Deep.DeepCutAuto
namespace Go.Proofs.Ytdmgomknamdcfaa
open Go.RowKit
set_option linter.unusedVariables false
set_option maxRecDepth 20000
set_option linter.unusedSimpArgs false

theorem st_at19 {w : World} {b o : Nat} {x : St9} (h : w.rangeAt b o x.cells) (hx : x.p.addr.length = 16) : w.cell? ⟨b, o + 19, none⟩ = some (.int .i64 x.v) := h 19 _ (st_v hx)
theorem run_buildI2 (p : Px) (hp : p.addr.length = 16) (n : Int) (w : World) : (Instr.build 35 #[(0, .agg p.cells.toArray), (1, .int .i64 n)]).run Try.prog w = .ok (.agg (itC (p, n)).toArray) w := by
 obtain ⟨b, l, m⟩ := p
 obtain ⟨s0, s1, s2, s3, s4, s5, s6, s7, s8, s9, s10, s11, s12, s13, s14, s15, rfl⟩ := list16p l hp
 kernel_rfl
theorem exec_buildI2 {w : World} {o : Oper} {q : Act} (x0 x1 : Operand) (ho : o.op = .build 35 #[(0, x0), (1, x1)]) (p : Px) (hp : p.addr.length = 16) (n : Int) (h0 : q.eval x0 = .agg p.cells.toArray) (h1 : q.eval x1 = .int .i64 n) :
  (execOp q.eval o).run Try.prog w = .ok (.value (.agg (itC (p, n)).toArray)) w := by
 unfold execOp
 simp only [ho, List.map_toArray, List.map_cons, List.map_nil, h0, h1, Sem.run_bind, run_buildI2 p hp n, Result.andThen_ok]
 rfl
set_option maxHeartbeats 4000000 in
theorem walk_FibLooks (w : World) (z : Sl9) (hz : z.ok w) (six : Bool) (ad : List UInt8) (ha : ad.length = 16) :
  Calls Try.prog 3 #[.slice z.A z.n z.c, .bool six, .agg (bv ad).toArray] w fun e w' => e = .returned (.bool true) ∧ Below w.heap.size w w' := by
 obtain ⟨A, n, c, Sc⟩ := z
 obtain ⟨hr, hle, hcap, hfit⟩ := hz
 simp only at hr hle hcap hfit ⊢
 have HR := Lib.hid hr
 have HF := Lib.hid hfit
 have HLN := Lib.hid (sts_row hr hfit)
 have HAL := Lib.hid ha
 clear hr hfit ha hle hcap
 go_enter Try.func3, Try.ntmps3
 go_upto_region 1 with (refine wpList_box_blk (by rfl) 23 (.tmp 2) rfl (bv ad) rfl ?_; intro w1 hb1 hB1 hs1; clear hs1)
 obtain ⟨g5, hg5⟩ : ∃ g, w.heap.size = g := ⟨_, rfl⟩
 have HW1 := Lib.hid hB1
 have HG5 := Lib.hid (show g5 < w1.heap.size by rw [← hg5]; exact hb1.lt)
 have HWG := Lib.hid (show w.heap.size ≤ g5 by omega)
 rw [hg5] at hb1
 try rw [hg5]
 have HA1 := Lib.hid hb1
 clear hb1 hB1 hg5
 go_wp2_with fail
 refine (awake_any w1).mono ?_
 rintro e w2 ⟨rfl, hb⟩
 have HA2 := Lib.hid (HA1.out.on hb)
 have HW2 := Lib.hid (bthen HW1.out hb)
 clear hb
 by_cases h50 : (50 : Int) < (n : Int)
 ·go_wp2_with fail
  go_ret
  exact ⟨rfl, HW2.out⟩
 ·have HN50 := Lib.hid (show n ≤ 50 by omega)
  go_wp2_with fail
  refine (fnew_any 60 w2).mono ?_
  rintro e w3 ⟨f, rfl, hne, hT, hb⟩
  have hi : f.isSome = true := by
   cases f with
   | none => exact absurd (hne.1 rfl) (by decide)
   | some g => rfl
  rw [hi] at hT
  have hlt5 := HA2.out.lt
  have hsz2 := HW2.out.size
  have HT3 := Lib.hid (show FbO w3 (fun b => w.heap.size ≤ b ∧ b ≠ g5) f true 60 (fun _ => []) 1 from hT.mono (fun b hb h9 => h9.elim False.elim (fun h => ⟨by omega, by omega⟩)) (Nat.le_refl _))
  have HW3 := Lib.hid (bthen HW2.out hb)
  have HA3 := Lib.hid (HA2.out.on hb)
  clear hb hT hne hi hlt5 hsz2
  go_wp2_with fail
  go_loopw [9] (fun i wr => ∃ (k : Nat) (L : Bool → List Itm) (K : Nat), k ≤ n ∧ i = .int .i64 (k : Nat) ∧ FbO wr (fun b => w.heap.size ≤ b ∧ b ≠ g5) f true 60 L K ∧ K ≤ 2 * k + 1 ∧ (∀ b, (L b).length ≤ k) ∧ Below w.heap.size w wr ∧ Blk wr g5 23 (bv ad)) (fun i _ => n - (intOf i).toNat)
  case atStart => exact ⟨0, _, 1, by omega, rfl, HT3.out, by omega, fun b => Nat.le_refl _, HW3.out, HA3.out⟩
  case round =>
   obtain ⟨k, L, K, hk, rfl, hT, hK, hL, hW, hA⟩ := hrel
   clear HT3 HW3 HA3
   have HT := Lib.hid hT
   have HW := Lib.hid hW
   have HA := Lib.hid hA
   have HK := Lib.hid hK
   have HL := Lib.hid hL
   clear hT hW hA hL hK
   by_cases hlt : k < n
   ·obtain ⟨s, hs⟩ := get_ex Sc (k := k) (by rw [HLN.out]; exact hlt)
    obtain ⟨bA, oA, rfl, hbA, hcA⟩ := sts_at HR.out HF.out k s hs
    have HSF := Lib.hid (HF.out s (List.mem_of_getElem? hs))
    have HSR := Lib.hid (range_below HW.out hbA hcA)
    have HBA := Lib.hid (show bA < wr.heap.size from Nat.lt_of_lt_of_le hbA HW.out.size)
    have hlt2 : (k : Int) < (n : Int) := by omega
    have hlt3 : (k : Int) + 1 ≤ (n : Int) := by omega
    have hn50 := HN50.out
    clear hbA hcA hs
    go_wp2_with fail
    refine wp_region_last 11 (fun A B => A.grownBy B none) (fun A => grown_refl A _) (fun A B C h k => grown_trans h k) (relAt (List.cons (fun v _ => v = ptV f) (List.cons (fun v _ => v = .slice (some ⟨bA, oA, none⟩) n c) (List.cons (fun v _ => v = .int .i64 (k : Nat)) (List.cons (fun v _ => v = .pointer (some ⟨bA, oA + k * 20, none⟩)) (List.cons (fun v _ => v = .pointer (some ⟨bA, oA + k * 20 + 1, none⟩)) (List.cons (fun v _ => v = .agg s.p.cells.toArray) (List.cons (fun v _ => v = .slice (some ⟨bA, oA, none⟩) n c) (List.cons (fun v _ => v = .int .i64 (k : Nat)) (List.cons (fun v _ => v = .pointer (some ⟨bA, oA + k * 20, none⟩)) (List.cons (fun v _ => v = .pointer (some ⟨bA, oA + k * 20 + 19, none⟩)) (List.cons (fun v _ => v = .int .i64 s.v) ([]))))))))))))) (MonoL.at_ (.cons (mono_val _) (.cons (mono_val _) (.cons (mono_val _) (.cons (mono_val _) (.cons (mono_val _) (.cons (mono_val _) (.cons (mono_val _) (.cons (mono_val _) (.cons (mono_val _) (.cons (mono_val _) (.cons (mono_val _) .nil)))))))))))) (by kernel_rfl) (by kernel_rfl) rfl (by kernel_rfl) _ rfl rfl ⟨?_, ?_, ?_, ?_, ?_, ?_, ?_, ?_, ?_, ?_, ?_, trivial⟩ ?_
    ·intro a vs W hX hR he hf K hK
     rw [if_pos (wanted_none rfl)]
     have e8 : a.eval (.tmp 8) = ptV f := hf 8 (by kernel_rfl)
     refine wp_value (v := ptV f) ?_ (hK _ _ rfl (grown_refl W _))
     simp only [execOp, e8]
     try go_simp
     try (first | rfl | omega | (simp only [IntKind.wrap_i64, IntKind.wrap_u8, IntKind.wrap_u64, IntKind.wrap_u16, IntKind.wrap_u32]; omega) | (rw [Int.tmod_eq_emod_of_nonneg (by omega)]) | (rw [Int.tmod_eq_emod_of_nonneg (by omega)]; omega))
    ·intro a vs W hX hR he hf K hK
     rw [if_pos (wanted_none rfl)]
     have e0 : a.eval (.tmp 0) = .slice (some ⟨bA, oA, none⟩) n c := hf 0 (by kernel_rfl)
     refine wp_value (v := .slice (some ⟨bA, oA, none⟩) n c) ?_ (hK _ _ rfl (grown_refl W _))
     simp only [execOp, e0]
     try go_simp
     try (first | rfl | omega | (simp only [IntKind.wrap_i64, IntKind.wrap_u8, IntKind.wrap_u64, IntKind.wrap_u16, IntKind.wrap_u32]; omega) | (rw [Int.tmod_eq_emod_of_nonneg (by omega)]) | (rw [Int.tmod_eq_emod_of_nonneg (by omega)]; omega))
    ·intro a vs W hX hR he hf K hK
     rw [if_pos (wanted_none rfl)]
     have e9 : a.eval (.tmp 9) = .int .i64 (k : Nat) := hf 9 (by kernel_rfl)
     refine wp_value (v := .int .i64 (k : Nat)) ?_ (hK _ _ rfl (grown_refl W _))
     simp only [execOp, e9]
     try go_simp
     try (first | rfl | omega | (simp only [IntKind.wrap_i64, IntKind.wrap_u8, IntKind.wrap_u64, IntKind.wrap_u16, IntKind.wrap_u32]; omega) | (rw [Int.tmod_eq_emod_of_nonneg (by omega)]) | (rw [Int.tmod_eq_emod_of_nonneg (by omega)]; omega))
    ·intro a vs W hX hR he hf K hK
     rw [if_pos (wanted_none rfl)]
     have e30 : a.eval (.tmp 30) = .slice (some ⟨bA, oA, none⟩) n c := (he 1 30 (by kernel_rfl) rfl).trans (hR 1 (by kernel_rfl))
     have e31 : a.eval (.tmp 31) = .int .i64 (k : Nat) := (he 2 31 (by kernel_rfl) rfl).trans (hR 2 (by kernel_rfl))
     refine wp_value (v := .pointer (some ⟨bA, oA + k * 20, none⟩)) ?_ (hK _ _ rfl (grown_refl W _))
     simp only [execOp, e30, e31]
     go_simp
    ·intro a vs W hX hR he hf K hK
     rw [if_pos (wanted_none rfl)]
     have e32 : a.eval (.tmp 32) = .pointer (some ⟨bA, oA + k * 20, none⟩) := (he 3 32 (by kernel_rfl) rfl).trans (hR 3 (by kernel_rfl))
     refine wp_value (v := .pointer (some ⟨bA, oA + k * 20 + 1, none⟩)) ?_ (hK _ _ rfl (grown_refl W _))
     simp only [execOp, e32]
     try go_simp
     try (first | rfl | omega | (simp only [IntKind.wrap_i64, IntKind.wrap_u8, IntKind.wrap_u64, IntKind.wrap_u16, IntKind.wrap_u32]; omega) | (rw [Int.tmod_eq_emod_of_nonneg (by omega)]) | (rw [Int.tmod_eq_emod_of_nonneg (by omega)]; omega))
    ·intro a vs W hX hR he hf K hK
     rw [if_pos (wanted_none rfl)]
     have e33 : a.eval (.tmp 33) = .pointer (some ⟨bA, oA + k * 20 + 1, none⟩) := (he 4 33 (by kernel_rfl) rfl).trans (hR 4 (by kernel_rfl))
     have hbW := bthen (below_drew _) (grow_below hX)
     exact wp_value (exec_load_mid 30 _ rfl bA (oA + k * 20 + 1) e33 s.p.cells _ (range_below hbW HBA.out (st_px HSR.out)) Try.underlying30 rfl (sizePx _ HSF.out.p.addr)) (hK _ _ rfl (grown_refl W _))
    ·intro a vs W hX hR he hf K hK
     rw [if_pos (wanted_none rfl)]
     have e0 : a.eval (.tmp 0) = .slice (some ⟨bA, oA, none⟩) n c := hf 0 (by kernel_rfl)
     refine wp_value (v := .slice (some ⟨bA, oA, none⟩) n c) ?_ (hK _ _ rfl (grown_refl W _))
     simp only [execOp, e0]
     try go_simp
     try (first | rfl | omega | (simp only [IntKind.wrap_i64, IntKind.wrap_u8, IntKind.wrap_u64, IntKind.wrap_u16, IntKind.wrap_u32]; omega) | (rw [Int.tmod_eq_emod_of_nonneg (by omega)]) | (rw [Int.tmod_eq_emod_of_nonneg (by omega)]; omega))
    ·intro a vs W hX hR he hf K hK
     rw [if_pos (wanted_none rfl)]
     have e9 : a.eval (.tmp 9) = .int .i64 (k : Nat) := hf 9 (by kernel_rfl)
     refine wp_value (v := .int .i64 (k : Nat)) ?_ (hK _ _ rfl (grown_refl W _))
     simp only [execOp, e9]
     try go_simp
     try (first | rfl | omega | (simp only [IntKind.wrap_i64, IntKind.wrap_u8, IntKind.wrap_u64, IntKind.wrap_u16, IntKind.wrap_u32]; omega) | (rw [Int.tmod_eq_emod_of_nonneg (by omega)]) | (rw [Int.tmod_eq_emod_of_nonneg (by omega)]; omega))
    ·intro a vs W hX hR he hf K hK
     rw [if_pos (wanted_none rfl)]
     have e35 : a.eval (.tmp 35) = .slice (some ⟨bA, oA, none⟩) n c := (he 6 35 (by kernel_rfl) rfl).trans (hR 6 (by kernel_rfl))
     have e36 : a.eval (.tmp 36) = .int .i64 (k : Nat) := (he 7 36 (by kernel_rfl) rfl).trans (hR 7 (by kernel_rfl))
     refine wp_value (v := .pointer (some ⟨bA, oA + k * 20, none⟩)) ?_ (hK _ _ rfl (grown_refl W _))
     simp only [execOp, e35, e36]
     go_simp
    ·intro a vs W hX hR he hf K hK
     rw [if_pos (wanted_none rfl)]
     have e37 : a.eval (.tmp 37) = .pointer (some ⟨bA, oA + k * 20, none⟩) := (he 8 37 (by kernel_rfl) rfl).trans (hR 8 (by kernel_rfl))
     refine wp_value (v := .pointer (some ⟨bA, oA + k * 20 + 19, none⟩)) ?_ (hK _ _ rfl (grown_refl W _))
     simp only [execOp, e37]
     try go_simp
     try (first | rfl | omega | (simp only [IntKind.wrap_i64, IntKind.wrap_u8, IntKind.wrap_u64, IntKind.wrap_u16, IntKind.wrap_u32]; omega) | (rw [Int.tmod_eq_emod_of_nonneg (by omega)]) | (rw [Int.tmod_eq_emod_of_nonneg (by omega)]; omega))
    ·intro a vs W hX hR he hf K hK
     rw [if_pos (wanted_none rfl)]
     have e38 : a.eval (.tmp 38) = .pointer (some ⟨bA, oA + k * 20 + 19, none⟩) := (he 9 38 (by kernel_rfl) rfl).trans (hR 9 (by kernel_rfl))
     have hbW := bthen (below_drew _) (grow_below hX)
     have hc : W.cell? ⟨bA, oA + k * 20 + 19, none⟩ = some (.int .i64 s.v) := st_at19 (range_below hbW HBA.out HSR.out) HSF.out.p.addr
     refine wp_value (v := _) ?_ (hK _ _ rfl (grown_refl W _))
     simp only [execOp, e38]
     try go_simp
    ·intro vs wx hXx hR
     have q0 := hR 0 (by decide)
     have q1 := hR 1 (by decide)
     have q2 := hR 2 (by decide)
     have q3 := hR 3 (by decide)
     have q4 := hR 4 (by decide)
     have q5 := hR 5 (by decide)
     have q6 := hR 6 (by decide)
     have q7 := hR 7 (by decide)
     have q8 := hR 8 (by decide)
     have q9 := hR 9 (by decide)
     have q10 := hR 10 (by decide)
     change vs 0 = ptV f at q0
     change vs 1 = .slice (some ⟨bA, oA, none⟩) n c at q1
     change vs 2 = .int .i64 (k : Nat) at q2
     change vs 3 = .pointer (some ⟨bA, oA + k * 20, none⟩) at q3
     change vs 4 = .pointer (some ⟨bA, oA + k * 20 + 1, none⟩) at q4
     change vs 5 = .agg s.p.cells.toArray at q5
     change vs 6 = .slice (some ⟨bA, oA, none⟩) n c at q6
     change vs 7 = .int .i64 (k : Nat) at q7
     change vs 8 = .pointer (some ⟨bA, oA + k * 20, none⟩) at q8
     change vs 9 = .pointer (some ⟨bA, oA + k * 20 + 19, none⟩) at q9
     change vs 10 = .int .i64 s.v at q10
     simp only [putAll, Act.put, List.setIfInBounds_toArray, List.set_cons_zero, List.set_cons_succ, List.take_succ_cons, List.take_zero, q0, q1, q2, q3, q4, q5, q6, q7, q8, q9, q10]
     clear q0 q1 q2 q3 q4 q5 q6 q7 q8 q9 q10
     clear hR
     have hbW := bthen (below_drew _) (grow_below hXx)
     have hAx := HA.out.on hbW
     have hT9 := fput_P (HT.out.on hbW) (fun b h9 => ⟨Nat.le_trans (Nat.le_trans HW.out.size hbW.size) h9, fun e => by have := hAx.lt; omega⟩) (by have := HK.out; omega) s.p HSF.out.p s.v
     refine wp_enter (f := 8) (args := #[ptV f, .agg s.p.cells.toArray, .int .i64 s.v]) (by simp only [execOp]; go_simp) (hT9.mono ?_)
     rintro e wy ⟨rfl, hTy, hky⟩
     refine ⟨_, rfl, ?_⟩
     clear hT9
     have hwy := (bthen HW.out hbW).trans (hky.below (Nat.le_trans HW.out.size hbW.size) (fun b h9 => h9.1))
     have hay := hky.blk hAx (fun h9 => h9.2 rfl)
     have hly : ∀ b, (setL L s.p.six (putR true s.p.six 60 (L s.p.six) s.p s.v).1 b).length ≤ k + 1 := fun b => by
      unfold setL
      split
      ·exact Nat.le_trans (putR_len _ _ _ _ _ _) (Nat.succ_le_succ (HL.out _))
      ·exact Nat.le_trans (HL.out b) (Nat.le_succ _)
     clear hbW hky hXx hAx
     try simp only [List.getElem_toArray, List.getElem_cons_succ, List.getElem_cons_zero, Act.put, List.setIfInBounds_toArray, List.set_cons_zero, List.set_cons_succ]
     go_wp2_with fail
     go_roundw
     case rel => exact ⟨k + 1, _, K + 2, by omega, by simp, hTy, by have := HK.out; omega, hly, hwy, hay⟩
     case measure => simp [intOf]; omega
   ·obtain rfl : k = n := by omega
    have hk9 : K ≤ 100000 := by have := HK.out; have := HN50.out; omega
    have HK9 := Lib.hid hk9
    have HLK := Lib.hid (HT.out.lok six)
    have HGP := Lib.hid (ofM_good six ad HAL.out)
    obtain ⟨p, hp⟩ : ∃ p, ofF six ad (mostF six) = p := ⟨_, rfl⟩
    have h6 : p.six = six := by rw [← hp]; rfl
    obtain ⟨hf1, hf2, hf3⟩ := looks_facts HLK.out HAL.out
    rw [hp] at HGP hf1 hf2 hf3
    have HPF := Lib.hid HGP.out.fit
    have HF1 := Lib.hid hf1
    have HF2 := Lib.hid hf2
    have HF3 := Lib.hid hf3
    have H6 := Lib.hid h6
    have hL6 : (L six).length ≤ 60 := by have := HL.out six; have := HN50.out; omega
    have HL6 := Lib.hid hL6
    clear hk9 hf1 hf2 hf3 h6 hL6
    go_wp2_with (refine wpList_value (by rfl) (exec_load 23 _ rfl g5 (by rfl) 23 (bv ad) _ HA.out Try.underlying23 rfl (size16 _ HAL.out)) ?_)
    have hof := rof_any six ad HAL.out wr
    rw [hp] at hof
    refine hof.mono ?_
    clear hof hp
    rintro e w4 ⟨rfl, hb⟩
    replace HT := Lib.hid (HT.out.on hb)
    replace HW := Lib.hid (bthen HW.out hb)
    replace HA := Lib.hid (HA.out.on hb)
    clear hb
    go_upto_region 12 with (first
     | (refine wpList_alloc_blk (by rfl) 30 rfl Px.zero.cells zeroPx ?_; intro wa hba hBa hsa)
     | (refine wpList_store_all (by rfl) 30 _ _ rfl w4.heap.size p.cells rfl rfl 30 _ hba (sizePx _ HPF.out.addr) (Px.cells_same _ _ HPF.out.addr rfl) (onePx _) ?_; intro w5 hb5 hg5 hs5))
    have hbb := (bgrown hBa hg5 hBa.size (Nat.le_refl _))
    replace HT := Lib.hid (HT.out.on hbb)
    replace HW := Lib.hid (bthen HW.out hbb)
    replace HA := Lib.hid (HA.out.on hbb)
    obtain ⟨g10, hg10⟩ : ∃ g, w4.heap.size = g := ⟨_, rfl⟩
    rw [hg10] at hb5
    try rw [hg10]
    have HD := Lib.hid hb5
    clear hba hBa hsa hb5 hg5 hs5 hbb hg10
    obtain ⟨Y, hY⟩ : ∃ x, ansL' (L six) ad = x := ⟨_, rfl⟩
    have hyf : Y.1.1.fit := by rw [← hY]; exact ansL'_fit HLK.out ad
    obtain ⟨y, b⟩ := Y
    have HYF := Lib.hid hyf
    have HY := Lib.hid hY
    clear hyf hY
    go_wp2_with (refine wpList_value (by rfl) (exec_load 23 _ rfl g5 (by rfl) 23 (bv ad) _ HA.out Try.underlying23 rfl (size16 _ HAL.out)) ?_)
    refine (flook_any HT.out six ad HAL.out).mono ?_
    rintro e w6 ⟨rfl, hb⟩
    rw [HY.out]
    replace HT := Lib.hid (HT.out.on hb)
    replace HW := Lib.hid (bthen HW.out hb)
    replace HD := Lib.hid (HD.out.on hb)
    clear hb
    go_upto_region 13 with (first
     | (refine wpList_alloc_blk (by rfl) 35 rfl (itC (Px.zero, 0)) zeroIt ?_; intro wa hba hBa hsa)
     | (refine wpList_store_all (by rfl) 35 _ _ rfl w6.heap.size (itC y) rfl rfl 35 _ hba (sizeIt _ HYF.out.addr) (by rw [itC_length y HYF.out.addr]; rfl) (oneIt _) ?_; intro w7 hb5 hg5 hs5))
    have hbb := (bgrown hBa hg5 hBa.size (Nat.le_refl _))
    replace HT := Lib.hid (HT.out.on hbb)
    replace HW := Lib.hid (bthen HW.out hbb)
    replace HD := Lib.hid (HD.out.on hbb)
    obtain ⟨g11, hg11⟩ : ∃ g, w6.heap.size = g := ⟨_, rfl⟩
    rw [hg11] at hb5
    try rw [hg11]
    have HI := Lib.hid hb5
    clear hba hBa hsa hb5 hg5 hs5 hbb hg11 HA
    go_wp2_with (refine wpList_value (by rfl) (exec_load 30 _ rfl g10 (by rfl) 30 p.cells _ HD.out Try.underlying30 rfl (sizePx _ HPF.out.addr)) ?_)
    have hget := fget_any HT.out trivial p HPF.out
    rw [H6.out] at hget
    refine hget.mono ?_
    clear hget
    rintro e w8 ⟨rfl, hb⟩
    replace HT := Lib.hid (HT.out.on hb)
    replace HW := Lib.hid (bthen HW.out hb)
    replace HD := Lib.hid (HD.out.on hb)
    replace HI := Lib.hid (HI.out.on hb)
    clear hb
    cases hh : hasC (L six) p
    ·have HH := Lib.hid hh
     clear hh
     go_wp2_with (refine wpList_value (by rfl) (exec_load 30 _ rfl g10 (by rfl) 30 p.cells _ HD.out Try.underlying30 rfl (sizePx _ HPF.out.addr)) ?_)
     have hab := fabove_any HT.out HK9.out p (by rw [H6.out]; exact HL6.out) HPF.out
     rw [H6.out] at hab
     refine hab.mono ?_
     clear hab
     rintro e w9 ⟨A9, n9, c9, rfl, hr9, hb⟩
     obtain ⟨M, hM⟩ : ∃ M, aboveF (L six) p = M := ⟨_, rfl⟩
     rw [hM] at hr9
     have hfit9 : ∀ x ∈ M, x.1.fit := fun x hx => by
      rw [← hM] at hx
      unfold aboveF at hx
      split at hx
      ·exact (HLK.out.good x (List.mem_filter.1 (List.mem_reverse.1 hx)).1).fit
      ·cases hx
     obtain rfl : M.length = n9 := its_row hr9 hfit9
     replace HW := Lib.hid (bthen HW.out hb)
     replace HI := Lib.hid (HI.out.on hb)
     have HM := Lib.hid hM
     cases M with
     | nil =>
      have hb0 := HF2.out HH.out hM
      rw [HY.out] at hb0
      simp only at hb0
      subst hb0
      clear hr9 hb hM hfit9
      go_wp2_with fail
      go_ret
      exact ⟨rfl, HW.out⟩
     | cons x M =>
      have hyx := HF3.out HH.out x M hM
      rw [HY.out] at hyx
      injection hyx with h1 h2
      subst h1
      subst h2
      obtain ⟨b9, o9, rfl, hb9, k0⟩ := its_at2 hr9 hfit9 0 y rfl
      rw [Nat.zero_mul, Nat.add_zero] at k0
      have HX0 := Lib.hid k0
      have HB9 := Lib.hid hb9
      obtain ⟨m, hm⟩ : ∃ m, (y :: M).length = m := ⟨_, rfl⟩
      have hm0 : ¬ (m : Int) = 0 := by rw [← hm, List.length_cons]; omega
      have hm1 : (0 : Int) < (m : Int) := by rw [← hm, List.length_cons]; omega
      rw [hm]
      clear hr9 hb hM hfit9 hb9 k0 hm
      go_wp2_with fail
      refine wp_region_rel (fun A B => A.grownBy B none) (fun A => grown_refl A _) (fun A B C h k => grown_trans h k) (relAt (List.cons (fun v _ => v = .bool true) (List.cons (fun v _ => v = .bool true) (List.cons (fun v _ => v = .agg (itC y).toArray) (List.cons (fun v _ => v = .slice (some ⟨b9, o9, none⟩) m c9) (List.cons (fun v _ => v = .pointer (some ⟨b9, o9, none⟩)) (List.cons (fun v _ => v = .agg (itC y).toArray) (List.cons (fun v _ => v = .bool true) (List.cons (fun v _ => v = .bool true) (List.cons (fun v _ => v = .bool true) ([]))))))))))) (MonoL.at_ (.cons (mono_val _) (.cons (mono_val _) (.cons (mono_val _) (.cons (mono_val _) (.cons (mono_val _) (.cons (mono_val _) (.cons (mono_val _) (.cons (mono_val _) (.cons (mono_val _) .nil)))))))))) (by kernel_rfl) (by kernel_rfl) ⟨?_, ?_, ?_, ?_, ?_, ?_, ?_, ?_, ?_, trivial⟩ ?_
      ·intro a vs W hX hR he hf K hK
       rw [if_pos (wanted_none rfl)]
       have e12 : a.eval (.tmp 12) = .bool true := hf 12 (by kernel_rfl)
       refine wp_value (v := .bool true) ?_ (hK _ _ rfl (grown_refl W _))
       simp only [execOp, e12]
       try go_simp
       try (first | rfl | omega | (simp only [IntKind.wrap_i64, IntKind.wrap_u8, IntKind.wrap_u64, IntKind.wrap_u16, IntKind.wrap_u32]; omega) | (rw [Int.tmod_eq_emod_of_nonneg (by omega)]) | (rw [Int.tmod_eq_emod_of_nonneg (by omega)]; omega))
      ·intro a vs W hX hR he hf K hK
       rw [if_pos (wanted_none rfl)]
       have e74 : a.eval (.tmp 74) = .bool true := (he 0 74 (by kernel_rfl) rfl).trans (hR 0 (by kernel_rfl))
       refine wp_value (v := .bool true) ?_ (hK _ _ rfl (grown_refl W _))
       simp only [execOp, e74]
       try go_simp
       try (first | rfl | omega | (simp only [IntKind.wrap_i64, IntKind.wrap_u8, IntKind.wrap_u64, IntKind.wrap_u16, IntKind.wrap_u32]; omega) | (rw [Int.tmod_eq_emod_of_nonneg (by omega)]) | (rw [Int.tmod_eq_emod_of_nonneg (by omega)]; omega))
      ·intro a vs W hX hR he hf K hK
       have e75 : a.eval (.tmp 75) = .bool true := (he 1 75 (by kernel_rfl) rfl).trans (hR 1 (by kernel_rfl))
       refine Eq.mpr (if_pos (by exact (wanted_some rfl rfl e75).trans rfl)) ?_
       have e11 : a.eval (.tmp 11) = .pointer (some ⟨g11, 0, none⟩) := hf 11 (by kernel_rfl)
       have hbW := bthen (below_drew _) (grow_below hX)
       exact wp_value (exec_load 35 _ rfl g11 e11 35 (itC y) _ (HI.out.on hbW) Try.underlying35 rfl (sizeIt _ HYF.out.addr)) (hK _ _ rfl (grown_refl W _))
      ·intro a vs W hX hR he hf K hK
       have e75 : a.eval (.tmp 75) = .bool true := (he 1 75 (by kernel_rfl) rfl).trans (hR 1 (by kernel_rfl))
       refine Eq.mpr (if_pos (by exact (wanted_some rfl rfl e75).trans rfl)) ?_
       have e15 : a.eval (.tmp 15) = .slice (some ⟨b9, o9, none⟩) m c9 := hf 15 (by kernel_rfl)
       refine wp_value (v := .slice (some ⟨b9, o9, none⟩) m c9) ?_ (hK _ _ rfl (grown_refl W _))
       simp only [execOp, e15]
       try go_simp
       try (first | rfl | omega | (simp only [IntKind.wrap_i64, IntKind.wrap_u8, IntKind.wrap_u64, IntKind.wrap_u16, IntKind.wrap_u32]; omega) | (rw [Int.tmod_eq_emod_of_nonneg (by omega)]) | (rw [Int.tmod_eq_emod_of_nonneg (by omega)]; omega))
      ·intro a vs W hX hR he hf K hK
       have e75 : a.eval (.tmp 75) = .bool true := (he 1 75 (by kernel_rfl) rfl).trans (hR 1 (by kernel_rfl))
       refine Eq.mpr (if_pos (by exact (wanted_some rfl rfl e75).trans rfl)) ?_
       have e77 : a.eval (.tmp 77) = .slice (some ⟨b9, o9, none⟩) m c9 := (he 3 77 (by kernel_rfl) rfl).trans (hR 3 (by kernel_rfl))
       refine wp_value (v := .pointer (some ⟨b9, o9, none⟩)) ?_ (hK _ _ rfl (grown_refl W _))
       simp only [execOp, e77]
       go_simp
       try (intro h0; exfalso; omega)
      ·intro a vs W hX hR he hf K hK
       have e75 : a.eval (.tmp 75) = .bool true := (he 1 75 (by kernel_rfl) rfl).trans (hR 1 (by kernel_rfl))
       refine Eq.mpr (if_pos (by exact (wanted_some rfl rfl e75).trans rfl)) ?_
       have e78 : a.eval (.tmp 78) = .pointer (some ⟨b9, o9, none⟩) := (he 4 78 (by kernel_rfl) rfl).trans (hR 4 (by kernel_rfl))
       have hbW := bthen (below_drew _) (grow_below hX)
       exact wp_value (exec_load_mid 35 _ rfl b9 o9 e78 (itC y) _ (range_below hbW HB9.out HX0.out) Try.underlying35 rfl (sizeIt _ HYF.out.addr)) (hK _ _ rfl (grown_refl W _))
      ·intro a vs W hX hR he hf K hK
       have e75 : a.eval (.tmp 75) = .bool true := (he 1 75 (by kernel_rfl) rfl).trans (hR 1 (by kernel_rfl))
       refine Eq.mpr (if_pos (by exact (wanted_some rfl rfl e75).trans rfl)) ?_
       have e76 : a.eval (.tmp 76) = .agg (itC y).toArray := (he 2 76 (by kernel_rfl) rfl).trans (hR 2 (by kernel_rfl))
       have e79 : a.eval (.tmp 79) = .agg (itC y).toArray := (he 5 79 (by kernel_rfl) rfl).trans (hR 5 (by kernel_rfl))
       exact wp_value (exec_eqIt _ _ _ rfl y y HYF.out.addr HYF.out.addr true (decide_eq_true rfl) e76 e79) (hK _ _ rfl (grown_refl W _))
      ·intro a vs W hX hR he hf K hK
       rw [if_pos (wanted_none rfl)]
       have e75 : a.eval (.tmp 75) = .bool true := (he 1 75 (by kernel_rfl) rfl).trans (hR 1 (by kernel_rfl))
       have e80 : a.eval (.tmp 80) = .bool true := (he 6 80 (by kernel_rfl) rfl).trans (hR 6 (by kernel_rfl))
       refine wp_value (v := .bool true) ?_ (hK _ _ rfl (grown_refl W _))
       simp only [execOp, e75, e80]
       try go_simp
       try (first | rfl | omega | (simp only [IntKind.wrap_i64, IntKind.wrap_u8, IntKind.wrap_u64, IntKind.wrap_u16, IntKind.wrap_u32]; omega) | (rw [Int.tmod_eq_emod_of_nonneg (by omega)]) | (rw [Int.tmod_eq_emod_of_nonneg (by omega)]; omega))
      ·intro a vs W hX hR he hf K hK
       rw [if_pos (wanted_none rfl)]
       have e81 : a.eval (.tmp 81) = .bool true := (he 7 81 (by kernel_rfl) rfl).trans (hR 7 (by kernel_rfl))
       refine wp_value (v := .bool true) ?_ (hK _ _ rfl (grown_refl W _))
       simp only [execOp, e81]
       try go_simp
       try (first | rfl | omega | (simp only [IntKind.wrap_i64, IntKind.wrap_u8, IntKind.wrap_u64, IntKind.wrap_u16, IntKind.wrap_u32]; omega) | (rw [Int.tmod_eq_emod_of_nonneg (by omega)]) | (rw [Int.tmod_eq_emod_of_nonneg (by omega)]; omega))
      ·intro vs wx hXx hR
       have q0 := hR 0 (by decide)
       have q1 := hR 1 (by decide)
       have q2 := hR 2 (by decide)
       have q3 := hR 3 (by decide)
       have q4 := hR 4 (by decide)
       have q5 := hR 5 (by decide)
       have q6 := hR 6 (by decide)
       have q7 := hR 7 (by decide)
       have q8 := hR 8 (by decide)
       change vs 0 = .bool true at q0
       change vs 1 = .bool true at q1
       change vs 2 = .agg (itC y).toArray at q2
       change vs 3 = .slice (some ⟨b9, o9, none⟩) m c9 at q3
       change vs 4 = .pointer (some ⟨b9, o9, none⟩) at q4
       change vs 5 = .agg (itC y).toArray at q5
       change vs 6 = .bool true at q6
       change vs 7 = .bool true at q7
       change vs 8 = .bool true at q8
       simp only [putAll, Act.put, List.setIfInBounds_toArray, List.set_cons_zero, List.set_cons_succ, q0, q1, q2, q3, q4, q5, q6, q7, q8]
       clear q0 q1 q2 q3 q4 q5 q6 q7 q8
       clear hR
       replace HW := Lib.hid (bthen HW.out (bthen (below_drew _) (grow_below hXx)))
       clear hXx
       go_wp2_with fail
       go_ret
       exact ⟨rfl, HW.out⟩
    ·have HH := Lib.hid hh
     have hyx := HF1.out hh
     rw [HY.out] at hyx
     injection hyx with h1 h2
     subst h2
     have HYP := Lib.hid h1
     clear hh h1
     obtain ⟨V, hV⟩ : ∃ V, getC (L six) p = V := ⟨_, rfl⟩
     rw [hV] at HYP
     rw [hV]
     clear hV
     go_wp2_with (first
      | (refine wpList_value (by rfl) (exec_load 30 _ rfl g10 (by rfl) 30 p.cells _ HD.out Try.underlying30 rfl (sizePx _ HPF.out.addr)) ?_)
      | (refine wpList_value (by rfl) (exec_load 35 _ rfl g11 (by rfl) 35 (itC y) _ HI.out Try.underlying35 rfl (sizeIt _ HYF.out.addr)) ?_)
      | (refine wpList_value (by rfl) (exec_buildI2 _ _ rfl p HPF.out.addr V rfl rfl) ?_)
      | (refine wpList_value (by rfl) (exec_eqIt _ _ _ rfl y (p, V) HYF.out.addr HPF.out.addr true (by rw [HYP.out]; simp) (by rfl) (by rfl)) ?_))
     go_ret
     exact ⟨rfl, HW.out⟩
end Go.Proofs.Ytdmgomknamdcfaa

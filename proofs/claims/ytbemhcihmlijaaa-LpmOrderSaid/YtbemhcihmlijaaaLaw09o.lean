/- The order in which prefixes come plays no part (LpmOrder). No condition but sizes. -/
import Derived.Test.YtbemhcihmlijaaaG28
import Derived.Test.YtbemhcihmlijaaaPl9o
import Derived.Deep.DeepCutAuto
namespace Go.Proofs.Ytbemhcihmlijaaa
open Go.RowKit
set_option linter.unusedVariables false
set_option maxRecDepth 20000
set_option linter.unusedSimpArgs false

/-- blocks of the one table, of the other -/
def inA (W B C b : Nat) : Prop := W ≤ b ∧ ¬ (B ≤ b ∧ b < C)
def inB (B C b : Nat) : Prop := B ≤ b ∧ b < C
def inA2 (W B C D b : Nat) : Prop := (W ≤ b ∧ ¬ (B ≤ b ∧ b < C)) ∧ b < D
def inB2 (B C D b : Nat) : Prop := (B ≤ b ∧ b < C) ∨ D ≤ b
/-- Put, with the blocks said by a predicate that holds of all new ones -/
theorem tput_S {w : World} {P : Nat → Prop} {o : Option Nat} {is six : Bool} {room : Int} {L : List Itm} {K : Nat} (h : TabO w P o is six room L K) (hP : ∀ b, w.heap.size ≤ b → P b) (hK : K ≤ 999990) (p : Px) (hf : p.fit) (v : Int) :
  Calls Try.prog 11 #[ptV o, .agg p.cells.toArray, .int .i64 v] w fun e w' => e = .returned (.int .i64 (putR is six room L p v).2) ∧ TabO w' P o is six room (putR is six room L p v).1 (K + 2) ∧ Kept P w w' := by
 refine (tput_O h hK p hf v).mono ?_
 rintro e w' ⟨rfl, h3, h4⟩
 exact ⟨rfl, h3.mono (fun b hb h9 => h9.elim (fun h => h) (fun h => hP b h.1)) (Nat.le_refl _), h4⟩
theorem st_at19 {w : World} {b o : Nat} {x : St9} (h : w.rangeAt b o x.cells) (hx : x.p.addr.length = 16) : w.cell? ⟨b, o + 19, none⟩ = some (.int .i64 x.v) := h 19 _ (st_v hx)
set_option maxHeartbeats 4000000 in
theorem walk_LpmOrder (w : World) (z : Sl9) (hz : z.ok w) (six : Bool) :
  Calls Try.prog 3 #[.slice z.A z.n z.c, .bool six] w fun e w' => e = .returned (.bool true) ∧ Below w.heap.size w w' := by
 obtain ⟨A, n, c, Sc⟩ := z
 obtain ⟨hr, hle, hcap, hfit⟩ := hz
 simp only at hr hle hcap hfit ⊢
 have HR := Lib.hid hr
 have HF := Lib.hid hfit
 have HLN := Lib.hid (sts_row hr hfit)
 clear hr hfit hle hcap
 go_enter Try.func3, Try.ntmps3
 go_wp2_with fail
 refine (awake_any w).mono ?_
 rintro e w2 ⟨rfl, hb⟩
 have HW2 := Lib.hid hb
 clear hb
 by_cases h40 : (40 : Int) < (n : Int)
 ·go_wp2_with fail
  go_ret
  exact ⟨rfl, HW2.out⟩
 ·have HN40 := Lib.hid (show n ≤ 40 by omega)
  go_wp2_with fail
  refine (tnew_O six 1000 w2).mono ?_
  rintro e w3 ⟨o1, rfl, hne, hT, hb⟩
  have i1 : (!o1.isNone) = true := by
   cases o1 with
   | none => exact absurd (hne.1 rfl) (by decide)
   | some g => rfl
  rw [i1] at hT
  have HT3 := Lib.hid hT
  have HB3 := Lib.hid hb
  have HW3 := Lib.hid (bthen HW2.out hb)
  clear hT hne hb i1
  go_wp2_with fail
  refine (tnew_O six 1000 w3).mono ?_
  rintro e w4 ⟨o2, rfl, hne, hT, hb⟩
  have i1 : (!o2.isNone) = true := by
   cases o2 with
   | none => exact absurd (hne.1 rfl) (by decide)
   | some g => rfl
  rw [i1] at hT
  have hs2 := HW2.out.size
  have hs3 := HB3.out.size
  have hs4 := hb.size
  have hA : TabO w4 (inA w.heap.size w3.heap.size w4.heap.size) o1 true six 1000 [] 1 := (HT3.out.on hb).mono (fun b hb h9 => h9.elim False.elim (fun h => ⟨by omega, fun h8 => by omega⟩)) (Nat.le_refl _)
  have hB : TabO w4 (inB w3.heap.size w4.heap.size) o2 true six 1000 [] 1 := hT.mono (fun b hb h9 => h9.elim False.elim (fun h => h)) (Nat.le_refl _)
  have hW4 := bthen HW3.out hb
  have hWC : w.heap.size ≤ w3.heap.size := by omega
  have hWD : w.heap.size ≤ w4.heap.size := by omega
  obtain ⟨C, hC⟩ : ∃ x, w4.heap.size = x := ⟨_, rfl⟩
  obtain ⟨B, hBe⟩ : ∃ x, w3.heap.size = x := ⟨_, rfl⟩
  rw [hBe] at hA hB hWC
  rw [hC] at hA hB hWD
  have HA := Lib.hid hA
  have HB := Lib.hid hB
  have HW4 := Lib.hid hW4
  have HWB := Lib.hid hWC
  have HWC := Lib.hid hWD
  have HC4 := Lib.hid (show C ≤ w4.heap.size by omega)
  clear hT hne hb i1 hs2 hs3 hs4 hA hB hW4 hWC hWD hC hBe
  have hn40 := HN40.out
  go_wp2_with fail
  go_loopw [8, 9, 10] (fun i xv xb wr => ∃ (k : Nat) (L : List Itm) (K : Nat), k ≤ n ∧ i = .int .i64 (k : Nat) ∧ TabO wr (inA w.heap.size B C) o1 true six 1000 L K ∧ TabO wr (inB B C) o2 true six 1000 [] 1 ∧ K ≤ 2 * k + 1 ∧ Hold six L (Sc.take k) ∧ Below w.heap.size w wr ∧ C ≤ wr.heap.size) (fun i _ _ _ => n - (intOf i).toNat)
  case atStart => exact ⟨0, [], 1, by omega, rfl, HA.out, HB.out, by omega, Hold.nil six, HW4.out, HC4.out⟩
  case round =>
   obtain ⟨k, L, K, hk, rfl, hA, hB, hK, hH, hW, hC⟩ := hrel
   clear HA HB
   have HA := Lib.hid hA
   have HB := Lib.hid hB
   have HK := Lib.hid hK
   have HH := Lib.hid hH
   have HW := Lib.hid hW
   have HC := Lib.hid hC
   clear hA hB hK hH hW hC
   by_cases hlt : k < n
   ·obtain ⟨s, hs⟩ := get_ex Sc (k := k) (by rw [HLN.out]; exact hlt)
    obtain ⟨bA, oA, rfl, hbA, hcA⟩ := sts_at HR.out HF.out k s hs
    have HSF := Lib.hid (HF.out s (List.mem_of_getElem? hs))
    have HSR := Lib.hid (range_below HW.out hbA hcA)
    have HBA := Lib.hid (show bA < wr.heap.size from Nat.lt_of_lt_of_le hbA HW.out.size)
    have HNX := Lib.hid (show Hold six (if hasC L s.p then L else (putR true six 1000 L s.p s.v).1) (Sc.take (k + 1)) by
     rw [take_snoc Sc k s hs]
     exact HH.out.front (by have h8 := HA.out.len; have h9 := HK.out; have := HN40.out; omega) s HSF.out.p.addr)
    have hlt2 : (k : Int) < (n : Int) := by omega
    have hlt3 : (k : Int) + 1 ≤ (n : Int) := by omega
    clear hbA hcA hs
    go_wp2_with (refine wpList_value (by rfl) (exec_load_mid 30 _ rfl bA (oA + k * 20 + 1) (by rfl) s.p.cells _ (st_px HSR.out) Try.underlying30 rfl (sizePx _ HSF.out.p.addr)) ?_)
    refine (tget_O HA.out s.p HSF.out.p).mono ?_
    rintro e w5 ⟨rfl, hb⟩
    replace HA := Lib.hid (HA.out.on hb)
    replace HB := Lib.hid (HB.out.on hb)
    replace HSR := Lib.hid (range_below hb HBA.out HSR.out)
    replace HBA := Lib.hid (show bA < w5.heap.size from Nat.lt_of_lt_of_le HBA.out hb.size)
    replace HW := Lib.hid (bthen HW.out hb)
    replace HC := Lib.hid (Nat.le_trans HC.out hb.size)
    clear hb
    cases hh : hasC L s.p
    ·have HNY := Lib.hid (show Hold six (putR true six 1000 L s.p s.v).1 (Sc.take (k + 1)) by have h9 := HNX.out; rw [hh] at h9; exact h9)
     clear hh HNX
     go_wp2_with fail
     refine wp_region_last 11 (fun A B => A.grownBy B none) (fun A => grown_refl A _) (fun A B C h k => grown_trans h k) (relAt (List.cons (fun v _ => v = ptV o1) (List.cons (fun v _ => v = .slice (some ⟨bA, oA, none⟩) n c) (List.cons (fun v _ => v = .int .i64 (k : Nat)) (List.cons (fun v _ => v = .pointer (some ⟨bA, oA + k * 20, none⟩)) (List.cons (fun v _ => v = .pointer (some ⟨bA, oA + k * 20 + 1, none⟩)) (List.cons (fun v _ => v = .agg s.p.cells.toArray) (List.cons (fun v _ => v = .slice (some ⟨bA, oA, none⟩) n c) (List.cons (fun v _ => v = .int .i64 (k : Nat)) (List.cons (fun v _ => v = .pointer (some ⟨bA, oA + k * 20, none⟩)) (List.cons (fun v _ => v = .pointer (some ⟨bA, oA + k * 20 + 19, none⟩)) (List.cons (fun v _ => v = .int .i64 s.v) ([]))))))))))))) (MonoL.at_ (.cons (mono_val _) (.cons (mono_val _) (.cons (mono_val _) (.cons (mono_val _) (.cons (mono_val _) (.cons (mono_val _) (.cons (mono_val _) (.cons (mono_val _) (.cons (mono_val _) (.cons (mono_val _) (.cons (mono_val _) .nil)))))))))))) (by kernel_rfl) (by kernel_rfl) rfl (by kernel_rfl) _ rfl rfl ⟨?_, ?_, ?_, ?_, ?_, ?_, ?_, ?_, ?_, ?_, ?_, trivial⟩ ?_
     ·intro a vs W hX hR he hf K hK
      rw [if_pos (wanted_none rfl)]
      have e6 : a.eval (.tmp 6) = ptV o1 := hf 6 (by kernel_rfl)
      refine wp_value (v := ptV o1) ?_ (hK _ _ rfl (grown_refl W _))
      simp only [execOp, e6]
      try go_simp
     ·intro a vs W hX hR he hf K hK
      rw [if_pos (wanted_none rfl)]
      have e0 : a.eval (.tmp 0) = .slice (some ⟨bA, oA, none⟩) n c := hf 0 (by kernel_rfl)
      refine wp_value (v := .slice (some ⟨bA, oA, none⟩) n c) ?_ (hK _ _ rfl (grown_refl W _))
      simp only [execOp, e0]
      try go_simp
     ·intro a vs W hX hR he hf K hK
      rw [if_pos (wanted_none rfl)]
      have e8 : a.eval (.tmp 8) = .int .i64 (k : Nat) := hf 8 (by kernel_rfl)
      refine wp_value (v := .int .i64 (k : Nat)) ?_ (hK _ _ rfl (grown_refl W _))
      simp only [execOp, e8]
      try go_simp
     ·intro a vs W hX hR he hf K hK
      rw [if_pos (wanted_none rfl)]
      have e44 : a.eval (.tmp 44) = .slice (some ⟨bA, oA, none⟩) n c := (he 1 44 (by kernel_rfl) rfl).trans (hR 1 (by kernel_rfl))
      have e45 : a.eval (.tmp 45) = .int .i64 (k : Nat) := (he 2 45 (by kernel_rfl) rfl).trans (hR 2 (by kernel_rfl))
      refine wp_value (v := .pointer (some ⟨bA, oA + k * 20, none⟩)) ?_ (hK _ _ rfl (grown_refl W _))
      simp only [execOp, e44, e45]
      go_simp
     ·intro a vs W hX hR he hf K hK
      rw [if_pos (wanted_none rfl)]
      have e46 : a.eval (.tmp 46) = .pointer (some ⟨bA, oA + k * 20, none⟩) := (he 3 46 (by kernel_rfl) rfl).trans (hR 3 (by kernel_rfl))
      refine wp_value (v := .pointer (some ⟨bA, oA + k * 20 + 1, none⟩)) ?_ (hK _ _ rfl (grown_refl W _))
      simp only [execOp, e46]
      try go_simp
     ·intro a vs W hX hR he hf K hK
      rw [if_pos (wanted_none rfl)]
      have e47 : a.eval (.tmp 47) = .pointer (some ⟨bA, oA + k * 20 + 1, none⟩) := (he 4 47 (by kernel_rfl) rfl).trans (hR 4 (by kernel_rfl))
      have hbW := bthen (below_drew _) (grow_below hX)
      exact wp_value (exec_load_mid 30 _ rfl bA (oA + k * 20 + 1) e47 s.p.cells _ (range_below hbW HBA.out (st_px HSR.out)) Try.underlying30 rfl (sizePx _ HSF.out.p.addr)) (hK _ _ rfl (grown_refl W _))
     ·intro a vs W hX hR he hf K hK
      rw [if_pos (wanted_none rfl)]
      have e0 : a.eval (.tmp 0) = .slice (some ⟨bA, oA, none⟩) n c := hf 0 (by kernel_rfl)
      refine wp_value (v := .slice (some ⟨bA, oA, none⟩) n c) ?_ (hK _ _ rfl (grown_refl W _))
      simp only [execOp, e0]
      try go_simp
     ·intro a vs W hX hR he hf K hK
      rw [if_pos (wanted_none rfl)]
      have e8 : a.eval (.tmp 8) = .int .i64 (k : Nat) := hf 8 (by kernel_rfl)
      refine wp_value (v := .int .i64 (k : Nat)) ?_ (hK _ _ rfl (grown_refl W _))
      simp only [execOp, e8]
      try go_simp
     ·intro a vs W hX hR he hf K hK
      rw [if_pos (wanted_none rfl)]
      have e49 : a.eval (.tmp 49) = .slice (some ⟨bA, oA, none⟩) n c := (he 6 49 (by kernel_rfl) rfl).trans (hR 6 (by kernel_rfl))
      have e50 : a.eval (.tmp 50) = .int .i64 (k : Nat) := (he 7 50 (by kernel_rfl) rfl).trans (hR 7 (by kernel_rfl))
      refine wp_value (v := .pointer (some ⟨bA, oA + k * 20, none⟩)) ?_ (hK _ _ rfl (grown_refl W _))
      simp only [execOp, e49, e50]
      go_simp
     ·intro a vs W hX hR he hf K hK
      rw [if_pos (wanted_none rfl)]
      have e51 : a.eval (.tmp 51) = .pointer (some ⟨bA, oA + k * 20, none⟩) := (he 8 51 (by kernel_rfl) rfl).trans (hR 8 (by kernel_rfl))
      refine wp_value (v := .pointer (some ⟨bA, oA + k * 20 + 19, none⟩)) ?_ (hK _ _ rfl (grown_refl W _))
      simp only [execOp, e51]
      try go_simp
     ·intro a vs W hX hR he hf K hK
      rw [if_pos (wanted_none rfl)]
      have e52 : a.eval (.tmp 52) = .pointer (some ⟨bA, oA + k * 20 + 19, none⟩) := (he 9 52 (by kernel_rfl) rfl).trans (hR 9 (by kernel_rfl))
      have hbW := bthen (below_drew _) (grow_below hX)
      have hc : W.cell? ⟨bA, oA + k * 20 + 19, none⟩ = some (.int .i64 s.v) := st_at19 (range_below hbW HBA.out HSR.out) HSF.out.p.addr
      refine wp_value (v := _) ?_ (hK _ _ rfl (grown_refl W _))
      simp only [execOp, e52]
      try go_simp
     ·intro vs wx hXx hR
      have q0 := hR 0 (by decide)
      have q1 := hR 1 (by decide)
      have q2 := hR 2 (by decide)
      have q3 := hR 3 (by decide)
      have q4 := hR 4 (by decide)
      have q5 := hR 5 (by decide)
      have q6 := hR 6 (by decide)
      have q7 := hR 7 (by decide)
      have q8 := hR 8 (by decide)
      have q9 := hR 9 (by decide)
      have q10 := hR 10 (by decide)
      change vs 0 = ptV o1 at q0
      change vs 1 = .slice (some ⟨bA, oA, none⟩) n c at q1
      change vs 2 = .int .i64 (k : Nat) at q2
      change vs 3 = .pointer (some ⟨bA, oA + k * 20, none⟩) at q3
      change vs 4 = .pointer (some ⟨bA, oA + k * 20 + 1, none⟩) at q4
      change vs 5 = .agg s.p.cells.toArray at q5
      change vs 6 = .slice (some ⟨bA, oA, none⟩) n c at q6
      change vs 7 = .int .i64 (k : Nat) at q7
      change vs 8 = .pointer (some ⟨bA, oA + k * 20, none⟩) at q8
      change vs 9 = .pointer (some ⟨bA, oA + k * 20 + 19, none⟩) at q9
      change vs 10 = .int .i64 s.v at q10
      simp only [putAll, Act.put, List.setIfInBounds_toArray, List.set_cons_zero, List.set_cons_succ, List.take_succ_cons, List.take_zero, q0, q1, q2, q3, q4, q5, q6, q7, q8, q9, q10]
      clear q0 q1 q2 q3 q4 q5 q6 q7 q8 q9 q10
      clear hR
      have hbW := bthen (below_drew _) (grow_below hXx)
      have hT9 := tput_S (HA.out.on hbW) (fun b h9 => by have h7 := HC.out; have h8 := HWC.out; have h6 := hbW.size; exact ⟨by omega, fun h => by omega⟩) (by have := HK.out; omega) s.p HSF.out.p s.v
      refine wp_enter (f := 11) (args := #[ptV o1, .agg s.p.cells.toArray, .int .i64 s.v]) (by simp only [execOp]; go_simp) (hT9.mono ?_)
      rintro e wy ⟨rfl, hTy, hky⟩
      refine ⟨_, rfl, ?_⟩
      clear hT9
      have hoy := (HB.out.on hbW).kept hky (fun b h9 h8 => h8.2 h9)
      have hwy := (bthen HW.out hbW).trans (hky.below (Nat.le_trans HW.out.size hbW.size) (fun b h9 => h9.1))
      have hsy := Nat.le_trans (Nat.le_trans HC.out hbW.size) hky.size
      clear hbW hky hXx
      try simp only [List.getElem_toArray, List.getElem_cons_succ, List.getElem_cons_zero, Act.put, List.setIfInBounds_toArray, List.set_cons_zero, List.set_cons_succ]
      go_wp2_with fail
      go_roundw
      case rel => exact ⟨k + 1, _, K + 2, by omega, by simp, hTy, hoy, by have := HK.out; omega, HNY.out, hwy, hsy⟩
      case measure => simp [intOf]; omega
    ·have HNY := Lib.hid (show Hold six L (Sc.take (k + 1)) by have h9 := HNX.out; rw [hh] at h9; exact h9)
     clear hh HNX
     go_wp2_with fail
     go_roundw
     case rel => exact ⟨k + 1, L, K, by omega, by simp, HA.out, HB.out, by have := HK.out; omega, HNY.out, HW.out, HC.out⟩
     case measure => simp [intOf]; omega
   ·obtain rfl : k = n := by omega
    have htl : Sc.take k = Sc := List.take_of_length_le (by rw [HLN.out]; exact Nat.le_refl _)
    rw [htl] at HH
    clear htl
    have hKA : K ≤ 81 := by have := HK.out; omega
    have hsz := HC.out
    have hA2 : TabO wr (inA2 w.heap.size B C wr.heap.size) o1 true six 1000 L K := HA.out.mono (fun b hb h9 => ⟨h9, hb⟩) (Nat.le_refl _)
    have hB2 : TabO wr (inB2 B C wr.heap.size) o2 true six 1000 [] 1 := HB.out.mono (fun b hb h9 => .inl h9) (Nat.le_refl _)
    have hWD : w.heap.size ≤ wr.heap.size := HW.out.size
    obtain ⟨D, hD⟩ : ∃ x, wr.heap.size = x := ⟨_, rfl⟩
    rw [hD] at hA2 hB2 hWD hsz
    have HA2 := Lib.hid hA2
    have HB2 := Lib.hid hB2
    have HWD := Lib.hid hWD
    have HCD := Lib.hid hsz
    have HDR := Lib.hid (show D ≤ wr.heap.size by omega)
    have HKA := Lib.hid hKA
    clear hA2 hB2 hWD hsz hD hKA HA HB
    go_wp2_with fail
    go_loopw [11] (fun i wq => ∃ (k' : Nat) (M : List Itm) (K' : Nat), k' ≤ k ∧ i = .int .i64 ((k' : Int) - 1) ∧ TabO wq (inA2 w.heap.size B C D) o1 true six 1000 L K ∧ TabO wq (inB2 B C D) o2 true six 1000 M K' ∧ K' ≤ 2 * (k - k') + 1 ∧ Hold six M (Sc.drop k') ∧ Below w.heap.size w wq ∧ D ≤ wq.heap.size) (fun i _ => (intOf i + 1).toNat)
    case atStart => exact ⟨k, [], 1, by omega, rfl, HA2.out, HB2.out, by omega, by rw [List.drop_of_length_le (by rw [HLN.out]; exact Nat.le_refl _)]; exact Hold.nil six, HW.out, HDR.out⟩
    case round =>
     obtain ⟨k', M, K', hk', rfl, hA, hB, hK, hH, hW, hC⟩ := hrel
     clear HA2 HB2 HW HC HK HDR
     have HA := Lib.hid hA
     have HB := Lib.hid hB
     have HK := Lib.hid hK
     have HG := Lib.hid hH
     have HW := Lib.hid hW
     have HC := Lib.hid hC
     clear hA hB hK hH hW hC
     by_cases hlt : 0 < k'
     ·obtain ⟨j, rfl⟩ : ∃ j, k' = j + 1 := ⟨k' - 1, by omega⟩
      obtain ⟨s, hs⟩ := get_ex Sc (k := j) (by rw [HLN.out]; omega)
      obtain ⟨bA, oA, rfl, hbA, hcA⟩ := sts_at HR.out HF.out j s hs
      have HSF := Lib.hid (HF.out s (List.mem_of_getElem? hs))
      have HSR := Lib.hid (range_below HW.out hbA hcA)
      have HBA := Lib.hid (show bA < wr.heap.size from Nat.lt_of_lt_of_le hbA HW.out.size)
      have HNY := Lib.hid (show Hold six (putR true six 1000 M s.p s.v).1 (Sc.drop j) by
       rw [List.drop_eq_getElem_cons (by have := (List.getElem?_eq_some_iff.1 hs).1; exact this), (List.getElem?_eq_some_iff.1 hs).2]
       exact HG.out.back (by have h8 := HB.out.len; have h9 := HK.out; have := HN40.out; omega) s HSF.out.p.addr)
      have hj0 : (0 : Int) ≤ (j : Int) := by omega
      have hjk : (j : Int) < (k : Int) := by omega
      rw [show ((j + 1 : Nat) : Int) - 1 = (j : Int) by omega]
      clear hbA hcA hs
      go_wp2_with fail
      refine wp_region_last 11 (fun A B => A.grownBy B none) (fun A => grown_refl A _) (fun A B C h k => grown_trans h k) (relAt (List.cons (fun v _ => v = ptV o2) (List.cons (fun v _ => v = .slice (some ⟨bA, oA, none⟩) k c) (List.cons (fun v _ => v = .int .i64 (j : Nat)) (List.cons (fun v _ => v = .pointer (some ⟨bA, oA + j * 20, none⟩)) (List.cons (fun v _ => v = .pointer (some ⟨bA, oA + j * 20 + 1, none⟩)) (List.cons (fun v _ => v = .agg s.p.cells.toArray) (List.cons (fun v _ => v = .slice (some ⟨bA, oA, none⟩) k c) (List.cons (fun v _ => v = .int .i64 (j : Nat)) (List.cons (fun v _ => v = .pointer (some ⟨bA, oA + j * 20, none⟩)) (List.cons (fun v _ => v = .pointer (some ⟨bA, oA + j * 20 + 19, none⟩)) (List.cons (fun v _ => v = .int .i64 s.v) ([]))))))))))))) (MonoL.at_ (.cons (mono_val _) (.cons (mono_val _) (.cons (mono_val _) (.cons (mono_val _) (.cons (mono_val _) (.cons (mono_val _) (.cons (mono_val _) (.cons (mono_val _) (.cons (mono_val _) (.cons (mono_val _) (.cons (mono_val _) .nil)))))))))))) (by kernel_rfl) (by kernel_rfl) rfl (by kernel_rfl) _ rfl rfl ⟨?_, ?_, ?_, ?_, ?_, ?_, ?_, ?_, ?_, ?_, ?_, trivial⟩ ?_
      ·intro a vs W hX hR he hf K hK
       rw [if_pos (wanted_none rfl)]
       have e7 : a.eval (.tmp 7) = ptV o2 := hf 7 (by kernel_rfl)
       refine wp_value (v := ptV o2) ?_ (hK _ _ rfl (grown_refl W _))
       simp only [execOp, e7]
       try go_simp
      ·intro a vs W hX hR he hf K hK
       rw [if_pos (wanted_none rfl)]
       have e0 : a.eval (.tmp 0) = .slice (some ⟨bA, oA, none⟩) k c := hf 0 (by kernel_rfl)
       refine wp_value (v := .slice (some ⟨bA, oA, none⟩) k c) ?_ (hK _ _ rfl (grown_refl W _))
       simp only [execOp, e0]
       try go_simp
      ·intro a vs W hX hR he hf K hK
       rw [if_pos (wanted_none rfl)]
       have e11 : a.eval (.tmp 11) = .int .i64 (j : Nat) := hf 11 (by kernel_rfl)
       refine wp_value (v := .int .i64 (j : Nat)) ?_ (hK _ _ rfl (grown_refl W _))
       simp only [execOp, e11]
       try go_simp
      ·intro a vs W hX hR he hf K hK
       rw [if_pos (wanted_none rfl)]
       have e63 : a.eval (.tmp 63) = .slice (some ⟨bA, oA, none⟩) k c := (he 1 63 (by kernel_rfl) rfl).trans (hR 1 (by kernel_rfl))
       have e64 : a.eval (.tmp 64) = .int .i64 (j : Nat) := (he 2 64 (by kernel_rfl) rfl).trans (hR 2 (by kernel_rfl))
       refine wp_value (v := .pointer (some ⟨bA, oA + j * 20, none⟩)) ?_ (hK _ _ rfl (grown_refl W _))
       simp only [execOp, e63, e64]
       go_simp
      ·intro a vs W hX hR he hf K hK
       rw [if_pos (wanted_none rfl)]
       have e65 : a.eval (.tmp 65) = .pointer (some ⟨bA, oA + j * 20, none⟩) := (he 3 65 (by kernel_rfl) rfl).trans (hR 3 (by kernel_rfl))
       refine wp_value (v := .pointer (some ⟨bA, oA + j * 20 + 1, none⟩)) ?_ (hK _ _ rfl (grown_refl W _))
       simp only [execOp, e65]
       try go_simp
      ·intro a vs W hX hR he hf K hK
       rw [if_pos (wanted_none rfl)]
       have e66 : a.eval (.tmp 66) = .pointer (some ⟨bA, oA + j * 20 + 1, none⟩) := (he 4 66 (by kernel_rfl) rfl).trans (hR 4 (by kernel_rfl))
       have hbW := bthen (below_drew _) (grow_below hX)
       exact wp_value (exec_load_mid 30 _ rfl bA (oA + j * 20 + 1) e66 s.p.cells _ (range_below hbW HBA.out (st_px HSR.out)) Try.underlying30 rfl (sizePx _ HSF.out.p.addr)) (hK _ _ rfl (grown_refl W _))
      ·intro a vs W hX hR he hf K hK
       rw [if_pos (wanted_none rfl)]
       have e0 : a.eval (.tmp 0) = .slice (some ⟨bA, oA, none⟩) k c := hf 0 (by kernel_rfl)
       refine wp_value (v := .slice (some ⟨bA, oA, none⟩) k c) ?_ (hK _ _ rfl (grown_refl W _))
       simp only [execOp, e0]
       try go_simp
      ·intro a vs W hX hR he hf K hK
       rw [if_pos (wanted_none rfl)]
       have e11 : a.eval (.tmp 11) = .int .i64 (j : Nat) := hf 11 (by kernel_rfl)
       refine wp_value (v := .int .i64 (j : Nat)) ?_ (hK _ _ rfl (grown_refl W _))
       simp only [execOp, e11]
       try go_simp
      ·intro a vs W hX hR he hf K hK
       rw [if_pos (wanted_none rfl)]
       have e68 : a.eval (.tmp 68) = .slice (some ⟨bA, oA, none⟩) k c := (he 6 68 (by kernel_rfl) rfl).trans (hR 6 (by kernel_rfl))
       have e69 : a.eval (.tmp 69) = .int .i64 (j : Nat) := (he 7 69 (by kernel_rfl) rfl).trans (hR 7 (by kernel_rfl))
       refine wp_value (v := .pointer (some ⟨bA, oA + j * 20, none⟩)) ?_ (hK _ _ rfl (grown_refl W _))
       simp only [execOp, e68, e69]
       go_simp
      ·intro a vs W hX hR he hf K hK
       rw [if_pos (wanted_none rfl)]
       have e70 : a.eval (.tmp 70) = .pointer (some ⟨bA, oA + j * 20, none⟩) := (he 8 70 (by kernel_rfl) rfl).trans (hR 8 (by kernel_rfl))
       refine wp_value (v := .pointer (some ⟨bA, oA + j * 20 + 19, none⟩)) ?_ (hK _ _ rfl (grown_refl W _))
       simp only [execOp, e70]
       try go_simp
      ·intro a vs W hX hR he hf K hK
       rw [if_pos (wanted_none rfl)]
       have e71 : a.eval (.tmp 71) = .pointer (some ⟨bA, oA + j * 20 + 19, none⟩) := (he 9 71 (by kernel_rfl) rfl).trans (hR 9 (by kernel_rfl))
       have hbW := bthen (below_drew _) (grow_below hX)
       have hc : W.cell? ⟨bA, oA + j * 20 + 19, none⟩ = some (.int .i64 s.v) := st_at19 (range_below hbW HBA.out HSR.out) HSF.out.p.addr
       refine wp_value (v := _) ?_ (hK _ _ rfl (grown_refl W _))
       simp only [execOp, e71]
       try go_simp
      ·intro vs wx hXx hR
       have q0 := hR 0 (by decide)
       have q1 := hR 1 (by decide)
       have q2 := hR 2 (by decide)
       have q3 := hR 3 (by decide)
       have q4 := hR 4 (by decide)
       have q5 := hR 5 (by decide)
       have q6 := hR 6 (by decide)
       have q7 := hR 7 (by decide)
       have q8 := hR 8 (by decide)
       have q9 := hR 9 (by decide)
       have q10 := hR 10 (by decide)
       change vs 0 = ptV o2 at q0
       change vs 1 = .slice (some ⟨bA, oA, none⟩) k c at q1
       change vs 2 = .int .i64 (j : Nat) at q2
       change vs 3 = .pointer (some ⟨bA, oA + j * 20, none⟩) at q3
       change vs 4 = .pointer (some ⟨bA, oA + j * 20 + 1, none⟩) at q4
       change vs 5 = .agg s.p.cells.toArray at q5
       change vs 6 = .slice (some ⟨bA, oA, none⟩) k c at q6
       change vs 7 = .int .i64 (j : Nat) at q7
       change vs 8 = .pointer (some ⟨bA, oA + j * 20, none⟩) at q8
       change vs 9 = .pointer (some ⟨bA, oA + j * 20 + 19, none⟩) at q9
       change vs 10 = .int .i64 s.v at q10
       simp only [putAll, Act.put, List.setIfInBounds_toArray, List.set_cons_zero, List.set_cons_succ, List.take_succ_cons, List.take_zero, q0, q1, q2, q3, q4, q5, q6, q7, q8, q9, q10]
       clear q0 q1 q2 q3 q4 q5 q6 q7 q8 q9 q10
       clear hR
       have hbW := bthen (below_drew _) (grow_below hXx)
       have hT9 := tput_S (HB.out.on hbW) (fun b h9 => .inr (by have h7 := HC.out; have h6 := hbW.size; omega)) (by have := HK.out; omega) s.p HSF.out.p s.v
       refine wp_enter (f := 11) (args := #[ptV o2, .agg s.p.cells.toArray, .int .i64 s.v]) (by simp only [execOp]; go_simp) (hT9.mono ?_)
       rintro e wy ⟨rfl, hTy, hky⟩
       refine ⟨_, rfl, ?_⟩
       clear hT9
       have hoy := (HA.out.on hbW).kept hky (fun b h9 h8 => h8.elim h9.1.2 (fun h => absurd h9.2 (Nat.not_lt.2 h)))
       have hwy := (bthen HW.out hbW).trans (hky.below (Nat.le_trans HW.out.size hbW.size) (fun b h9 => h9.elim (fun h => Nat.le_trans HWB.out h.1) (fun h => Nat.le_trans HWD.out h)))
       have hsy := Nat.le_trans (Nat.le_trans HC.out hbW.size) hky.size
       clear hbW hky hXx
       try simp only [List.getElem_toArray, List.getElem_cons_succ, List.getElem_cons_zero, Act.put, List.setIfInBounds_toArray, List.set_cons_zero, List.set_cons_succ]
       go_wp2_with fail
       go_roundw
       case rel => exact ⟨j, _, K' + 2, by omega, rfl, hoy, hTy, by have := HK.out; omega, HNY.out, hwy, hsy⟩
       case measure => simp [intOf]; try omega
     ·obtain rfl : k' = 0 := by omega
      obtain rfl : L = M := HH.out.same HG.out
      rw [show ((0 : Nat) : Int) - 1 = -1 by rfl]
      have hk9 : K ≤ 999990 := by have := HKA.out; omega
      have HK9 := Lib.hid hk9
      have hk9 : K' ≤ 999990 := by have := HK.out; omega
      have HK8 := Lib.hid hk9
      clear hk9
      go_wp2_with fail
      refine (tall_O HA.out HK9.out).mono ?_
      rintro e w6 ⟨A1, c1, rfl, hO, hb⟩
      obtain ⟨m, hm⟩ : ∃ m, L.length = m := ⟨_, rfl⟩
      rw [hm] at hO
      try rw [hm]
      have HLM := Lib.hid hm
      have HR6 := Lib.hid hO.row
      have HB6 := Lib.hid (HB.out.on hb)
      have HW6 := Lib.hid (bthen HW.out hb)
      have hm9 : m < 1000 := by
       have h9 : L.length ≤ K := HA.out.len
       have := HKA.out; omega
      have HM9 := Lib.hid hm9
      have HLK := Lib.hid HA.out.lok
      clear hO hb hm hm9
      go_wp2_with fail
      refine (tall_O HB6.out HK8.out).mono ?_
      rintro e w7 ⟨A2, c2, rfl, hO, hb⟩
      rw [HLM.out] at hO
      try rw [HLM.out]
      have HR7 := Lib.hid hO.row
      have HR8 := Lib.hid (HR6.out.below hb)
      have HS8 := Lib.hid hb.size
      have HW7 := Lib.hid (bthen HW6.out hb)
      clear hO hb
      have hm9 := HM9.out
      go_wp2_with fail
      go_loopw [14] (fun i wq => ∃ (k' : Nat), k' ≤ m ∧ i = .int .i64 (k' : Nat) ∧ Below w7.heap.size w7 wq) (fun i _ => m - (intOf i).toNat)
      case atStart => exact ⟨0, by omega, rfl, Below.refl _ _⟩
      case round =>
       obtain ⟨q, hq, rfl, hbe⟩ := hrel
       have HBE := Lib.hid hbe
       clear hbe
       by_cases hlt : q < m
       ·obtain ⟨x, hx⟩ := get_ex L (k := q) (by rw [HLM.out]; exact hlt)
        have hfx : ∀ x ∈ L, x.1.fit := fun x hx => (HLK.out.good x hx).fit
        obtain ⟨bM, oM, rfl, hbM, hcM⟩ := its_at2 HR8.out hfx q x hx
        replace hbM := Nat.lt_of_lt_of_le hbM HS8.out
        obtain ⟨bN, oN, rfl, hbN, hcN⟩ := its_at2 HR7.out hfx q x hx
        have HXF := Lib.hid (hfx x (List.mem_of_getElem? hx))
        have HXM := Lib.hid (range_below HBE.out hbM hcM)
        have HXN := Lib.hid (range_below HBE.out hbN hcN)
        have HBM := Lib.hid (show bM < wr.heap.size from Nat.lt_of_lt_of_le hbM HBE.out.size)
        have HBN := Lib.hid (show bN < wr.heap.size from Nat.lt_of_lt_of_le hbN HBE.out.size)
        have hlt2 : (q : Int) < (m : Int) := by omega
        have hlt3 : (q : Int) + 1 ≤ (m : Int) := by omega
        by_cases hq0 : q = 0
        ·subst hq0
         clear hbM hcM hbN hcN hx hfx
         go_wp2_with fail
         refine wp_region_rel (fun A B => A.grownBy B none) (fun A => grown_refl A _) (fun A B C h k => grown_trans h k) (relAt (List.cons (fun v _ => v = .slice (some ⟨bM, oM, none⟩) m c1) (List.cons (fun v _ => v = .int .i64 ((0 : Nat) : Int)) (List.cons (fun v _ => v = .pointer (some ⟨bM, oM + 0 * 19, none⟩)) (List.cons (fun v _ => v = .agg (itC x).toArray) (List.cons (fun v _ => v = .slice (some ⟨bN, oN, none⟩) m c2) (List.cons (fun v _ => v = .int .i64 ((0 : Nat) : Int)) (List.cons (fun v _ => v = .pointer (some ⟨bN, oN + 0 * 19, none⟩)) (List.cons (fun v _ => v = .agg (itC x).toArray) (List.cons (fun v _ => v = .bool false) (List.cons (fun v _ => v = .bool false) (List.cons (fun v _ => v = .int .i64 ((0 : Nat) : Int)) (List.cons (fun v _ => v = .bool false) (List.cons (fun v _ => v = .bool false) (List.cons (fun v _ => v = undef) (List.cons (fun v _ => v = undef) (List.cons (fun v _ => v = undef) (List.cons (fun v _ => v = undef) (List.cons (fun v _ => v = undef) (List.cons (fun v _ => v = undef) (List.cons (fun v _ => v = undef) (List.cons (fun v _ => v = undef) (List.cons (fun v _ => v = undef) (List.cons (fun v _ => v = undef) (List.cons (fun v _ => v = undef) (List.cons (fun v _ => v = undef) (List.cons (fun v _ => v = undef) (List.cons (fun v _ => v = .bool false) (List.cons (fun v _ => v = .bool false) ([])))))))))))))))))))))))))))))) (MonoL.at_ (.cons (mono_val _) (.cons (mono_val _) (.cons (mono_val _) (.cons (mono_val _) (.cons (mono_val _) (.cons (mono_val _) (.cons (mono_val _) (.cons (mono_val _) (.cons (mono_val _) (.cons (mono_val _) (.cons (mono_val _) (.cons (mono_val _) (.cons (mono_val _) (.cons (mono_val _) (.cons (mono_val _) (.cons (mono_val _) (.cons (mono_val _) (.cons (mono_val _) (.cons (mono_val _) (.cons (mono_val _) (.cons (mono_val _) (.cons (mono_val _) (.cons (mono_val _) (.cons (mono_val _) (.cons (mono_val _) (.cons (mono_val _) (.cons (mono_val _) (.cons (mono_val _) .nil))))))))))))))))))))))))))))) (by kernel_rfl) (by kernel_rfl) ⟨?_, ?_, ?_, ?_, ?_, ?_, ?_, ?_, ?_, ?_, ?_, ?_, ?_, ?_, ?_, ?_, ?_, ?_, ?_, ?_, ?_, ?_, ?_, ?_, ?_, ?_, ?_, ?_, trivial⟩ ?_
         ·intro a vs W hX hR he hf K hK
          rw [if_pos (wanted_none rfl)]
          have e12 : a.eval (.tmp 12) = .slice (some ⟨bM, oM, none⟩) m c1 := hf 12 (by kernel_rfl)
          refine wp_value (v := .slice (some ⟨bM, oM, none⟩) m c1) ?_ (hK _ _ rfl (grown_refl W _))
          simp only [execOp, e12]
          try go_simp
         ·intro a vs W hX hR he hf K hK
          rw [if_pos (wanted_none rfl)]
          have e14 : a.eval (.tmp 14) = .int .i64 ((0 : Nat) : Int) := hf 14 (by kernel_rfl)
          refine wp_value (v := .int .i64 ((0 : Nat) : Int)) ?_ (hK _ _ rfl (grown_refl W _))
          simp only [execOp, e14]
          try go_simp
         ·intro a vs W hX hR he hf K hK
          rw [if_pos (wanted_none rfl)]
          have e89 : a.eval (.tmp 89) = .slice (some ⟨bM, oM, none⟩) m c1 := (he 0 89 (by kernel_rfl) rfl).trans (hR 0 (by kernel_rfl))
          have e90 : a.eval (.tmp 90) = .int .i64 ((0 : Nat) : Int) := (he 1 90 (by kernel_rfl) rfl).trans (hR 1 (by kernel_rfl))
          refine wp_value (v := .pointer (some ⟨bM, oM + 0 * 19, none⟩)) ?_ (hK _ _ rfl (grown_refl W _))
          simp only [execOp, e89, e90]
          go_simp
         ·intro a vs W hX hR he hf K hK
          rw [if_pos (wanted_none rfl)]
          have e91 : a.eval (.tmp 91) = .pointer (some ⟨bM, oM + 0 * 19, none⟩) := (he 2 91 (by kernel_rfl) rfl).trans (hR 2 (by kernel_rfl))
          have hbW := bthen (below_drew _) (grow_below hX)
          exact wp_value (exec_load_mid 38 _ rfl bM (oM + 0 * 19) e91 (itC x) _ (range_below hbW HBM.out HXM.out) Try.underlying38 rfl (sizeIt _ HXF.out.addr)) (hK _ _ rfl (grown_refl W _))
         ·intro a vs W hX hR he hf K hK
          rw [if_pos (wanted_none rfl)]
          have e13 : a.eval (.tmp 13) = .slice (some ⟨bN, oN, none⟩) m c2 := hf 13 (by kernel_rfl)
          refine wp_value (v := .slice (some ⟨bN, oN, none⟩) m c2) ?_ (hK _ _ rfl (grown_refl W _))
          simp only [execOp, e13]
          try go_simp
         ·intro a vs W hX hR he hf K hK
          rw [if_pos (wanted_none rfl)]
          have e14 : a.eval (.tmp 14) = .int .i64 ((0 : Nat) : Int) := hf 14 (by kernel_rfl)
          refine wp_value (v := .int .i64 ((0 : Nat) : Int)) ?_ (hK _ _ rfl (grown_refl W _))
          simp only [execOp, e14]
          try go_simp
         ·intro a vs W hX hR he hf K hK
          rw [if_pos (wanted_none rfl)]
          have e93 : a.eval (.tmp 93) = .slice (some ⟨bN, oN, none⟩) m c2 := (he 4 93 (by kernel_rfl) rfl).trans (hR 4 (by kernel_rfl))
          have e94 : a.eval (.tmp 94) = .int .i64 ((0 : Nat) : Int) := (he 5 94 (by kernel_rfl) rfl).trans (hR 5 (by kernel_rfl))
          refine wp_value (v := .pointer (some ⟨bN, oN + 0 * 19, none⟩)) ?_ (hK _ _ rfl (grown_refl W _))
          simp only [execOp, e93, e94]
          go_simp
         ·intro a vs W hX hR he hf K hK
          rw [if_pos (wanted_none rfl)]
          have e95 : a.eval (.tmp 95) = .pointer (some ⟨bN, oN + 0 * 19, none⟩) := (he 6 95 (by kernel_rfl) rfl).trans (hR 6 (by kernel_rfl))
          have hbW := bthen (below_drew _) (grow_below hX)
          exact wp_value (exec_load_mid 38 _ rfl bN (oN + 0 * 19) e95 (itC x) _ (range_below hbW HBN.out HXN.out) Try.underlying38 rfl (sizeIt _ HXF.out.addr)) (hK _ _ rfl (grown_refl W _))
         ·intro a vs W hX hR he hf K hK
          rw [if_pos (wanted_none rfl)]
          have e92 : a.eval (.tmp 92) = .agg (itC x).toArray := (he 3 92 (by kernel_rfl) rfl).trans (hR 3 (by kernel_rfl))
          have e96 : a.eval (.tmp 96) = .agg (itC x).toArray := (he 7 96 (by kernel_rfl) rfl).trans (hR 7 (by kernel_rfl))
          exact wp_value (exec_neIt _ _ _ rfl x x HXF.out.addr HXF.out.addr true (decide_eq_true rfl) e92 e96) (hK _ _ rfl (grown_refl W _))
         ·intro a vs W hX hR he hf K hK
          rw [if_pos (wanted_none rfl)]
          have e97 : a.eval (.tmp 97) = .bool false := (he 8 97 (by kernel_rfl) rfl).trans (hR 8 (by kernel_rfl))
          refine wp_value (v := .bool false) ?_ (hK _ _ rfl (grown_refl W _))
          simp only [execOp, e97]
          try go_simp
         ·intro a vs W hX hR he hf K hK
          have e98 : a.eval (.tmp 98) = .bool false := (he 9 98 (by kernel_rfl) rfl).trans (hR 9 (by kernel_rfl))
          refine Eq.mpr (if_pos (by exact (wanted_some rfl rfl e98).trans rfl)) ?_
          have e14 : a.eval (.tmp 14) = .int .i64 ((0 : Nat) : Int) := hf 14 (by kernel_rfl)
          refine wp_value (v := .int .i64 ((0 : Nat) : Int)) ?_ (hK _ _ rfl (grown_refl W _))
          simp only [execOp, e14]
          try go_simp
         ·intro a vs W hX hR he hf K hK
          have e98 : a.eval (.tmp 98) = .bool false := (he 9 98 (by kernel_rfl) rfl).trans (hR 9 (by kernel_rfl))
          refine Eq.mpr (if_pos (by exact (wanted_some rfl rfl e98).trans rfl)) ?_
          have e99 : a.eval (.tmp 99) = .int .i64 ((0 : Nat) : Int) := (he 10 99 (by kernel_rfl) rfl).trans (hR 10 (by kernel_rfl))
          refine wp_value (v := .bool false) ?_ (hK _ _ rfl (grown_refl W _))
          simp only [execOp, e99]
          go_simp
          try omega
         ·intro a vs W hX hR he hf K hK
          have e98 : a.eval (.tmp 98) = .bool false := (he 9 98 (by kernel_rfl) rfl).trans (hR 9 (by kernel_rfl))
          refine Eq.mpr (if_pos (by exact (wanted_some rfl rfl e98).trans rfl)) ?_
          have e100 : a.eval (.tmp 100) = .bool false := (he 11 100 (by kernel_rfl) rfl).trans (hR 11 (by kernel_rfl))
          refine wp_value (v := .bool false) ?_ (hK _ _ rfl (grown_refl W _))
          simp only [execOp, e100]
          try go_simp
         ·intro a vs W hX hR he hf K hK
          have e101 : a.eval (.tmp 101) = .bool false := (he 12 101 (by kernel_rfl) rfl).trans (hR 12 (by kernel_rfl))
          refine Eq.mpr (if_neg (fun hz => Bool.false_ne_true (Eq.trans (by exact Eq.symm ((wanted_some rfl rfl e101).trans rfl)) hz))) ?_
          exact hK _ _ rfl (grown_refl W _)
         ·intro a vs W hX hR he hf K hK
          have e101 : a.eval (.tmp 101) = .bool false := (he 12 101 (by kernel_rfl) rfl).trans (hR 12 (by kernel_rfl))
          refine Eq.mpr (if_neg (fun hz => Bool.false_ne_true (Eq.trans (by exact Eq.symm ((wanted_some rfl rfl e101).trans rfl)) hz))) ?_
          exact hK _ _ rfl (grown_refl W _)
         ·intro a vs W hX hR he hf K hK
          have e101 : a.eval (.tmp 101) = .bool false := (he 12 101 (by kernel_rfl) rfl).trans (hR 12 (by kernel_rfl))
          refine Eq.mpr (if_neg (fun hz => Bool.false_ne_true (Eq.trans (by exact Eq.symm ((wanted_some rfl rfl e101).trans rfl)) hz))) ?_
          exact hK _ _ rfl (grown_refl W _)
         ·intro a vs W hX hR he hf K hK
          have e101 : a.eval (.tmp 101) = .bool false := (he 12 101 (by kernel_rfl) rfl).trans (hR 12 (by kernel_rfl))
          refine Eq.mpr (if_neg (fun hz => Bool.false_ne_true (Eq.trans (by exact Eq.symm ((wanted_some rfl rfl e101).trans rfl)) hz))) ?_
          exact hK _ _ rfl (grown_refl W _)
         ·intro a vs W hX hR he hf K hK
          have e101 : a.eval (.tmp 101) = .bool false := (he 12 101 (by kernel_rfl) rfl).trans (hR 12 (by kernel_rfl))
          refine Eq.mpr (if_neg (fun hz => Bool.false_ne_true (Eq.trans (by exact Eq.symm ((wanted_some rfl rfl e101).trans rfl)) hz))) ?_
          exact hK _ _ rfl (grown_refl W _)
         ·intro a vs W hX hR he hf K hK
          have e101 : a.eval (.tmp 101) = .bool false := (he 12 101 (by kernel_rfl) rfl).trans (hR 12 (by kernel_rfl))
          refine Eq.mpr (if_neg (fun hz => Bool.false_ne_true (Eq.trans (by exact Eq.symm ((wanted_some rfl rfl e101).trans rfl)) hz))) ?_
          exact hK _ _ rfl (grown_refl W _)
         ·intro a vs W hX hR he hf K hK
          have e101 : a.eval (.tmp 101) = .bool false := (he 12 101 (by kernel_rfl) rfl).trans (hR 12 (by kernel_rfl))
          refine Eq.mpr (if_neg (fun hz => Bool.false_ne_true (Eq.trans (by exact Eq.symm ((wanted_some rfl rfl e101).trans rfl)) hz))) ?_
          exact hK _ _ rfl (grown_refl W _)
         ·intro a vs W hX hR he hf K hK
          have e101 : a.eval (.tmp 101) = .bool false := (he 12 101 (by kernel_rfl) rfl).trans (hR 12 (by kernel_rfl))
          refine Eq.mpr (if_neg (fun hz => Bool.false_ne_true (Eq.trans (by exact Eq.symm ((wanted_some rfl rfl e101).trans rfl)) hz))) ?_
          exact hK _ _ rfl (grown_refl W _)
         ·intro a vs W hX hR he hf K hK
          have e101 : a.eval (.tmp 101) = .bool false := (he 12 101 (by kernel_rfl) rfl).trans (hR 12 (by kernel_rfl))
          refine Eq.mpr (if_neg (fun hz => Bool.false_ne_true (Eq.trans (by exact Eq.symm ((wanted_some rfl rfl e101).trans rfl)) hz))) ?_
          exact hK _ _ rfl (grown_refl W _)
         ·intro a vs W hX hR he hf K hK
          have e101 : a.eval (.tmp 101) = .bool false := (he 12 101 (by kernel_rfl) rfl).trans (hR 12 (by kernel_rfl))
          refine Eq.mpr (if_neg (fun hz => Bool.false_ne_true (Eq.trans (by exact Eq.symm ((wanted_some rfl rfl e101).trans rfl)) hz))) ?_
          exact hK _ _ rfl (grown_refl W _)
         ·intro a vs W hX hR he hf K hK
          have e101 : a.eval (.tmp 101) = .bool false := (he 12 101 (by kernel_rfl) rfl).trans (hR 12 (by kernel_rfl))
          refine Eq.mpr (if_neg (fun hz => Bool.false_ne_true (Eq.trans (by exact Eq.symm ((wanted_some rfl rfl e101).trans rfl)) hz))) ?_
          exact hK _ _ rfl (grown_refl W _)
         ·intro a vs W hX hR he hf K hK
          have e101 : a.eval (.tmp 101) = .bool false := (he 12 101 (by kernel_rfl) rfl).trans (hR 12 (by kernel_rfl))
          refine Eq.mpr (if_neg (fun hz => Bool.false_ne_true (Eq.trans (by exact Eq.symm ((wanted_some rfl rfl e101).trans rfl)) hz))) ?_
          exact hK _ _ rfl (grown_refl W _)
         ·intro a vs W hX hR he hf K hK
          have e101 : a.eval (.tmp 101) = .bool false := (he 12 101 (by kernel_rfl) rfl).trans (hR 12 (by kernel_rfl))
          refine Eq.mpr (if_neg (fun hz => Bool.false_ne_true (Eq.trans (by exact Eq.symm ((wanted_some rfl rfl e101).trans rfl)) hz))) ?_
          exact hK _ _ rfl (grown_refl W _)
         ·intro a vs W hX hR he hf K hK
          have e98 : a.eval (.tmp 98) = .bool false := (he 9 98 (by kernel_rfl) rfl).trans (hR 9 (by kernel_rfl))
          refine Eq.mpr (if_pos (by exact (wanted_some rfl rfl e98).trans rfl)) ?_
          have e101 : a.eval (.tmp 101) = .bool false := (he 12 101 (by kernel_rfl) rfl).trans (hR 12 (by kernel_rfl))
          have e114 : a.eval (.tmp 114) = undef := (he 25 114 (by kernel_rfl) rfl).trans (hR 25 (by kernel_rfl))
          refine wp_value (v := .bool false) ?_ (hK _ _ rfl (grown_refl W _))
          simp only [execOp, e101, e114]
          try go_simp
         ·intro a vs W hX hR he hf K hK
          rw [if_pos (wanted_none rfl)]
          have e98 : a.eval (.tmp 98) = .bool false := (he 9 98 (by kernel_rfl) rfl).trans (hR 9 (by kernel_rfl))
          have e115 : a.eval (.tmp 115) = .bool false := (he 26 115 (by kernel_rfl) rfl).trans (hR 26 (by kernel_rfl))
          refine wp_value (v := .bool false) ?_ (hK _ _ rfl (grown_refl W _))
          simp only [execOp, e98, e115]
          try go_simp
         ·intro vs wx hXx hR
          have q0 := hR 0 (by decide)
          have q1 := hR 1 (by decide)
          have q2 := hR 2 (by decide)
          have q3 := hR 3 (by decide)
          have q4 := hR 4 (by decide)
          have q5 := hR 5 (by decide)
          have q6 := hR 6 (by decide)
          have q7 := hR 7 (by decide)
          have q8 := hR 8 (by decide)
          have q9 := hR 9 (by decide)
          have q10 := hR 10 (by decide)
          have q11 := hR 11 (by decide)
          have q12 := hR 12 (by decide)
          have q13 := hR 13 (by decide)
          have q14 := hR 14 (by decide)
          have q15 := hR 15 (by decide)
          have q16 := hR 16 (by decide)
          have q17 := hR 17 (by decide)
          have q18 := hR 18 (by decide)
          have q19 := hR 19 (by decide)
          have q20 := hR 20 (by decide)
          have q21 := hR 21 (by decide)
          have q22 := hR 22 (by decide)
          have q23 := hR 23 (by decide)
          have q24 := hR 24 (by decide)
          have q25 := hR 25 (by decide)
          have q26 := hR 26 (by decide)
          have q27 := hR 27 (by decide)
          change vs 0 = .slice (some ⟨bM, oM, none⟩) m c1 at q0
          change vs 1 = .int .i64 ((0 : Nat) : Int) at q1
          change vs 2 = .pointer (some ⟨bM, oM + 0 * 19, none⟩) at q2
          change vs 3 = .agg (itC x).toArray at q3
          change vs 4 = .slice (some ⟨bN, oN, none⟩) m c2 at q4
          change vs 5 = .int .i64 ((0 : Nat) : Int) at q5
          change vs 6 = .pointer (some ⟨bN, oN + 0 * 19, none⟩) at q6
          change vs 7 = .agg (itC x).toArray at q7
          change vs 8 = .bool false at q8
          change vs 9 = .bool false at q9
          change vs 10 = .int .i64 ((0 : Nat) : Int) at q10
          change vs 11 = .bool false at q11
          change vs 12 = .bool false at q12
          change vs 13 = undef at q13
          change vs 14 = undef at q14
          change vs 15 = undef at q15
          change vs 16 = undef at q16
          change vs 17 = undef at q17
          change vs 18 = undef at q18
          change vs 19 = undef at q19
          change vs 20 = undef at q20
          change vs 21 = undef at q21
          change vs 22 = undef at q22
          change vs 23 = undef at q23
          change vs 24 = undef at q24
          change vs 25 = undef at q25
          change vs 26 = .bool false at q26
          change vs 27 = .bool false at q27
          simp only [putAll, Act.put, List.setIfInBounds_toArray, List.set_cons_zero, List.set_cons_succ, q0, q1, q2, q3, q4, q5, q6, q7, q8, q9, q10, q11, q12, q13, q14, q15, q16, q17, q18, q19, q20, q21, q22, q23, q24, q25, q26, q27]
          clear q0 q1 q2 q3 q4 q5 q6 q7 q8 q9 q10 q11 q12 q13 q14 q15 q16 q17 q18 q19 q20 q21 q22 q23 q24 q25 q26 q27
          clear hR
          replace HBE := Lib.hid (HBE.out.trans ((bthen (below_drew _) (grow_below hXx)).mono HBE.out.size))
          clear hXx
          go_wp2_with fail
          go_roundw
          case rel => exact ⟨0 + 1, by omega, by simp, HBE.out⟩
          case measure => simp [intOf]; omega
        ·obtain ⟨y, hy⟩ := get_ex L (k := q - 1) (by rw [HLM.out]; omega)
         obtain ⟨r, rfl⟩ : ∃ r, q = r + 1 := ⟨q - 1, by omega⟩
         rw [Nat.add_sub_cancel] at hy
         obtain ⟨bM', oM', he9, hbM', hcM'⟩ := its_at2 HR8.out hfx r y hy
         replace hbM' := Nat.lt_of_lt_of_le hbM' HS8.out
         injection he9 with he9
         injection he9 with he8 he9
         subst he8
         subst he9
         have HYF := Lib.hid (hfx y (List.mem_of_getElem? hy))
         have HYM := Lib.hid (range_below HBE.out hbM' hcM')
         have HLT := Lib.hid (HLK.out.next hy hx)
         have hr0 : (0 : Int) < ((r + 1 : Nat) : Int) := by omega
         clear hbM hcM hbN hcN hx hfx hbM' hcM' hy hq0
         obtain ⟨q, hqr⟩ : ∃ q, r + 1 = q := ⟨_, rfl⟩
         have HQR := Lib.hid (show (q : Int) - 1 = (r : Int) by omega)
         rw [hqr] at hlt hlt2 hlt3 hr0 hq HXM HXN
         try rw [hqr]
         have hr1 : (r : Int) < (m : Int) := by omega
         clear hqr
         go_wp2_with fail
         refine wp_region_rel (fun A B => A.grownBy B none) (fun A => grown_refl A _) (fun A B C h k => grown_trans h k) (relAt (List.cons (fun v _ => v = .slice (some ⟨bM, oM, none⟩) m c1) (List.cons (fun v _ => v = .int .i64 (q : Nat)) (List.cons (fun v _ => v = .pointer (some ⟨bM, oM + q * 19, none⟩)) (List.cons (fun v _ => v = .agg (itC x).toArray) (List.cons (fun v _ => v = .slice (some ⟨bN, oN, none⟩) m c2) (List.cons (fun v _ => v = .int .i64 (q : Nat)) (List.cons (fun v _ => v = .pointer (some ⟨bN, oN + q * 19, none⟩)) (List.cons (fun v _ => v = .agg (itC x).toArray) (List.cons (fun v _ => v = .bool false) (List.cons (fun v _ => v = .bool false) (List.cons (fun v _ => v = .int .i64 (q : Nat)) (List.cons (fun v _ => v = .bool true) (List.cons (fun v _ => v = .bool true) (List.cons (fun v _ => v = .slice (some ⟨bM, oM, none⟩) m c1) (List.cons (fun v _ => v = .int .i64 (q : Nat)) (List.cons (fun v _ => v = .int .i64 (r : Nat)) (List.cons (fun v _ => v = .pointer (some ⟨bM, oM + r * 19, none⟩)) (List.cons (fun v _ => v = .pointer (some ⟨bM, oM + r * 19, none⟩)) (List.cons (fun v _ => v = .agg y.1.cells.toArray) (List.cons (fun v _ => v = .slice (some ⟨bM, oM, none⟩) m c1) (List.cons (fun v _ => v = .int .i64 (q : Nat)) (List.cons (fun v _ => v = .pointer (some ⟨bM, oM + q * 19, none⟩)) (List.cons (fun v _ => v = .pointer (some ⟨bM, oM + q * 19, none⟩)) (List.cons (fun v _ => v = .agg x.1.cells.toArray) (List.cons (fun v _ => v = .int .i64 (cmpP y.1 x.1)) (List.cons (fun v _ => v = .bool false) (List.cons (fun v _ => v = .bool false) (List.cons (fun v _ => v = .bool false) ([])))))))))))))))))))))))))))))) (MonoL.at_ (.cons (mono_val _) (.cons (mono_val _) (.cons (mono_val _) (.cons (mono_val _) (.cons (mono_val _) (.cons (mono_val _) (.cons (mono_val _) (.cons (mono_val _) (.cons (mono_val _) (.cons (mono_val _) (.cons (mono_val _) (.cons (mono_val _) (.cons (mono_val _) (.cons (mono_val _) (.cons (mono_val _) (.cons (mono_val _) (.cons (mono_val _) (.cons (mono_val _) (.cons (mono_val _) (.cons (mono_val _) (.cons (mono_val _) (.cons (mono_val _) (.cons (mono_val _) (.cons (mono_val _) (.cons (mono_val _) (.cons (mono_val _) (.cons (mono_val _) (.cons (mono_val _) .nil))))))))))))))))))))))))))))) (by kernel_rfl) (by kernel_rfl) ⟨?_, ?_, ?_, ?_, ?_, ?_, ?_, ?_, ?_, ?_, ?_, ?_, ?_, ?_, ?_, ?_, ?_, ?_, ?_, ?_, ?_, ?_, ?_, ?_, ?_, ?_, ?_, ?_, trivial⟩ ?_
         ·intro a vs W hX hR he hf K hK
          rw [if_pos (wanted_none rfl)]
          have e12 : a.eval (.tmp 12) = .slice (some ⟨bM, oM, none⟩) m c1 := hf 12 (by kernel_rfl)
          refine wp_value (v := .slice (some ⟨bM, oM, none⟩) m c1) ?_ (hK _ _ rfl (grown_refl W _))
          simp only [execOp, e12]
          try go_simp
         ·intro a vs W hX hR he hf K hK
          rw [if_pos (wanted_none rfl)]
          have e14 : a.eval (.tmp 14) = .int .i64 (q : Nat) := hf 14 (by kernel_rfl)
          refine wp_value (v := .int .i64 (q : Nat)) ?_ (hK _ _ rfl (grown_refl W _))
          simp only [execOp, e14]
          try go_simp
         ·intro a vs W hX hR he hf K hK
          rw [if_pos (wanted_none rfl)]
          have e89 : a.eval (.tmp 89) = .slice (some ⟨bM, oM, none⟩) m c1 := (he 0 89 (by kernel_rfl) rfl).trans (hR 0 (by kernel_rfl))
          have e90 : a.eval (.tmp 90) = .int .i64 (q : Nat) := (he 1 90 (by kernel_rfl) rfl).trans (hR 1 (by kernel_rfl))
          refine wp_value (v := .pointer (some ⟨bM, oM + q * 19, none⟩)) ?_ (hK _ _ rfl (grown_refl W _))
          simp only [execOp, e89, e90]
          go_simp
         ·intro a vs W hX hR he hf K hK
          rw [if_pos (wanted_none rfl)]
          have e91 : a.eval (.tmp 91) = .pointer (some ⟨bM, oM + q * 19, none⟩) := (he 2 91 (by kernel_rfl) rfl).trans (hR 2 (by kernel_rfl))
          have hbW := bthen (below_drew _) (grow_below hX)
          exact wp_value (exec_load_mid 38 _ rfl bM (oM + q * 19) e91 (itC x) _ (range_below hbW HBM.out HXM.out) Try.underlying38 rfl (sizeIt _ HXF.out.addr)) (hK _ _ rfl (grown_refl W _))
         ·intro a vs W hX hR he hf K hK
          rw [if_pos (wanted_none rfl)]
          have e13 : a.eval (.tmp 13) = .slice (some ⟨bN, oN, none⟩) m c2 := hf 13 (by kernel_rfl)
          refine wp_value (v := .slice (some ⟨bN, oN, none⟩) m c2) ?_ (hK _ _ rfl (grown_refl W _))
          simp only [execOp, e13]
          try go_simp
         ·intro a vs W hX hR he hf K hK
          rw [if_pos (wanted_none rfl)]
          have e14 : a.eval (.tmp 14) = .int .i64 (q : Nat) := hf 14 (by kernel_rfl)
          refine wp_value (v := .int .i64 (q : Nat)) ?_ (hK _ _ rfl (grown_refl W _))
          simp only [execOp, e14]
          try go_simp
         ·intro a vs W hX hR he hf K hK
          rw [if_pos (wanted_none rfl)]
          have e93 : a.eval (.tmp 93) = .slice (some ⟨bN, oN, none⟩) m c2 := (he 4 93 (by kernel_rfl) rfl).trans (hR 4 (by kernel_rfl))
          have e94 : a.eval (.tmp 94) = .int .i64 (q : Nat) := (he 5 94 (by kernel_rfl) rfl).trans (hR 5 (by kernel_rfl))
          refine wp_value (v := .pointer (some ⟨bN, oN + q * 19, none⟩)) ?_ (hK _ _ rfl (grown_refl W _))
          simp only [execOp, e93, e94]
          go_simp
         ·intro a vs W hX hR he hf K hK
          rw [if_pos (wanted_none rfl)]
          have e95 : a.eval (.tmp 95) = .pointer (some ⟨bN, oN + q * 19, none⟩) := (he 6 95 (by kernel_rfl) rfl).trans (hR 6 (by kernel_rfl))
          have hbW := bthen (below_drew _) (grow_below hX)
          exact wp_value (exec_load_mid 38 _ rfl bN (oN + q * 19) e95 (itC x) _ (range_below hbW HBN.out HXN.out) Try.underlying38 rfl (sizeIt _ HXF.out.addr)) (hK _ _ rfl (grown_refl W _))
         ·intro a vs W hX hR he hf K hK
          rw [if_pos (wanted_none rfl)]
          have e92 : a.eval (.tmp 92) = .agg (itC x).toArray := (he 3 92 (by kernel_rfl) rfl).trans (hR 3 (by kernel_rfl))
          have e96 : a.eval (.tmp 96) = .agg (itC x).toArray := (he 7 96 (by kernel_rfl) rfl).trans (hR 7 (by kernel_rfl))
          exact wp_value (exec_neIt _ _ _ rfl x x HXF.out.addr HXF.out.addr true (decide_eq_true rfl) e92 e96) (hK _ _ rfl (grown_refl W _))
         ·intro a vs W hX hR he hf K hK
          rw [if_pos (wanted_none rfl)]
          have e97 : a.eval (.tmp 97) = .bool false := (he 8 97 (by kernel_rfl) rfl).trans (hR 8 (by kernel_rfl))
          refine wp_value (v := .bool false) ?_ (hK _ _ rfl (grown_refl W _))
          simp only [execOp, e97]
          try go_simp
         ·intro a vs W hX hR he hf K hK
          have e98 : a.eval (.tmp 98) = .bool false := (he 9 98 (by kernel_rfl) rfl).trans (hR 9 (by kernel_rfl))
          refine Eq.mpr (if_pos (by exact (wanted_some rfl rfl e98).trans rfl)) ?_
          have e14 : a.eval (.tmp 14) = .int .i64 (q : Nat) := hf 14 (by kernel_rfl)
          refine wp_value (v := .int .i64 (q : Nat)) ?_ (hK _ _ rfl (grown_refl W _))
          simp only [execOp, e14]
          try go_simp
         ·intro a vs W hX hR he hf K hK
          have e98 : a.eval (.tmp 98) = .bool false := (he 9 98 (by kernel_rfl) rfl).trans (hR 9 (by kernel_rfl))
          refine Eq.mpr (if_pos (by exact (wanted_some rfl rfl e98).trans rfl)) ?_
          have e99 : a.eval (.tmp 99) = .int .i64 (q : Nat) := (he 10 99 (by kernel_rfl) rfl).trans (hR 10 (by kernel_rfl))
          refine wp_value (v := .bool true) ?_ (hK _ _ rfl (grown_refl W _))
          simp only [execOp, e99]
          go_simp
          try omega
         ·intro a vs W hX hR he hf K hK
          have e98 : a.eval (.tmp 98) = .bool false := (he 9 98 (by kernel_rfl) rfl).trans (hR 9 (by kernel_rfl))
          refine Eq.mpr (if_pos (by exact (wanted_some rfl rfl e98).trans rfl)) ?_
          have e100 : a.eval (.tmp 100) = .bool true := (he 11 100 (by kernel_rfl) rfl).trans (hR 11 (by kernel_rfl))
          refine wp_value (v := .bool true) ?_ (hK _ _ rfl (grown_refl W _))
          simp only [execOp, e100]
          try go_simp
         ·intro a vs W hX hR he hf K hK
          have e101 : a.eval (.tmp 101) = .bool true := (he 12 101 (by kernel_rfl) rfl).trans (hR 12 (by kernel_rfl))
          refine Eq.mpr (if_pos (by exact (wanted_some rfl rfl e101).trans rfl)) ?_
          have e12 : a.eval (.tmp 12) = .slice (some ⟨bM, oM, none⟩) m c1 := hf 12 (by kernel_rfl)
          refine wp_value (v := .slice (some ⟨bM, oM, none⟩) m c1) ?_ (hK _ _ rfl (grown_refl W _))
          simp only [execOp, e12]
          try go_simp
         ·intro a vs W hX hR he hf K hK
          have e101 : a.eval (.tmp 101) = .bool true := (he 12 101 (by kernel_rfl) rfl).trans (hR 12 (by kernel_rfl))
          refine Eq.mpr (if_pos (by exact (wanted_some rfl rfl e101).trans rfl)) ?_
          have e14 : a.eval (.tmp 14) = .int .i64 (q : Nat) := hf 14 (by kernel_rfl)
          refine wp_value (v := .int .i64 (q : Nat)) ?_ (hK _ _ rfl (grown_refl W _))
          simp only [execOp, e14]
          try go_simp
         ·intro a vs W hX hR he hf K hK
          have e101 : a.eval (.tmp 101) = .bool true := (he 12 101 (by kernel_rfl) rfl).trans (hR 12 (by kernel_rfl))
          refine Eq.mpr (if_pos (by exact (wanted_some rfl rfl e101).trans rfl)) ?_
          have e103 : a.eval (.tmp 103) = .int .i64 (q : Nat) := (he 14 103 (by kernel_rfl) rfl).trans (hR 14 (by kernel_rfl))
          refine wp_value (v := .int .i64 (r : Nat)) ?_ (hK _ _ rfl (grown_refl W _))
          rw [← HQR.out]
          simp only [execOp, e103]
          go_simp
          simp only [IntKind.wrap_i64]
          omega
         ·intro a vs W hX hR he hf K hK
          have e101 : a.eval (.tmp 101) = .bool true := (he 12 101 (by kernel_rfl) rfl).trans (hR 12 (by kernel_rfl))
          refine Eq.mpr (if_pos (by exact (wanted_some rfl rfl e101).trans rfl)) ?_
          have e102 : a.eval (.tmp 102) = .slice (some ⟨bM, oM, none⟩) m c1 := (he 13 102 (by kernel_rfl) rfl).trans (hR 13 (by kernel_rfl))
          have e104 : a.eval (.tmp 104) = .int .i64 (r : Nat) := (he 15 104 (by kernel_rfl) rfl).trans (hR 15 (by kernel_rfl))
          refine wp_value (v := .pointer (some ⟨bM, oM + r * 19, none⟩)) ?_ (hK _ _ rfl (grown_refl W _))
          simp only [execOp, e102, e104]
          go_simp
         ·intro a vs W hX hR he hf K hK
          have e101 : a.eval (.tmp 101) = .bool true := (he 12 101 (by kernel_rfl) rfl).trans (hR 12 (by kernel_rfl))
          refine Eq.mpr (if_pos (by exact (wanted_some rfl rfl e101).trans rfl)) ?_
          have e105 : a.eval (.tmp 105) = .pointer (some ⟨bM, oM + r * 19, none⟩) := (he 16 105 (by kernel_rfl) rfl).trans (hR 16 (by kernel_rfl))
          refine wp_value (v := .pointer (some ⟨bM, oM + r * 19, none⟩)) ?_ (hK _ _ rfl (grown_refl W _))
          simp only [execOp, e105]
          try go_simp
         ·intro a vs W hX hR he hf K hK
          have e101 : a.eval (.tmp 101) = .bool true := (he 12 101 (by kernel_rfl) rfl).trans (hR 12 (by kernel_rfl))
          refine Eq.mpr (if_pos (by exact (wanted_some rfl rfl e101).trans rfl)) ?_
          have e106 : a.eval (.tmp 106) = .pointer (some ⟨bM, oM + r * 19, none⟩) := (he 17 106 (by kernel_rfl) rfl).trans (hR 17 (by kernel_rfl))
          have hbW := bthen (below_drew _) (grow_below hX)
          exact wp_value (exec_load_mid 30 _ rfl bM (oM + r * 19) e106 y.1.cells _ (range_below hbW HBM.out (it_px HYM.out)) Try.underlying30 rfl (sizePx _ HYF.out.addr)) (hK _ _ rfl (grown_refl W _))
         ·intro a vs W hX hR he hf K hK
          have e101 : a.eval (.tmp 101) = .bool true := (he 12 101 (by kernel_rfl) rfl).trans (hR 12 (by kernel_rfl))
          refine Eq.mpr (if_pos (by exact (wanted_some rfl rfl e101).trans rfl)) ?_
          have e12 : a.eval (.tmp 12) = .slice (some ⟨bM, oM, none⟩) m c1 := hf 12 (by kernel_rfl)
          refine wp_value (v := .slice (some ⟨bM, oM, none⟩) m c1) ?_ (hK _ _ rfl (grown_refl W _))
          simp only [execOp, e12]
          try go_simp
         ·intro a vs W hX hR he hf K hK
          have e101 : a.eval (.tmp 101) = .bool true := (he 12 101 (by kernel_rfl) rfl).trans (hR 12 (by kernel_rfl))
          refine Eq.mpr (if_pos (by exact (wanted_some rfl rfl e101).trans rfl)) ?_
          have e14 : a.eval (.tmp 14) = .int .i64 (q : Nat) := hf 14 (by kernel_rfl)
          refine wp_value (v := .int .i64 (q : Nat)) ?_ (hK _ _ rfl (grown_refl W _))
          simp only [execOp, e14]
          try go_simp
         ·intro a vs W hX hR he hf K hK
          have e101 : a.eval (.tmp 101) = .bool true := (he 12 101 (by kernel_rfl) rfl).trans (hR 12 (by kernel_rfl))
          refine Eq.mpr (if_pos (by exact (wanted_some rfl rfl e101).trans rfl)) ?_
          have e108 : a.eval (.tmp 108) = .slice (some ⟨bM, oM, none⟩) m c1 := (he 19 108 (by kernel_rfl) rfl).trans (hR 19 (by kernel_rfl))
          have e109 : a.eval (.tmp 109) = .int .i64 (q : Nat) := (he 20 109 (by kernel_rfl) rfl).trans (hR 20 (by kernel_rfl))
          refine wp_value (v := .pointer (some ⟨bM, oM + q * 19, none⟩)) ?_ (hK _ _ rfl (grown_refl W _))
          simp only [execOp, e108, e109]
          go_simp
         ·intro a vs W hX hR he hf K hK
          have e101 : a.eval (.tmp 101) = .bool true := (he 12 101 (by kernel_rfl) rfl).trans (hR 12 (by kernel_rfl))
          refine Eq.mpr (if_pos (by exact (wanted_some rfl rfl e101).trans rfl)) ?_
          have e110 : a.eval (.tmp 110) = .pointer (some ⟨bM, oM + q * 19, none⟩) := (he 21 110 (by kernel_rfl) rfl).trans (hR 21 (by kernel_rfl))
          refine wp_value (v := .pointer (some ⟨bM, oM + q * 19, none⟩)) ?_ (hK _ _ rfl (grown_refl W _))
          simp only [execOp, e110]
          try go_simp
         ·intro a vs W hX hR he hf K hK
          have e101 : a.eval (.tmp 101) = .bool true := (he 12 101 (by kernel_rfl) rfl).trans (hR 12 (by kernel_rfl))
          refine Eq.mpr (if_pos (by exact (wanted_some rfl rfl e101).trans rfl)) ?_
          have e111 : a.eval (.tmp 111) = .pointer (some ⟨bM, oM + q * 19, none⟩) := (he 22 111 (by kernel_rfl) rfl).trans (hR 22 (by kernel_rfl))
          have hbW := bthen (below_drew _) (grow_below hX)
          exact wp_value (exec_load_mid 30 _ rfl bM (oM + q * 19) e111 x.1.cells _ (range_below hbW HBM.out (it_px HXM.out)) Try.underlying30 rfl (sizePx _ HXF.out.addr)) (hK _ _ rfl (grown_refl W _))
         ·intro a vs W hX hR he hf K hK
          have e101 : a.eval (.tmp 101) = .bool true := (he 12 101 (by kernel_rfl) rfl).trans (hR 12 (by kernel_rfl))
          refine Eq.mpr (if_pos (by exact (wanted_some rfl rfl e101).trans rfl)) ?_
          have e107 : a.eval (.tmp 107) = .agg y.1.cells.toArray := (he 18 107 (by kernel_rfl) rfl).trans (hR 18 (by kernel_rfl))
          have e112 : a.eval (.tmp 112) = .agg x.1.cells.toArray := (he 23 112 (by kernel_rfl) rfl).trans (hR 23 (by kernel_rfl))
          refine wp_enter (f := 13) (args := #[.agg y.1.cells.toArray, .agg x.1.cells.toArray]) (by simp only [execOp, e107, e112]; go_simp; exact ⟨by simpa [Act.eval] using e107, by simpa [Act.eval] using e112⟩) ((rcompare_any y.1 HYF.out x.1 HXF.out W).mono ?_)
          rintro e w' ⟨rfl, hb⟩
          exact ⟨_, rfl, hK _ _ rfl (below_grow hb _)⟩
         ·intro a vs W hX hR he hf K hK
          have e101 : a.eval (.tmp 101) = .bool true := (he 12 101 (by kernel_rfl) rfl).trans (hR 12 (by kernel_rfl))
          refine Eq.mpr (if_pos (by exact (wanted_some rfl rfl e101).trans rfl)) ?_
          have e113 : a.eval (.tmp 113) = .int .i64 (cmpP y.1 x.1) := (he 24 113 (by kernel_rfl) rfl).trans (hR 24 (by kernel_rfl))
          refine wp_value (v := .bool false) ?_ (hK _ _ rfl (grown_refl W _))
          have h9 := HLT.out
          simp only [execOp, e113]
          go_simp
          try omega
         ·intro a vs W hX hR he hf K hK
          have e98 : a.eval (.tmp 98) = .bool false := (he 9 98 (by kernel_rfl) rfl).trans (hR 9 (by kernel_rfl))
          refine Eq.mpr (if_pos (by exact (wanted_some rfl rfl e98).trans rfl)) ?_
          have e101 : a.eval (.tmp 101) = .bool true := (he 12 101 (by kernel_rfl) rfl).trans (hR 12 (by kernel_rfl))
          have e114 : a.eval (.tmp 114) = .bool false := (he 25 114 (by kernel_rfl) rfl).trans (hR 25 (by kernel_rfl))
          refine wp_value (v := .bool false) ?_ (hK _ _ rfl (grown_refl W _))
          simp only [execOp, e101, e114]
          try go_simp
         ·intro a vs W hX hR he hf K hK
          rw [if_pos (wanted_none rfl)]
          have e98 : a.eval (.tmp 98) = .bool false := (he 9 98 (by kernel_rfl) rfl).trans (hR 9 (by kernel_rfl))
          have e115 : a.eval (.tmp 115) = .bool false := (he 26 115 (by kernel_rfl) rfl).trans (hR 26 (by kernel_rfl))
          refine wp_value (v := .bool false) ?_ (hK _ _ rfl (grown_refl W _))
          simp only [execOp, e98, e115]
          try go_simp
         ·intro vs wx hXx hR
          have q0 := hR 0 (by decide)
          have q1 := hR 1 (by decide)
          have q2 := hR 2 (by decide)
          have q3 := hR 3 (by decide)
          have q4 := hR 4 (by decide)
          have q5 := hR 5 (by decide)
          have q6 := hR 6 (by decide)
          have q7 := hR 7 (by decide)
          have q8 := hR 8 (by decide)
          have q9 := hR 9 (by decide)
          have q10 := hR 10 (by decide)
          have q11 := hR 11 (by decide)
          have q12 := hR 12 (by decide)
          have q13 := hR 13 (by decide)
          have q14 := hR 14 (by decide)
          have q15 := hR 15 (by decide)
          have q16 := hR 16 (by decide)
          have q17 := hR 17 (by decide)
          have q18 := hR 18 (by decide)
          have q19 := hR 19 (by decide)
          have q20 := hR 20 (by decide)
          have q21 := hR 21 (by decide)
          have q22 := hR 22 (by decide)
          have q23 := hR 23 (by decide)
          have q24 := hR 24 (by decide)
          have q25 := hR 25 (by decide)
          have q26 := hR 26 (by decide)
          have q27 := hR 27 (by decide)
          change vs 0 = .slice (some ⟨bM, oM, none⟩) m c1 at q0
          change vs 1 = .int .i64 (q : Nat) at q1
          change vs 2 = .pointer (some ⟨bM, oM + q * 19, none⟩) at q2
          change vs 3 = .agg (itC x).toArray at q3
          change vs 4 = .slice (some ⟨bN, oN, none⟩) m c2 at q4
          change vs 5 = .int .i64 (q : Nat) at q5
          change vs 6 = .pointer (some ⟨bN, oN + q * 19, none⟩) at q6
          change vs 7 = .agg (itC x).toArray at q7
          change vs 8 = .bool false at q8
          change vs 9 = .bool false at q9
          change vs 10 = .int .i64 (q : Nat) at q10
          change vs 11 = .bool true at q11
          change vs 12 = .bool true at q12
          change vs 13 = .slice (some ⟨bM, oM, none⟩) m c1 at q13
          change vs 14 = .int .i64 (q : Nat) at q14
          change vs 15 = .int .i64 (r : Nat) at q15
          change vs 16 = .pointer (some ⟨bM, oM + r * 19, none⟩) at q16
          change vs 17 = .pointer (some ⟨bM, oM + r * 19, none⟩) at q17
          change vs 18 = .agg y.1.cells.toArray at q18
          change vs 19 = .slice (some ⟨bM, oM, none⟩) m c1 at q19
          change vs 20 = .int .i64 (q : Nat) at q20
          change vs 21 = .pointer (some ⟨bM, oM + q * 19, none⟩) at q21
          change vs 22 = .pointer (some ⟨bM, oM + q * 19, none⟩) at q22
          change vs 23 = .agg x.1.cells.toArray at q23
          change vs 24 = .int .i64 (cmpP y.1 x.1) at q24
          change vs 25 = .bool false at q25
          change vs 26 = .bool false at q26
          change vs 27 = .bool false at q27
          simp only [putAll, Act.put, List.setIfInBounds_toArray, List.set_cons_zero, List.set_cons_succ, q0, q1, q2, q3, q4, q5, q6, q7, q8, q9, q10, q11, q12, q13, q14, q15, q16, q17, q18, q19, q20, q21, q22, q23, q24, q25, q26, q27]
          clear q0 q1 q2 q3 q4 q5 q6 q7 q8 q9 q10 q11 q12 q13 q14 q15 q16 q17 q18 q19 q20 q21 q22 q23 q24 q25 q26 q27
          clear hR
          replace HBE := Lib.hid (HBE.out.trans ((bthen (below_drew _) (grow_below hXx)).mono HBE.out.size))
          clear hXx
          go_wp2_with fail
          go_roundw
          case rel => exact ⟨q + 1, by omega, by simp, HBE.out⟩
          case measure => simp [intOf]; omega
       ·obtain rfl : q = m := by omega
        go_wp2_with fail
        go_ret
        exact ⟨rfl, (HW7.out.trans (HBE.out.mono HW7.out.size))⟩
end Go.Proofs.Ytbemhcihmlijaaa

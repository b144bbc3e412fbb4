/- Texts of this claim put together, in build order: each one's own remark stands ahead of it. -/
import Derived.Test.YtbemhcihmlijaaaG28
import Derived.Deep.DeepCutAuto
import Derived.Test.YtbemhcihmlijaaaG01
import Derived.OpenShut
import Derived.ShutString
import Derived.ChangeOld
import Derived.Test.YtbemhcihmlijaaaG27
import Derived.Deep.Slices
import Derived.Deep.Fields
import Derived.ChangeSame
/- A table and the reference's with the same row are told the same (layer 9). No condition but sizes. -/
namespace Go.Proofs.Ytbemhcihmlijaaa
open Go.RowKit
set_option linter.unusedVariables false
set_option maxRecDepth 20000
set_option linter.unusedSimpArgs false

set_option maxHeartbeats 4000000 in
theorem same_any (S : Nat → Prop) (o : Option Nat) (is six : Bool) (room : Int) (L : List Itm) (K : Nat) (w : World) (hT : TabO w S o is six room L K) (hK : K ≤ 999990) (i2 x2 : Bool) (r2 : Int) (A : Option Addr) (n c : Nat) (hr : Row w w.heap.size 19 A n (its L)) :
  Calls Try.prog 22 #[ptV o, .agg (tC i2 x2 r2 (.slice A n c)).toArray] w fun e w' => e = .returned (.bool true) ∧ Below w.heap.size w w' := by
 have HL := Lib.hid hT.fit
 obtain rfl : L.length = n := its_row hr HL.out
 obtain ⟨n, hn⟩ : ∃ n, L.length = n := ⟨_, rfl⟩
 have HLN := Lib.hid hn
 rw [hn] at hr
 have HNK := Lib.hid (show n ≤ K by have := hT.len; omega)
 have HK := Lib.hid hK
 have HT := Lib.hid hT
 have HR := Lib.hid hr
 rw [hn]
 clear hT hK hr hn
 go_enter Try.func22, Try.ntmps22
 go_upto_region 1 with (refine wpList_box_blk (by rfl) 47 (.tmp 1) rfl (tC i2 x2 r2 (.slice A n c)) rfl ?_; intro w1 hb1 hB1 hs1; clear hs1)
 obtain ⟨g1, hg1⟩ : ∃ g, w.heap.size = g := ⟨_, rfl⟩
 have HT1 := Lib.hid (HT.out.on hB1)
 have HW1 := Lib.hid hB1
 have HG1 := Lib.hid (show g1 < w1.heap.size by rw [← hg1]; exact hb1.lt)
 rw [hg1] at hb1
 try rw [hg1]
 have HD1 := Lib.hid hb1
 clear hb1 hB1 hg1
 go_wp2_with fail
 refine (tall_O HT1.out HK.out).mono ?_
 rintro e w2 ⟨A2, c2, rfl, hO, hb⟩
 rw [HLN.out]
 rw [HLN.out] at hO
 have HT2 := Lib.hid (HT1.out.on hb)
 have HD2 := Lib.hid (HD1.out.on hb)
 have HW2 := Lib.hid (bthen HW1.out hb)
 have HR2 := Lib.hid (hO.row)
 have HRB := Lib.hid (HR.out.below HW2.out)
 clear hb hO
 go_wp2_with fail
 refine wp_region_rel (fun A B => A.grownBy B none) (fun A => grown_refl A _) (fun A B C h k => grown_trans h k) (relAt (List.cons (fun v _ => v = .slice A2 n c2) (List.cons (fun v _ => v = .int .i64 (n : Int)) (List.cons (fun v _ => v = .pointer (some ⟨g1, 3, none⟩)) (List.cons (fun v _ => v = .slice A n c) (List.cons (fun v _ => v = .int .i64 (n : Int)) (List.cons (fun v _ => v = .bool false) (List.cons (fun v _ => v = .bool false) (List.cons (fun v _ => v = ptV o) (List.cons (fun v _ => v = .int .i64 (n : Int)) (List.cons (fun v _ => v = .pointer (some ⟨g1, 3, none⟩)) (List.cons (fun v _ => v = .slice A n c) (List.cons (fun v _ => v = .int .i64 (n : Int)) (List.cons (fun v _ => v = .bool false) (List.cons (fun v _ => v = .bool false) ([])))))))))))))))) (MonoL.at_ (.cons (mono_val _) (.cons (mono_val _) (.cons (mono_val _) (.cons (mono_val _) (.cons (mono_val _) (.cons (mono_val _) (.cons (mono_val _) (.cons (mono_val _) (.cons (mono_val _) (.cons (mono_val _) (.cons (mono_val _) (.cons (mono_val _) (.cons (mono_val _) (.cons (mono_val _) .nil))))))))))))))) (by kernel_rfl) (by kernel_rfl) ⟨?_, ?_, ?_, ?_, ?_, ?_, ?_, ?_, ?_, ?_, ?_, ?_, ?_, ?_, trivial⟩ ?_
 ·intro a vs W hX hR he hf K hK
  rw [if_pos (wanted_none rfl)]
  have e5 : a.eval (.tmp 5) = .slice A2 n c2 := hf 5 (by kernel_rfl)
  refine wp_value (v := .slice A2 n c2) ?_ (hK _ _ rfl (grown_refl W _))
  simp only [execOp, e5]
  try go_simp
 ·intro a vs W hX hR he hf K hK
  rw [if_pos (wanted_none rfl)]
  have e9 : a.eval (.tmp 9) = .slice A2 n c2 := (he 0 9 (by kernel_rfl) rfl).trans (hR 0 (by kernel_rfl))
  have f9 := e9
  simp only [Act.eval, Array.getD_eq_getD_getElem?] at f9
  refine wp_value (v := .int .i64 (n : Int)) ?_ (hK _ _ rfl (grown_refl W _))
  simp only [execOp, e9]
  try go_simp
 ·intro a vs W hX hR he hf K hK
  rw [if_pos (wanted_none rfl)]
  have e3 : a.eval (.tmp 3) = .pointer (some ⟨g1, 0, none⟩) := hf 3 (by kernel_rfl)
  refine wp_value (v := .pointer (some ⟨g1, 3, none⟩)) ?_ (hK _ _ rfl (grown_refl W _))
  simp only [execOp, e3]
  try go_simp
 ·intro a vs W hX hR he hf K hK
  rw [if_pos (wanted_none rfl)]
  have e11 : a.eval (.tmp 11) = .pointer (some ⟨g1, 3, none⟩) := (he 2 11 (by kernel_rfl) rfl).trans (hR 2 (by kernel_rfl))
  have hbW := bthen (below_drew _) (grow_below hX)
  have hc : W.cell? ⟨g1, 3, none⟩ = some (.slice A n c) := (HD2.out.on hbW).cell 3
  refine wp_value (v := _) ?_ (hK _ _ rfl (grown_refl W _))
  simp only [execOp, e11]
  try go_simp
 ·intro a vs W hX hR he hf K hK
  rw [if_pos (wanted_none rfl)]
  have e12 : a.eval (.tmp 12) = .slice A n c := (he 3 12 (by kernel_rfl) rfl).trans (hR 3 (by kernel_rfl))
  have f12 := e12
  simp only [Act.eval, Array.getD_eq_getD_getElem?] at f12
  refine wp_value (v := .int .i64 (n : Int)) ?_ (hK _ _ rfl (grown_refl W _))
  simp only [execOp, e12]
  try go_simp
 ·intro a vs W hX hR he hf K hK
  rw [if_pos (wanted_none rfl)]
  have e10 : a.eval (.tmp 10) = .int .i64 (n : Int) := (he 1 10 (by kernel_rfl) rfl).trans (hR 1 (by kernel_rfl))
  have e13 : a.eval (.tmp 13) = .int .i64 (n : Int) := (he 4 13 (by kernel_rfl) rfl).trans (hR 4 (by kernel_rfl))
  refine wp_value (v := .bool false) ?_ (hK _ _ rfl (grown_refl W _))
  simp only [execOp, e10, e13]
  try go_simp
 ·intro a vs W hX hR he hf K hK
  rw [if_pos (wanted_none rfl)]
  have e14 : a.eval (.tmp 14) = .bool false := (he 5 14 (by kernel_rfl) rfl).trans (hR 5 (by kernel_rfl))
  refine wp_value (v := .bool false) ?_ (hK _ _ rfl (grown_refl W _))
  simp only [execOp, e14]
  try go_simp
 ·intro a vs W hX hR he hf K hK
  have e15 : a.eval (.tmp 15) = .bool false := (he 6 15 (by kernel_rfl) rfl).trans (hR 6 (by kernel_rfl))
  refine Eq.mpr (if_pos (by exact (wanted_some rfl rfl e15).trans rfl)) ?_
  have e0 : a.eval (.tmp 0) = ptV o := hf 0 (by kernel_rfl)
  refine wp_value (v := ptV o) ?_ (hK _ _ rfl (grown_refl W _))
  simp only [execOp, e0]
  try go_simp
 ·intro a vs W hX hR he hf K hK
  have e15 : a.eval (.tmp 15) = .bool false := (he 6 15 (by kernel_rfl) rfl).trans (hR 6 (by kernel_rfl))
  refine Eq.mpr (if_pos (by exact (wanted_some rfl rfl e15).trans rfl)) ?_
  have e16 : a.eval (.tmp 16) = ptV o := (he 7 16 (by kernel_rfl) rfl).trans (hR 7 (by kernel_rfl))
  refine wp_enter (f := 21) (args := #[ptV o]) (by simp only [execOp, e16]; go_simp; simpa [Act.eval] using e16) ((tlen_O (HT2.out.on (bthen (below_drew _) (grow_below hX)))).mono ?_)
  rintro e w' ⟨rfl, rfl⟩
  rw [HLN.out]
  exact ⟨_, rfl, hK _ _ rfl (grown_refl W _)⟩
 ·intro a vs W hX hR he hf K hK
  have e15 : a.eval (.tmp 15) = .bool false := (he 6 15 (by kernel_rfl) rfl).trans (hR 6 (by kernel_rfl))
  refine Eq.mpr (if_pos (by exact (wanted_some rfl rfl e15).trans rfl)) ?_
  have e3 : a.eval (.tmp 3) = .pointer (some ⟨g1, 0, none⟩) := hf 3 (by kernel_rfl)
  refine wp_value (v := .pointer (some ⟨g1, 3, none⟩)) ?_ (hK _ _ rfl (grown_refl W _))
  simp only [execOp, e3]
  try go_simp
 ·intro a vs W hX hR he hf K hK
  have e15 : a.eval (.tmp 15) = .bool false := (he 6 15 (by kernel_rfl) rfl).trans (hR 6 (by kernel_rfl))
  refine Eq.mpr (if_pos (by exact (wanted_some rfl rfl e15).trans rfl)) ?_
  have e18 : a.eval (.tmp 18) = .pointer (some ⟨g1, 3, none⟩) := (he 9 18 (by kernel_rfl) rfl).trans (hR 9 (by kernel_rfl))
  have hbW := bthen (below_drew _) (grow_below hX)
  have hc : W.cell? ⟨g1, 3, none⟩ = some (.slice A n c) := (HD2.out.on hbW).cell 3
  refine wp_value (v := _) ?_ (hK _ _ rfl (grown_refl W _))
  simp only [execOp, e18]
  try go_simp
 ·intro a vs W hX hR he hf K hK
  have e15 : a.eval (.tmp 15) = .bool false := (he 6 15 (by kernel_rfl) rfl).trans (hR 6 (by kernel_rfl))
  refine Eq.mpr (if_pos (by exact (wanted_some rfl rfl e15).trans rfl)) ?_
  have e19 : a.eval (.tmp 19) = .slice A n c := (he 10 19 (by kernel_rfl) rfl).trans (hR 10 (by kernel_rfl))
  have f19 := e19
  simp only [Act.eval, Array.getD_eq_getD_getElem?] at f19
  refine wp_value (v := .int .i64 (n : Int)) ?_ (hK _ _ rfl (grown_refl W _))
  simp only [execOp, e19]
  try go_simp
 ·intro a vs W hX hR he hf K hK
  have e15 : a.eval (.tmp 15) = .bool false := (he 6 15 (by kernel_rfl) rfl).trans (hR 6 (by kernel_rfl))
  refine Eq.mpr (if_pos (by exact (wanted_some rfl rfl e15).trans rfl)) ?_
  have e17 : a.eval (.tmp 17) = .int .i64 (n : Int) := (he 8 17 (by kernel_rfl) rfl).trans (hR 8 (by kernel_rfl))
  have e20 : a.eval (.tmp 20) = .int .i64 (n : Int) := (he 11 20 (by kernel_rfl) rfl).trans (hR 11 (by kernel_rfl))
  refine wp_value (v := .bool false) ?_ (hK _ _ rfl (grown_refl W _))
  simp only [execOp, e17, e20]
  try go_simp
 ·intro a vs W hX hR he hf K hK
  rw [if_pos (wanted_none rfl)]
  have e15 : a.eval (.tmp 15) = .bool false := (he 6 15 (by kernel_rfl) rfl).trans (hR 6 (by kernel_rfl))
  have e21 : a.eval (.tmp 21) = .bool false := (he 12 21 (by kernel_rfl) rfl).trans (hR 12 (by kernel_rfl))
  refine wp_value (v := .bool false) ?_ (hK _ _ rfl (grown_refl W _))
  simp only [execOp, e15, e21]
  try go_simp
 ·intro vs wx hXx hR
  have q0 := hR 0 (by decide)
  have q1 := hR 1 (by decide)
  have q2 := hR 2 (by decide)
  have q3 := hR 3 (by decide)
  have q4 := hR 4 (by decide)
  have q5 := hR 5 (by decide)
  have q6 := hR 6 (by decide)
  have q7 := hR 7 (by decide)
  have q8 := hR 8 (by decide)
  have q9 := hR 9 (by decide)
  have q10 := hR 10 (by decide)
  have q11 := hR 11 (by decide)
  have q12 := hR 12 (by decide)
  have q13 := hR 13 (by decide)
  change vs 0 = .slice A2 n c2 at q0
  change vs 1 = .int .i64 (n : Int) at q1
  change vs 2 = .pointer (some ⟨g1, 3, none⟩) at q2
  change vs 3 = .slice A n c at q3
  change vs 4 = .int .i64 (n : Int) at q4
  change vs 5 = .bool false at q5
  change vs 6 = .bool false at q6
  change vs 7 = ptV o at q7
  change vs 8 = .int .i64 (n : Int) at q8
  change vs 9 = .pointer (some ⟨g1, 3, none⟩) at q9
  change vs 10 = .slice A n c at q10
  change vs 11 = .int .i64 (n : Int) at q11
  change vs 12 = .bool false at q12
  change vs 13 = .bool false at q13
  simp only [putAll, Act.put, List.setIfInBounds_toArray, List.set_cons_zero, List.set_cons_succ, q0, q1, q2, q3, q4, q5, q6, q7, q8, q9, q10, q11, q12, q13]
  clear q0 q1 q2 q3 q4 q5 q6 q7 q8 q9 q10 q11 q12 q13
  clear hR
  have bW2 := Lib.hid (bthen (below_drew _) (grow_below hXx))
  clear hXx
  go_wp2_with fail
  go_loopw [6] (fun i wr => ∃ k : Nat, k ≤ n ∧ i = .int .i64 (k : Nat) ∧ Below w2.heap.size w2 wr) (fun i _ => n - (intOf i).toNat)
  case atStart => exact ⟨0, by omega, rfl, bW2.out⟩
  case round =>
   obtain ⟨k, hk, rfl, hbe⟩ := hrel
   have hBE := Lib.hid hbe
   have HD := Lib.hid (HD2.out.on hbe)
   have HW := Lib.hid (bthen HW2.out hbe)
   by_cases hlt : k < n
   ·obtain ⟨x, hx⟩ := get_ex L (k := k) (by rw [HLN.out]; exact hlt)
    obtain ⟨bA, oA, rfl, hbA, hcA⟩ := its_at2 HRB.out HL.out k x hx
    obtain ⟨bM, oM, rfl, hbM, hcM⟩ := its_at2 HR2.out HL.out k x hx
    replace hbA := Nat.lt_of_lt_of_le hbA HW2.out.size
    have HXF := Lib.hid (HL.out x (List.mem_of_getElem? hx))
    have HXR := Lib.hid (range_below hbe hbA hcA)
    have HXM := Lib.hid (range_below hbe hbM hcM)
    have HBA := Lib.hid (show bA < wr.heap.size from Nat.lt_of_lt_of_le hbA hbe.size)
    have HBM := Lib.hid (show bM < wr.heap.size from Nat.lt_of_lt_of_le hbM hbe.size)
    have hlt2 : (k : Int) < (n : Int) := by omega
    have hlt3 : (k : Int) + 1 ≤ (n : Int) := by omega
    have hnk := HNK.out
    have hk9 := HK.out
    clear hbA hbM hcA hcM hx hbe
    go_wp2_with fail
    refine wp_region_rel (fun A B => A.grownBy B none) (fun A => grown_refl A _) (fun A B C h k => grown_trans h k) (relAt (List.cons (fun v _ => v = .slice (some ⟨bM, oM, none⟩) n c2) (List.cons (fun v _ => v = .int .i64 (k : Int)) (List.cons (fun v _ => v = .pointer (some ⟨bM, oM + k * 19, none⟩)) (List.cons (fun v _ => v = .pointer (some ⟨bM, oM + k * 19, none⟩)) (List.cons (fun v _ => v = .agg x.1.cells.toArray) (List.cons (fun v _ => v = .pointer (some ⟨g1, 3, none⟩)) (List.cons (fun v _ => v = .slice (some ⟨bA, oA, none⟩) n c) (List.cons (fun v _ => v = .int .i64 (k : Int)) (List.cons (fun v _ => v = .pointer (some ⟨bA, oA + k * 19, none⟩)) (List.cons (fun v _ => v = .pointer (some ⟨bA, oA + k * 19, none⟩)) (List.cons (fun v _ => v = .agg x.1.cells.toArray) (List.cons (fun v _ => v = .bool false) (List.cons (fun v _ => v = .bool false) (List.cons (fun v _ => v = .slice (some ⟨bM, oM, none⟩) n c2) (List.cons (fun v _ => v = .int .i64 (k : Int)) (List.cons (fun v _ => v = .pointer (some ⟨bM, oM + k * 19, none⟩)) (List.cons (fun v _ => v = .pointer (some ⟨bM, oM + k * 19 + 18, none⟩)) (List.cons (fun v _ => v = .int .i64 x.2) (List.cons (fun v _ => v = .pointer (some ⟨g1, 3, none⟩)) (List.cons (fun v _ => v = .slice (some ⟨bA, oA, none⟩) n c) (List.cons (fun v _ => v = .int .i64 (k : Int)) (List.cons (fun v _ => v = .pointer (some ⟨bA, oA + k * 19, none⟩)) (List.cons (fun v _ => v = .pointer (some ⟨bA, oA + k * 19 + 18, none⟩)) (List.cons (fun v _ => v = .int .i64 x.2) (List.cons (fun v _ => v = .bool false) (List.cons (fun v _ => v = .bool false) ([])))))))))))))))))))))))))))) (MonoL.at_ (.cons (mono_val _) (.cons (mono_val _) (.cons (mono_val _) (.cons (mono_val _) (.cons (mono_val _) (.cons (mono_val _) (.cons (mono_val _) (.cons (mono_val _) (.cons (mono_val _) (.cons (mono_val _) (.cons (mono_val _) (.cons (mono_val _) (.cons (mono_val _) (.cons (mono_val _) (.cons (mono_val _) (.cons (mono_val _) (.cons (mono_val _) (.cons (mono_val _) (.cons (mono_val _) (.cons (mono_val _) (.cons (mono_val _) (.cons (mono_val _) (.cons (mono_val _) (.cons (mono_val _) (.cons (mono_val _) (.cons (mono_val _) .nil))))))))))))))))))))))))))) (by kernel_rfl) (by kernel_rfl) ⟨?_, ?_, ?_, ?_, ?_, ?_, ?_, ?_, ?_, ?_, ?_, ?_, ?_, ?_, ?_, ?_, ?_, ?_, ?_, ?_, ?_, ?_, ?_, ?_, ?_, ?_, trivial⟩ ?_
    ·intro a vs W hX hR he hf K hK
     rw [if_pos (wanted_none rfl)]
     have e5 : a.eval (.tmp 5) = .slice (some ⟨bM, oM, none⟩) n c2 := hf 5 (by kernel_rfl)
     refine wp_value (v := .slice (some ⟨bM, oM, none⟩) n c2) ?_ (hK _ _ rfl (grown_refl W _))
     simp only [execOp, e5]
     try go_simp
    ·intro a vs W hX hR he hf K hK
     rw [if_pos (wanted_none rfl)]
     have e6 : a.eval (.tmp 6) = .int .i64 (k : Int) := hf 6 (by kernel_rfl)
     refine wp_value (v := .int .i64 (k : Int)) ?_ (hK _ _ rfl (grown_refl W _))
     simp only [execOp, e6]
     try go_simp
    ·intro a vs W hX hR he hf K hK
     rw [if_pos (wanted_none rfl)]
     have e29 : a.eval (.tmp 29) = .slice (some ⟨bM, oM, none⟩) n c2 := (he 0 29 (by kernel_rfl) rfl).trans (hR 0 (by kernel_rfl))
     have e30 : a.eval (.tmp 30) = .int .i64 (k : Int) := (he 1 30 (by kernel_rfl) rfl).trans (hR 1 (by kernel_rfl))
     refine wp_value (v := .pointer (some ⟨bM, oM + k * 19, none⟩)) ?_ (hK _ _ rfl (grown_refl W _))
     simp only [execOp, e29, e30]
     go_simp
    ·intro a vs W hX hR he hf K hK
     rw [if_pos (wanted_none rfl)]
     have e31 : a.eval (.tmp 31) = .pointer (some ⟨bM, oM + k * 19, none⟩) := (he 2 31 (by kernel_rfl) rfl).trans (hR 2 (by kernel_rfl))
     refine wp_value (v := .pointer (some ⟨bM, oM + k * 19, none⟩)) ?_ (hK _ _ rfl (grown_refl W _))
     simp only [execOp, e31]
     try go_simp
    ·intro a vs W hX hR he hf K hK
     rw [if_pos (wanted_none rfl)]
     have e32 : a.eval (.tmp 32) = .pointer (some ⟨bM, oM + k * 19, none⟩) := (he 3 32 (by kernel_rfl) rfl).trans (hR 3 (by kernel_rfl))
     have hbW := bthen (below_drew _) (grow_below hX)
     exact wp_value (exec_load_mid 30 _ rfl bM (oM + k * 19) e32 x.1.cells _ (range_below hbW HBM.out (it_px HXM.out)) Try.underlying30 rfl (sizePx _ HXF.out.addr)) (hK _ _ rfl (grown_refl W _))
    ·intro a vs W hX hR he hf K hK
     rw [if_pos (wanted_none rfl)]
     have e3 : a.eval (.tmp 3) = .pointer (some ⟨g1, 0, none⟩) := hf 3 (by kernel_rfl)
     refine wp_value (v := .pointer (some ⟨g1, 3, none⟩)) ?_ (hK _ _ rfl (grown_refl W _))
     simp only [execOp, e3]
     try go_simp
    ·intro a vs W hX hR he hf K hK
     rw [if_pos (wanted_none rfl)]
     have e34 : a.eval (.tmp 34) = .pointer (some ⟨g1, 3, none⟩) := (he 5 34 (by kernel_rfl) rfl).trans (hR 5 (by kernel_rfl))
     have hbW := bthen (below_drew _) (grow_below hX)
     have hc : W.cell? ⟨g1, 3, none⟩ = some (.slice (some ⟨bA, oA, none⟩) n c) := (HD.out.on hbW).cell 3
     refine wp_value (v := _) ?_ (hK _ _ rfl (grown_refl W _))
     simp only [execOp, e34]
     try go_simp
    ·intro a vs W hX hR he hf K hK
     rw [if_pos (wanted_none rfl)]
     have e6 : a.eval (.tmp 6) = .int .i64 (k : Int) := hf 6 (by kernel_rfl)
     refine wp_value (v := .int .i64 (k : Int)) ?_ (hK _ _ rfl (grown_refl W _))
     simp only [execOp, e6]
     try go_simp
    ·intro a vs W hX hR he hf K hK
     rw [if_pos (wanted_none rfl)]
     have e35 : a.eval (.tmp 35) = .slice (some ⟨bA, oA, none⟩) n c := (he 6 35 (by kernel_rfl) rfl).trans (hR 6 (by kernel_rfl))
     have e36 : a.eval (.tmp 36) = .int .i64 (k : Int) := (he 7 36 (by kernel_rfl) rfl).trans (hR 7 (by kernel_rfl))
     refine wp_value (v := .pointer (some ⟨bA, oA + k * 19, none⟩)) ?_ (hK _ _ rfl (grown_refl W _))
     simp only [execOp, e35, e36]
     go_simp
    ·intro a vs W hX hR he hf K hK
     rw [if_pos (wanted_none rfl)]
     have e37 : a.eval (.tmp 37) = .pointer (some ⟨bA, oA + k * 19, none⟩) := (he 8 37 (by kernel_rfl) rfl).trans (hR 8 (by kernel_rfl))
     refine wp_value (v := .pointer (some ⟨bA, oA + k * 19, none⟩)) ?_ (hK _ _ rfl (grown_refl W _))
     simp only [execOp, e37]
     try go_simp
    ·intro a vs W hX hR he hf K hK
     rw [if_pos (wanted_none rfl)]
     have e38 : a.eval (.tmp 38) = .pointer (some ⟨bA, oA + k * 19, none⟩) := (he 9 38 (by kernel_rfl) rfl).trans (hR 9 (by kernel_rfl))
     have hbW := bthen (below_drew _) (grow_below hX)
     exact wp_value (exec_load_mid 30 _ rfl bA (oA + k * 19) e38 x.1.cells _ (range_below hbW HBA.out (it_px HXR.out)) Try.underlying30 rfl (sizePx _ HXF.out.addr)) (hK _ _ rfl (grown_refl W _))
    ·intro a vs W hX hR he hf K hK
     rw [if_pos (wanted_none rfl)]
     have e33 : a.eval (.tmp 33) = .agg x.1.cells.toArray := (he 4 33 (by kernel_rfl) rfl).trans (hR 4 (by kernel_rfl))
     have e39 : a.eval (.tmp 39) = .agg x.1.cells.toArray := (he 10 39 (by kernel_rfl) rfl).trans (hR 10 (by kernel_rfl))
     exact wp_value (exec_nePx _ _ _ rfl x.1 x.1 HXF.out.addr HXF.out.addr true (decide_eq_true rfl) e33 e39) (hK _ _ rfl (grown_refl W _))
    ·intro a vs W hX hR he hf K hK
     rw [if_pos (wanted_none rfl)]
     have e40 : a.eval (.tmp 40) = .bool false := (he 11 40 (by kernel_rfl) rfl).trans (hR 11 (by kernel_rfl))
     refine wp_value (v := .bool false) ?_ (hK _ _ rfl (grown_refl W _))
     simp only [execOp, e40]
     try go_simp
    ·intro a vs W hX hR he hf K hK
     have e41 : a.eval (.tmp 41) = .bool false := (he 12 41 (by kernel_rfl) rfl).trans (hR 12 (by kernel_rfl))
     refine Eq.mpr (if_pos (by exact (wanted_some rfl rfl e41).trans rfl)) ?_
     have e5 : a.eval (.tmp 5) = .slice (some ⟨bM, oM, none⟩) n c2 := hf 5 (by kernel_rfl)
     refine wp_value (v := .slice (some ⟨bM, oM, none⟩) n c2) ?_ (hK _ _ rfl (grown_refl W _))
     simp only [execOp, e5]
     try go_simp
    ·intro a vs W hX hR he hf K hK
     have e41 : a.eval (.tmp 41) = .bool false := (he 12 41 (by kernel_rfl) rfl).trans (hR 12 (by kernel_rfl))
     refine Eq.mpr (if_pos (by exact (wanted_some rfl rfl e41).trans rfl)) ?_
     have e6 : a.eval (.tmp 6) = .int .i64 (k : Int) := hf 6 (by kernel_rfl)
     refine wp_value (v := .int .i64 (k : Int)) ?_ (hK _ _ rfl (grown_refl W _))
     simp only [execOp, e6]
     try go_simp
    ·intro a vs W hX hR he hf K hK
     have e41 : a.eval (.tmp 41) = .bool false := (he 12 41 (by kernel_rfl) rfl).trans (hR 12 (by kernel_rfl))
     refine Eq.mpr (if_pos (by exact (wanted_some rfl rfl e41).trans rfl)) ?_
     have e42 : a.eval (.tmp 42) = .slice (some ⟨bM, oM, none⟩) n c2 := (he 13 42 (by kernel_rfl) rfl).trans (hR 13 (by kernel_rfl))
     have e43 : a.eval (.tmp 43) = .int .i64 (k : Int) := (he 14 43 (by kernel_rfl) rfl).trans (hR 14 (by kernel_rfl))
     refine wp_value (v := .pointer (some ⟨bM, oM + k * 19, none⟩)) ?_ (hK _ _ rfl (grown_refl W _))
     simp only [execOp, e42, e43]
     go_simp
    ·intro a vs W hX hR he hf K hK
     have e41 : a.eval (.tmp 41) = .bool false := (he 12 41 (by kernel_rfl) rfl).trans (hR 12 (by kernel_rfl))
     refine Eq.mpr (if_pos (by exact (wanted_some rfl rfl e41).trans rfl)) ?_
     have e44 : a.eval (.tmp 44) = .pointer (some ⟨bM, oM + k * 19, none⟩) := (he 15 44 (by kernel_rfl) rfl).trans (hR 15 (by kernel_rfl))
     refine wp_value (v := .pointer (some ⟨bM, oM + k * 19 + 18, none⟩)) ?_ (hK _ _ rfl (grown_refl W _))
     simp only [execOp, e44]
     try go_simp
    ·intro a vs W hX hR he hf K hK
     have e41 : a.eval (.tmp 41) = .bool false := (he 12 41 (by kernel_rfl) rfl).trans (hR 12 (by kernel_rfl))
     refine Eq.mpr (if_pos (by exact (wanted_some rfl rfl e41).trans rfl)) ?_
     have e45 : a.eval (.tmp 45) = .pointer (some ⟨bM, oM + k * 19 + 18, none⟩) := (he 16 45 (by kernel_rfl) rfl).trans (hR 16 (by kernel_rfl))
     have hbW := bthen (below_drew _) (grow_below hX)
     have hc : W.cell? ⟨bM, oM + k * 19 + 18, none⟩ = some (.int .i64 x.2) := range_below hbW HBM.out HXM.out 18 _ (it_val x HXF.out.addr)
     refine wp_value (v := _) ?_ (hK _ _ rfl (grown_refl W _))
     simp only [execOp, e45]
     try go_simp
    ·intro a vs W hX hR he hf K hK
     have e41 : a.eval (.tmp 41) = .bool false := (he 12 41 (by kernel_rfl) rfl).trans (hR 12 (by kernel_rfl))
     refine Eq.mpr (if_pos (by exact (wanted_some rfl rfl e41).trans rfl)) ?_
     have e3 : a.eval (.tmp 3) = .pointer (some ⟨g1, 0, none⟩) := hf 3 (by kernel_rfl)
     refine wp_value (v := .pointer (some ⟨g1, 3, none⟩)) ?_ (hK _ _ rfl (grown_refl W _))
     simp only [execOp, e3]
     try go_simp
    ·intro a vs W hX hR he hf K hK
     have e41 : a.eval (.tmp 41) = .bool false := (he 12 41 (by kernel_rfl) rfl).trans (hR 12 (by kernel_rfl))
     refine Eq.mpr (if_pos (by exact (wanted_some rfl rfl e41).trans rfl)) ?_
     have e47 : a.eval (.tmp 47) = .pointer (some ⟨g1, 3, none⟩) := (he 18 47 (by kernel_rfl) rfl).trans (hR 18 (by kernel_rfl))
     have hbW := bthen (below_drew _) (grow_below hX)
     have hc : W.cell? ⟨g1, 3, none⟩ = some (.slice (some ⟨bA, oA, none⟩) n c) := (HD.out.on hbW).cell 3
     refine wp_value (v := _) ?_ (hK _ _ rfl (grown_refl W _))
     simp only [execOp, e47]
     try go_simp
    ·intro a vs W hX hR he hf K hK
     have e41 : a.eval (.tmp 41) = .bool false := (he 12 41 (by kernel_rfl) rfl).trans (hR 12 (by kernel_rfl))
     refine Eq.mpr (if_pos (by exact (wanted_some rfl rfl e41).trans rfl)) ?_
     have e6 : a.eval (.tmp 6) = .int .i64 (k : Int) := hf 6 (by kernel_rfl)
     refine wp_value (v := .int .i64 (k : Int)) ?_ (hK _ _ rfl (grown_refl W _))
     simp only [execOp, e6]
     try go_simp
    ·intro a vs W hX hR he hf K hK
     have e41 : a.eval (.tmp 41) = .bool false := (he 12 41 (by kernel_rfl) rfl).trans (hR 12 (by kernel_rfl))
     refine Eq.mpr (if_pos (by exact (wanted_some rfl rfl e41).trans rfl)) ?_
     have e48 : a.eval (.tmp 48) = .slice (some ⟨bA, oA, none⟩) n c := (he 19 48 (by kernel_rfl) rfl).trans (hR 19 (by kernel_rfl))
     have e49 : a.eval (.tmp 49) = .int .i64 (k : Int) := (he 20 49 (by kernel_rfl) rfl).trans (hR 20 (by kernel_rfl))
     refine wp_value (v := .pointer (some ⟨bA, oA + k * 19, none⟩)) ?_ (hK _ _ rfl (grown_refl W _))
     simp only [execOp, e48, e49]
     go_simp
    ·intro a vs W hX hR he hf K hK
     have e41 : a.eval (.tmp 41) = .bool false := (he 12 41 (by kernel_rfl) rfl).trans (hR 12 (by kernel_rfl))
     refine Eq.mpr (if_pos (by exact (wanted_some rfl rfl e41).trans rfl)) ?_
     have e50 : a.eval (.tmp 50) = .pointer (some ⟨bA, oA + k * 19, none⟩) := (he 21 50 (by kernel_rfl) rfl).trans (hR 21 (by kernel_rfl))
     refine wp_value (v := .pointer (some ⟨bA, oA + k * 19 + 18, none⟩)) ?_ (hK _ _ rfl (grown_refl W _))
     simp only [execOp, e50]
     try go_simp
    ·intro a vs W hX hR he hf K hK
     have e41 : a.eval (.tmp 41) = .bool false := (he 12 41 (by kernel_rfl) rfl).trans (hR 12 (by kernel_rfl))
     refine Eq.mpr (if_pos (by exact (wanted_some rfl rfl e41).trans rfl)) ?_
     have e51 : a.eval (.tmp 51) = .pointer (some ⟨bA, oA + k * 19 + 18, none⟩) := (he 22 51 (by kernel_rfl) rfl).trans (hR 22 (by kernel_rfl))
     have hbW := bthen (below_drew _) (grow_below hX)
     have hc : W.cell? ⟨bA, oA + k * 19 + 18, none⟩ = some (.int .i64 x.2) := range_below hbW HBA.out HXR.out 18 _ (it_val x HXF.out.addr)
     refine wp_value (v := _) ?_ (hK _ _ rfl (grown_refl W _))
     simp only [execOp, e51]
     try go_simp
    ·intro a vs W hX hR he hf K hK
     have e41 : a.eval (.tmp 41) = .bool false := (he 12 41 (by kernel_rfl) rfl).trans (hR 12 (by kernel_rfl))
     refine Eq.mpr (if_pos (by exact (wanted_some rfl rfl e41).trans rfl)) ?_
     have e46 : a.eval (.tmp 46) = .int .i64 x.2 := (he 17 46 (by kernel_rfl) rfl).trans (hR 17 (by kernel_rfl))
     have e52 : a.eval (.tmp 52) = .int .i64 x.2 := (he 23 52 (by kernel_rfl) rfl).trans (hR 23 (by kernel_rfl))
     refine wp_value (v := .bool false) ?_ (hK _ _ rfl (grown_refl W _))
     simp only [execOp, e46, e52]
     try go_simp
    ·intro a vs W hX hR he hf K hK
     rw [if_pos (wanted_none rfl)]
     have e41 : a.eval (.tmp 41) = .bool false := (he 12 41 (by kernel_rfl) rfl).trans (hR 12 (by kernel_rfl))
     have e53 : a.eval (.tmp 53) = .bool false := (he 24 53 (by kernel_rfl) rfl).trans (hR 24 (by kernel_rfl))
     refine wp_value (v := .bool false) ?_ (hK _ _ rfl (grown_refl W _))
     simp only [execOp, e41, e53]
     try go_simp
    ·intro vs wx hXx hR
     have q0 := hR 0 (by decide)
     have q1 := hR 1 (by decide)
     have q2 := hR 2 (by decide)
     have q3 := hR 3 (by decide)
     have q4 := hR 4 (by decide)
     have q5 := hR 5 (by decide)
     have q6 := hR 6 (by decide)
     have q7 := hR 7 (by decide)
     have q8 := hR 8 (by decide)
     have q9 := hR 9 (by decide)
     have q10 := hR 10 (by decide)
     have q11 := hR 11 (by decide)
     have q12 := hR 12 (by decide)
     have q13 := hR 13 (by decide)
     have q14 := hR 14 (by decide)
     have q15 := hR 15 (by decide)
     have q16 := hR 16 (by decide)
     have q17 := hR 17 (by decide)
     have q18 := hR 18 (by decide)
     have q19 := hR 19 (by decide)
     have q20 := hR 20 (by decide)
     have q21 := hR 21 (by decide)
     have q22 := hR 22 (by decide)
     have q23 := hR 23 (by decide)
     have q24 := hR 24 (by decide)
     have q25 := hR 25 (by decide)
     change vs 0 = .slice (some ⟨bM, oM, none⟩) n c2 at q0
     change vs 1 = .int .i64 (k : Int) at q1
     change vs 2 = .pointer (some ⟨bM, oM + k * 19, none⟩) at q2
     change vs 3 = .pointer (some ⟨bM, oM + k * 19, none⟩) at q3
     change vs 4 = .agg x.1.cells.toArray at q4
     change vs 5 = .pointer (some ⟨g1, 3, none⟩) at q5
     change vs 6 = .slice (some ⟨bA, oA, none⟩) n c at q6
     change vs 7 = .int .i64 (k : Int) at q7
     change vs 8 = .pointer (some ⟨bA, oA + k * 19, none⟩) at q8
     change vs 9 = .pointer (some ⟨bA, oA + k * 19, none⟩) at q9
     change vs 10 = .agg x.1.cells.toArray at q10
     change vs 11 = .bool false at q11
     change vs 12 = .bool false at q12
     change vs 13 = .slice (some ⟨bM, oM, none⟩) n c2 at q13
     change vs 14 = .int .i64 (k : Int) at q14
     change vs 15 = .pointer (some ⟨bM, oM + k * 19, none⟩) at q15
     change vs 16 = .pointer (some ⟨bM, oM + k * 19 + 18, none⟩) at q16
     change vs 17 = .int .i64 x.2 at q17
     change vs 18 = .pointer (some ⟨g1, 3, none⟩) at q18
     change vs 19 = .slice (some ⟨bA, oA, none⟩) n c at q19
     change vs 20 = .int .i64 (k : Int) at q20
     change vs 21 = .pointer (some ⟨bA, oA + k * 19, none⟩) at q21
     change vs 22 = .pointer (some ⟨bA, oA + k * 19 + 18, none⟩) at q22
     change vs 23 = .int .i64 x.2 at q23
     change vs 24 = .bool false at q24
     change vs 25 = .bool false at q25
     simp only [putAll, Act.put, List.setIfInBounds_toArray, List.set_cons_zero, List.set_cons_succ, q0, q1, q2, q3, q4, q5, q6, q7, q8, q9, q10, q11, q12, q13, q14, q15, q16, q17, q18, q19, q20, q21, q22, q23, q24, q25]
     clear q0 q1 q2 q3 q4 q5 q6 q7 q8 q9 q10 q11 q12 q13 q14 q15 q16 q17 q18 q19 q20 q21 q22 q23 q24 q25
     clear hR
     replace hBE := Lib.hid (hBE.out.trans ((bthen (below_drew _) (grow_below hXx)).mono hBE.out.size))
     clear hXx
     go_wp2_with fail
     go_roundw
     case rel => exact ⟨k + 1, by omega, by simp, hBE.out⟩
     case measure => simp [intOf]; omega
   ·obtain rfl : k = n := by omega
    clear hbe
    go_wp2_with fail
    go_ret
    exact ⟨rfl, HW.out⟩
end Go.Proofs.Ytbemhcihmlijaaa

/- How a law's arguments are opened: slices of bytes and of numbers, structs and arrays by value. No condition. -/
namespace Go.Proofs.Ytbemhcihmlijaaa
open Go.ChangeShapes Go.WideShapes Go.ChangeAt Go.RowKit
set_option linter.unusedVariables false
set_option maxRecDepth 20000

section
variable {H : Type} {enc : TypeId × Value → H} {P : Program} {w : World} {base : Nat} {spare : Nat → Bool} {held : Bool}

/-- numbers of a kind as cells -/
def nv (k : IntKind) (l : List Int) : List Value := l.map (Value.int k)
theorem nv_length (k : IntKind) (l : List Int) : (nv k l).length = l.length := by simp [nv]
theorem nv_get (k : IntKind) (l : List Int) (i : Nat) (x : Int) (h : l[i]? = some x) : (nv k l)[i]? = some (.int k x) := by simp [nv, h]

/-- a slice of numbers that came in: it is read as numbers, each of its kind -/
theorem open_nums {t e : TypeId} {k : IntKind} {r : Reach} {b0 : Nat} {v : Value} {d : DataW H} {ps : List MemPlace} (ht : P.underlying t = some (.slice e)) (he : P.underlying e = some (.int k)) (hc : P.cellsOf e = 1)
  (hv : Value.okWide P w r b0 t v) (h : DataW.Trod enc P w base spare held t v d ps) :
  ∃ A n c l, v = .slice A n c ∧ Row w w.heap.size 1 A n (nv k l) ∧ n ≤ c ∧ c ≤ maxLen ∧ ∀ x ∈ l, (Lit.int k x).wf = true := by
 obtain ⟨a0, len0, cap0, rfl⟩ := okWide_slice ht hv
 obtain ⟨fuel, hf⟩ := h
 rcases open_ints ht he hc hf with ⟨hcs, _⟩ | ⟨x, l, c, zs, hcs, _, hl, hm, hz, _, hcell, hwz⟩
 ·simp [Value.cells] at hcs
  obtain ⟨rfl, rfl, rfl⟩ := hcs
  exact ⟨none, 0, 0, [], rfl, Row.nil _ _ _ _, Nat.le_refl _, Nat.zero_le _, by simp⟩
 ·simp [Value.cells] at hcs
  obtain ⟨rfl, rfl, rfl⟩ := hcs
  have hlz : len0 ≤ zs.length := by rw [hz]; split <;> omega
  refine ⟨some x, len0, cap0, zs.take len0, rfl, ⟨?_, fun hn => ?_⟩, hl, hm, fun y hy => hwz y (List.mem_of_mem_take hy)⟩
  ·rw [nv_length, List.length_take]; omega
  ·obtain ⟨b, off, spot⟩ := x
   have hc0 := hcell 0 (by omega)
   have hspot : spot = none := by simpa [Addr.add] using World.cell?_spot hc0
   subst hspot
   refine ⟨b, off, rfl, World.block_lt_of_cell? w _ hc0, fun j u hu => ?_⟩
   have hj : j < len0 := by
    rcases Nat.lt_or_ge j len0 with h' | h'
    ·exact h'
    ·rw [List.getElem?_eq_none (by rw [nv_length, List.length_take]; omega)] at hu; cases hu
   have hcj := hcell j (by omega)
   have hadd : (⟨b, off, none⟩ : Addr).add j = ⟨b, off + j, none⟩ := by unfold Addr.add; split <;> simp_all
   rw [hadd] at hcj
   rw [hcj, ← hu, nv_get k (zs.take len0) j (zs.getD j 0) ?_]
   rw [List.getElem?_take, if_pos hj, List.getD_eq_getElem?_getD, List.getElem?_eq_getElem (by omega)]
   rfl

/-- a slice of bytes that came in -/
theorem open_bytes {t e : TypeId} {r : Reach} {b0 : Nat} {v : Value} {d : DataW H} {ps : List MemPlace} (ht : P.underlying t = some (.slice e)) (he : P.underlying e = some (.int .u8)) (hc : P.cellsOf e = 1)
  (hv : Value.okWide P w r b0 t v) (h : DataW.Trod enc P w base spare held t v d ps) : ∃ r : Bs, v = r.v ∧ r.ok w := by
 obtain ⟨A, n, c, l, rfl, hr, hn, hm, hw⟩ := open_nums ht he hc hv h
 have e : nv .u8 l = bv (l.map fun z => UInt8.ofNat z.toNat) := by
  unfold nv bv
  rw [List.map_map]
  apply List.map_congr_left
  intro z hz
  have hb : 0 ≤ z ∧ z ≤ 255 := by simpa [Lit.wf, IntKind.min, IntKind.max, IntKind.signed, IntKind.bits] using hw z hz
  simp only [Function.comp]
  rw [u8_of z hb.1 hb.2]
 rw [e] at hr
 exact ⟨⟨A, n, c, _⟩, rfl, hr, hn, hm⟩

/-- a struct by value: its fields' cells, each with its own reading -/
theorem open_struct {t : TypeId} {fs : Array Field} {r : Reach} {b0 : Nat} {v : Value} {d : DataW H} {ps : List MemPlace} (ht : P.underlying t = some (.struct fs))
  (hv : Value.okWide P w r b0 t v) (h : DataW.Trod enc P w base spare held t v d ps) :
  ∃ (cs : List Value) (n : Nat), v = .agg cs.toArray ∧ cs.length = P.cellsOf t ∧ ∀ (i : Nat) (f : Field), fs[i]? = some f → ∃ y, DataW.trod enc P w base spare held n f.type ((cs.drop f.offset).take (P.cellsOf f.type)) = some y := by
 obtain ⟨⟨cs⟩, rfl, hsz⟩ := okWide_struct ht hv
 obtain ⟨fuel, hf⟩ := h
 obtain ⟨xs, n, _, _, _, hlen, hg⟩ := DataW.trod_struct ht hf
 refine ⟨cs, n, rfl, by simpa using hsz, fun i f hi => ?_⟩
 have hil : i < fs.size := (Array.getElem?_eq_some_iff.1 hi).1
 have := hg i f hi
 simp only [Value.cells] at this
 rw [this, List.getElem?_eq_getElem (by omega)]
 exact ⟨_, rfl⟩
theorem cell_int {t : TypeId} {k : IntKind} {n : Nat} {cs : List Value} (ht : P.underlying t = some (.int k)) (h : ∃ y, DataW.trod enc P w base spare held n t cs = some y) : ∃ x, cs = [.int k x] ∧ (Lit.int k x).wf = true := by
 obtain ⟨y, h⟩ := h
 obtain ⟨x, h1, _, h2⟩ := DataW.trod_int ht h
 exact ⟨x, h1, h2⟩
theorem cell_bool {t : TypeId} {n : Nat} {cs : List Value} (ht : P.underlying t = some .bool) (h : ∃ y, DataW.trod enc P w base spare held n t cs = some y) : ∃ x, cs = [.bool x] := by
 obtain ⟨y, h⟩ := h
 obtain ⟨x, h1, _⟩ := DataW.trod_bool ht h
 exact ⟨x, h1⟩
end
theorem len_cons {l : List Value} {n : Nat} (h : l.length = n + 1) : ∃ a r, l = a :: r ∧ r.length = n := by
 cases l with
 | nil => simp at h
 | cons a r => exact ⟨a, r, rfl, by simpa using h⟩
theorem bd_u8 {x : Int} (h : (Lit.int .u8 x).wf = true) : 0 ≤ x ∧ x ≤ 255 := by simpa [Lit.wf, IntKind.min, IntKind.max, IntKind.signed, IntKind.bits] using h
theorem bd_u16 {x : Int} (h : (Lit.int .u16 x).wf = true) : 0 ≤ x ∧ x ≤ 65535 := by simpa [Lit.wf, IntKind.min, IntKind.max, IntKind.signed, IntKind.bits] using h
theorem bd_u32 {x : Int} (h : (Lit.int .u32 x).wf = true) : 0 ≤ x ∧ x ≤ 4294967295 := by simpa [Lit.wf, IntKind.min, IntKind.max, IntKind.signed, IntKind.bits] using h
theorem bd_i64 {x : Int} (h : (Lit.int .i64 x).wf = true) : -9223372036854775808 ≤ x ∧ x ≤ 9223372036854775807 := by simpa [Lit.wf, IntKind.min, IntKind.max, IntKind.signed, IntKind.bits] using h
end Go.Proofs.Ytbemhcihmlijaaa

/- How an array of bytes among a law's arguments is opened. No condition. -/
namespace Go.Proofs.Ytbemhcihmlijaaa
open Go.ChangeShapes Go.WideShapes Go.ChangeAt Go.RowKit
set_option linter.unusedVariables false
set_option maxRecDepth 20000

section
variable {H : Type} {enc : TypeId × Value → H} {P : Program} {w : World} {base : Nat} {spare : Nat → Bool} {held : Bool}
def byteOf : Value → UInt8 | .int _ x => UInt8.ofNat x.toNat | _ => 0
theorem cell_bytes {t e : TypeId} {k n : Nat} {cs : List Value} (ht : P.underlying t = some (.array k e)) (he : P.underlying e = some (.int .u8)) (hc : P.cellsOf e = 1) (hl : P.cellsOf t = k)
  (h : ∃ y, DataW.trod enc P w base spare held n t cs = some y) : ∃ l : List UInt8, cs = bv l ∧ l.length = k := by
 obtain ⟨y, h⟩ := h
 obtain ⟨xs, m, _, _, hcs, hx, hi⟩ := DataW.trod_array ht h
 rw [hl] at hcs
 refine ⟨cs.map byteOf, ?_, by simp [hcs]⟩
 apply List.ext_getElem (by simp [bv])
 intro i h1 h2
 have hik : i < k := by omega
 have hp := hi i hik
 rw [hc, Nat.mul_one, List.drop_eq_getElem_cons h1, List.take_succ_cons, List.take_zero, List.getElem?_eq_getElem (by omega)] at hp
 obtain ⟨x, hv, hw⟩ := cell_int he ⟨_, hp⟩
 have hv' : cs[i] = .int .u8 x := by simpa using hv
 have hb := bd_u8 hw
 simp only [bv, List.getElem_map, hv', byteOf]
 rw [u8_of x hb.1 hb.2]
end
end Go.Proofs.Ytbemhcihmlijaaa

/- How prefixes, addresses and scripts of prefixes among a law's arguments are opened. No condition. -/
namespace Go.Proofs.Ytbemhcihmlijaaa
open Go.ChangeShapes Go.WideShapes Go.ChangeAt Go.RowKit Go.Deep
set_option linter.unusedVariables false
set_option maxRecDepth 20000

theorem cell_px {H : Type} {enc : TypeId × Value → H} {w : World} {base : Nat} {spare : Nat → Bool} {held : Bool} {n : Nat} {cs : List Value} (h : ∃ y, DataW.trod enc Try.prog w base spare held n 30 cs = some y) (hl : cs.length = 18) : ∃ p : Px, cs = p.cells ∧ p.fit := by
 obtain ⟨⟨d, ps⟩, h⟩ := h
 obtain ⟨ys, n', hn', hy, hlen, hyl, hf⟩ := DataW.trod_struct Try.underlying30 h
 have k8 : Try.prog.cellsOf 5 = 1 := by kernel_rfl
 have k3 : Try.prog.cellsOf 3 = 1 := by kernel_rfl
 have kb : Try.prog.cellsOf 4 = 1 := by kernel_rfl
 have k16 : Try.prog.cellsOf 28 = 16 := by kernel_rfl
 have hys : ∀ j, j < 3 → ∃ y, ys[j]? = some y := fun j hj => ⟨_, List.getElem?_eq_getElem (by have h9 : ys.length = 3 := hyl; omega)⟩
 have part : ∀ (j : Nat) f, (#[{ name := "Six", type := 4, offset := 0, embedded := false, tag := "", pkgPath := "", byteOffset := 0 }] : Array Field)[j]? = some f → True := fun _ _ _ => trivial
 obtain ⟨y0, hy0⟩ := hys 0 (by omega)
 obtain ⟨y1, hy1⟩ := hys 1 (by omega)
 obtain ⟨y2, hy2⟩ := hys 2 (by omega)
 have t0 := (hf 0 _ rfl).trans hy0
 have t1 := (hf 1 _ rfl).trans hy1
 have t2 := (hf 2 _ rfl).trans hy2
 obtain ⟨c0, r0, rfl, g1⟩ := len_cons hl
 obtain ⟨x0, e0⟩ := cell_bool Try.underlying4 ⟨_, t0⟩
 obtain ⟨s, e1, l1⟩ := cell_bytes Try.underlying28 Try.underlying5 k8 k16 ⟨_, t1⟩
 obtain ⟨x2, e2, q2⟩ := cell_int Try.underlying3 ⟨_, t2⟩
 obtain rfl : c0 = .bool x0 := by simpa [kb] using e0
 have e1' : r0.take 16 = bv s := by simpa [k16] using e1
 have e2' : (r0.drop 16).take 1 = [.int .i64 x2] := by simpa [k3] using e2
 have hr : r0 = bv s ++ [.int .i64 x2] := by
  have h5 : r0.drop 16 = [.int .i64 x2] := by rw [← e2']; exact (List.take_of_length_le (by simp; omega)).symm
  rw [← e1', ← h5, List.take_append_drop]
 subst hr
 exact ⟨⟨x0, s, x2⟩, rfl, ⟨l1, bd_i64 q2⟩⟩
theorem open_px {H : Type} {enc : TypeId × Value → H} {w : World} {base : Nat} {spare : Nat → Bool} {held : Bool} {r : Reach} {b0 : Nat} {v : Value} {d : DataW H} {ps : List MemPlace}
  (hv : Value.okWide Try.prog w r b0 30 v) (h : DataW.Trod enc Try.prog w base spare held 30 v d ps) : ∃ p : Px, v = .agg p.cells.toArray ∧ p.fit := by
 simp only [Value.okWide, Try.underlying30] at hv
 obtain ⟨cs, rfl, hz, _⟩ := hv
 obtain ⟨fuel, hf⟩ := h
 have hl : cs.size = 18 := by simpa [show Try.prog.cellsOf 30 = 18 by kernel_rfl] using hz
 obtain ⟨p, h1, h2⟩ := cell_px (cs := cs.toList) ⟨_, hf⟩ (by simpa using hl)
 refine ⟨p, ?_, h2⟩
 rw [← h1]
theorem open_a16 {H : Type} {enc : TypeId × Value → H} {w : World} {base : Nat} {spare : Nat → Bool} {held : Bool} {r : Reach} {b0 : Nat} {v : Value} {d : DataW H} {ps : List MemPlace}
  (hv : Value.okWide Try.prog w r b0 28 v) (h : DataW.Trod enc Try.prog w base spare held 28 v d ps) : ∃ l : List UInt8, v = .agg (bv l).toArray ∧ l.length = 16 := by
 simp only [Value.okWide, Try.underlying28] at hv
 obtain ⟨cs, rfl, _⟩ := hv
 obtain ⟨fuel, hf⟩ := h
 obtain ⟨l, h1, h2⟩ := cell_bytes Try.underlying28 Try.underlying5 (by kernel_rfl) (by kernel_rfl) ⟨_, hf⟩
 refine ⟨l, ?_, h2⟩
 rw [← h1]
 simp [Value.cells]
end Go.Proofs.Ytbemhcihmlijaaa


/- What is found of an address is the longest there (LpmLongest). No condition but sizes. -/
import Derived.Test.YtbemhcihmlijaaaG29
import Derived.Test.YtbemhcihmlijaaaG30
import Derived.Deep.DeepCutAuto
namespace Go.Proofs.Ytbemhcihmlijaaa
open Go.RowKit
set_option linter.unusedVariables false
set_option maxRecDepth 20000
set_option linter.unusedSimpArgs false

theorem has_mem {s : Bool} {L : List Itm} (h : Lok s L) {y : Itm} (hy : y ∈ L) : getC L y.1 = y.2 ∧ hasC L y.1 = true := by
 have hg := h.good y hy
 have h6 := h.six y hy
 obtain ⟨h1, h2, h3⟩ := lt_mid h hg h6
 rcases (h3 y).1 hy with e | ⟨e, hv⟩ | e
 ·have := h1 y e; rw [ltB_irrefl] at this; cases this
 ·have h9 := getC_same h hg.fit.addr h6
  rw [h9] at hv
  have h8 := hasC_same h hg.fit.addr h6
  exact ⟨(congrArg (·.2) hv).symm, h8.trans e⟩
 ·have := h2 y e; rw [ltB_irrefl] at this; cases this
/-- what a look finds -/
theorem look_facts {s : Bool} {L : List Itm} (h : Lok s L) (ad : List UInt8) : ∃ (y : Itm) (b : Bool), ansL' L ad = (y, b) ∧ y.1.fit ∧ (∀ x ∈ L, hasA x.1 ad = true → x.1.len ≤ y.1.len) ∧ L.any (fun x => hasA x.1 ad) = b ∧
  (b = true → y.1.good ∧ hasA y.1 ad = true ∧ getC L y.1 = y.2 ∧ hasC L y.1 = true) := by
 have hm := bestP_max ad L none (by simp)
 cases hB : bestP ad L none with
 | none =>
  have h1 := (hm.1 hB).2
  exact ⟨(Px.zero, 0), false, by unfold ansL'; rw [hB], ⟨rfl, by decide, by decide⟩, fun x hx e => (by rw [h1 x hx] at e; cases e), by rw [List.any_eq_false]; intro x hx; rw [h1 x hx]; exact Bool.false_ne_true, fun e => by cases e⟩
 | some y =>
  have hy := bestP_mem hB
  obtain ⟨_, h2, _, h3⟩ := hm.2 y hB
  obtain ⟨h4, h5⟩ := has_mem h hy
  exact ⟨y, true, by unfold ansL'; rw [hB], (h.good y hy).fit, h3, List.any_eq_true.2 ⟨y, hy, h2⟩, fun _ => ⟨h.good y hy, h2, h4, h5⟩⟩
/-- a table whose blocks all lie behind a bound -/
def TabB (w : World) (B : Nat) (o : Option Nat) (is six : Bool) (room : Int) (L : List Itm) (K : Nat) : Prop := ∃ S, TabO w S o is six room L K ∧ ∀ b, S b → B ≤ b
section
variable {w w' : World} {B : Nat} {o : Option Nat} {is six : Bool} {room : Int} {L : List Itm} {K : Nat}
theorem TabB.on (h : TabB w B o is six room L K) (hb : Below w.heap.size w w') : TabB w' B o is six room L K := by
 obtain ⟨S, h1, h2⟩ := h
 exact ⟨S, h1.on hb, h2⟩
theorem TabB.lok (h : TabB w B o is six room L K) : Lok six L := by
 obtain ⟨S, h1, h2⟩ := h
 exact h1.lok
theorem tput_B (h : TabB w B o is six room L K) (hB : B ≤ w.heap.size) (hK : K ≤ 999990) (p : Px) (hf : p.fit) (v : Int) :
  Calls Try.prog 11 #[ptV o, .agg p.cells.toArray, .int .i64 v] w fun e w' => e = .returned (.int .i64 (putR is six room L p v).2) ∧ TabB w' B o is six room (putR is six room L p v).1 (K + 2) ∧ Below B w w' := by
 obtain ⟨S, h1, h2⟩ := h
 refine (tput_O h1 hK p hf v).mono ?_
 rintro e w' ⟨rfl, h3, h4⟩
 exact ⟨rfl, ⟨_, h3, fun b hb => hb.elim (h2 b) (fun h9 => Nat.le_trans hB h9.1)⟩, h4.below hB h2⟩
theorem tget_B (h : TabB w B o is six room L K) (p : Px) (hf : p.fit) :
  Calls Try.prog 10 #[ptV o, .agg p.cells.toArray] w fun e w' => e = .returned (.tuple #[.int .i64 (getC L p), .bool (hasC L p)]) ∧ Below w.heap.size w w' := by
 obtain ⟨S, h1, h2⟩ := h
 exact tget_O h1 p hf
theorem tlook_B (h : TabB w B o is six room L K) (ad : List UInt8) (ha : ad.length = 16) :
  Calls Try.prog 14 #[ptV o, .agg (bv ad).toArray] w fun e w' => e = .returned (.tuple #[.agg (itC (ansL' L ad).1).toArray, .bool (ansL' L ad).2]) ∧ Below w.heap.size w w' := by
 obtain ⟨S, h1, h2⟩ := h
 exact tlook_O h1 ad ha
theorem tall_B (h : TabB w B o is six room L K) (hK : K ≤ 999990) :
  Calls Try.prog 12 #[ptV o] w fun e w' => ∃ A' c', e = .returned (.slice A' L.length c') ∧ Own w' w.heap.size 38 19 A' L.length c' (its L) ∧ Below w.heap.size w w' := by
 obtain ⟨S, h1, h2⟩ := h
 exact tall_O h1 hK
end
theorem blk_px {w : World} {g : Nat} {t : TypeId} {y : Itm} (h : Blk w g t (itC y)) (hy : y.1.addr.length = 16) : w.rangeAt g 0 y.1.cells := by
 have hr := h.range 0 18
 rw [List.drop_zero, show (itC y).take 18 = y.1.cells from List.take_left' (y.1.cells_length hy)] at hr
 exact hr
theorem st_at19 {w : World} {b o : Nat} {x : St9} (h : w.rangeAt b o x.cells) (hx : x.p.addr.length = 16) : w.cell? ⟨b, o + 19, none⟩ = some (.int .i64 x.v) := h 19 _ (st_v hx)
set_option maxHeartbeats 4000000 in
theorem walk_LpmLongest (w : World) (z : Sl9) (hz : z.ok w) (six : Bool) (ad : List UInt8) (ha : ad.length = 16) :
  Calls Try.prog 4 #[.slice z.A z.n z.c, .bool six, .agg (bv ad).toArray] w fun e w' => e = .returned (.bool true) ∧ Below w.heap.size w w' := by
 obtain ⟨A, n, c, Sc⟩ := z
 obtain ⟨hr, hle, hcap, hfit⟩ := hz
 simp only at hr hle hcap hfit ⊢
 have HR := Lib.hid hr
 have HF := Lib.hid hfit
 have HLN := Lib.hid (sts_row hr hfit)
 have HAL := Lib.hid ha
 clear hr hfit ha hle hcap
 go_enter Try.func4, Try.ntmps4
 go_upto_region 1 with (refine wpList_box_blk (by rfl) 28 (.tmp 2) rfl (bv ad) rfl ?_; intro w1 hb1 hB1 hs1; clear hs1)
 obtain ⟨g5, hg5⟩ : ∃ g, w.heap.size = g := ⟨_, rfl⟩
 have HW1 := Lib.hid hB1
 have h51 : g5 < w1.heap.size := by rw [← hg5]; exact hb1.lt
 have HG5 := Lib.hid h51
 have HWG := Lib.hid (show w.heap.size ≤ g5 by omega)
 rw [hg5] at hb1
 try rw [hg5]
 have HA1 := Lib.hid hb1
 clear hb1 hB1 hg5 h51
 go_wp2_with fail
 refine (awake_any w1).mono ?_
 rintro e w2 ⟨rfl, hb⟩
 have HA2 := Lib.hid (HA1.out.on hb)
 have HW2 := Lib.hid (bthen HW1.out hb)
 have HG2 := Lib.hid (show g5 < w2.heap.size from Nat.lt_of_lt_of_le HG5.out hb.size)
 clear hb
 by_cases h40 : (40 : Int) < (n : Int)
 ·go_wp2_with fail
  go_ret
  exact ⟨rfl, HW2.out⟩
 ·have HN40 := Lib.hid (show n ≤ 40 by omega)
  go_wp2_with fail
  refine (tnew_O six 50 w2).mono ?_
  rintro e w3 ⟨o, rfl, hne, hT, hb⟩
  have hTB : TabB w3 w2.heap.size o (!o.isNone) six 50 [] 1 := ⟨_, hT, fun b h9 => h9.elim False.elim (fun h => h.1)⟩
  obtain ⟨is, his⟩ : ∃ x, (!o.isNone) = x := ⟨_, rfl⟩
  rw [his] at hTB
  obtain ⟨B, hBe⟩ : ∃ x, w2.heap.size = x := ⟨_, rfl⟩
  have hb9 := hb
  rw [hBe] at hTB hb9
  have HT3 := Lib.hid hTB
  have HW3 := Lib.hid (bthen HW2.out hb)
  have HA3 := Lib.hid (HA2.out.on hb)
  have HGB := Lib.hid (show g5 < B by rw [← hBe]; exact HG2.out)
  have HB3 := Lib.hid (show B ≤ w3.heap.size by rw [← hBe]; exact hb.size)
  have HWB := Lib.hid (show w.heap.size ≤ B by rw [← hBe]; exact HW2.out.size)
  clear hb hb9 hTB hT hne his hBe
  go_wp2_with fail
  go_loopw [9] (fun i wr => ∃ (k : Nat) (L : List Itm) (K : Nat), k ≤ n ∧ i = .int .i64 (k : Nat) ∧ TabB wr B o is six 50 L K ∧ K ≤ 2 * k + 1 ∧ Below w.heap.size w wr ∧ Blk wr g5 28 (bv ad) ∧ B ≤ wr.heap.size) (fun i _ => n - (intOf i).toNat)
  case atStart => exact ⟨0, [], 1, by omega, rfl, HT3.out, by omega, HW3.out, HA3.out, HB3.out⟩
  case round =>
   obtain ⟨k, L, K, hk, rfl, hT, hK, hW, hA, hB⟩ := hrel
   have HT := Lib.hid hT
   have HW := Lib.hid hW
   have HA := Lib.hid hA
   have HB := Lib.hid hB
   have HK := Lib.hid hK
   clear hT hW hA hB hK
   by_cases hlt : k < n
   ·obtain ⟨s, hs⟩ := get_ex Sc (k := k) (by rw [HLN.out]; exact hlt)
    obtain ⟨bA, oA, rfl, hbA, hcA⟩ := sts_at HR.out HF.out k s hs
    have HSF := Lib.hid (HF.out s (List.mem_of_getElem? hs))
    have HSR := Lib.hid (range_below HW.out hbA hcA)
    have HBA := Lib.hid (show bA < wr.heap.size from Nat.lt_of_lt_of_le hbA HW.out.size)
    have hlt2 : (k : Int) < (n : Int) := by omega
    have hlt3 : (k : Int) + 1 ≤ (n : Int) := by omega
    have hn40 := HN40.out
    clear hbA hcA hs
    go_wp2_with fail
    refine wp_region_last 11 (fun A B => A.grownBy B none) (fun A => grown_refl A _) (fun A B C h k => grown_trans h k) (relAt (List.cons (fun v _ => v = ptV o) (List.cons (fun v _ => v = .slice (some ⟨bA, oA, none⟩) n c) (List.cons (fun v _ => v = .int .i64 (k : Int)) (List.cons (fun v _ => v = .pointer (some ⟨bA, oA + k * 20, none⟩)) (List.cons (fun v _ => v = .pointer (some ⟨bA, oA + k * 20 + 1, none⟩)) (List.cons (fun v _ => v = .agg s.p.cells.toArray) (List.cons (fun v _ => v = .slice (some ⟨bA, oA, none⟩) n c) (List.cons (fun v _ => v = .int .i64 (k : Int)) (List.cons (fun v _ => v = .pointer (some ⟨bA, oA + k * 20, none⟩)) (List.cons (fun v _ => v = .pointer (some ⟨bA, oA + k * 20 + 19, none⟩)) (List.cons (fun v _ => v = .int .i64 s.v) ([]))))))))))))) (MonoL.at_ (.cons (mono_val _) (.cons (mono_val _) (.cons (mono_val _) (.cons (mono_val _) (.cons (mono_val _) (.cons (mono_val _) (.cons (mono_val _) (.cons (mono_val _) (.cons (mono_val _) (.cons (mono_val _) (.cons (mono_val _) .nil)))))))))))) (by kernel_rfl) (by kernel_rfl) rfl (by kernel_rfl) _ rfl rfl ⟨?_, ?_, ?_, ?_, ?_, ?_, ?_, ?_, ?_, ?_, ?_, trivial⟩ ?_
    ·intro a vs W hX hR he hf K hK
     rw [if_pos (wanted_none rfl)]
     have e8 : a.eval (.tmp 8) = ptV o := hf 8 (by kernel_rfl)
     refine wp_value (v := ptV o) ?_ (hK _ _ rfl (grown_refl W _))
     simp only [execOp, e8]
     try go_simp
    ·intro a vs W hX hR he hf K hK
     rw [if_pos (wanted_none rfl)]
     have e0 : a.eval (.tmp 0) = .slice (some ⟨bA, oA, none⟩) n c := hf 0 (by kernel_rfl)
     refine wp_value (v := .slice (some ⟨bA, oA, none⟩) n c) ?_ (hK _ _ rfl (grown_refl W _))
     simp only [execOp, e0]
     try go_simp
    ·intro a vs W hX hR he hf K hK
     rw [if_pos (wanted_none rfl)]
     have e9 : a.eval (.tmp 9) = .int .i64 (k : Int) := hf 9 (by kernel_rfl)
     refine wp_value (v := .int .i64 (k : Int)) ?_ (hK _ _ rfl (grown_refl W _))
     simp only [execOp, e9]
     try go_simp
    ·intro a vs W hX hR he hf K hK
     rw [if_pos (wanted_none rfl)]
     have e33 : a.eval (.tmp 33) = .slice (some ⟨bA, oA, none⟩) n c := (he 1 33 (by kernel_rfl) rfl).trans (hR 1 (by kernel_rfl))
     have e34 : a.eval (.tmp 34) = .int .i64 (k : Int) := (he 2 34 (by kernel_rfl) rfl).trans (hR 2 (by kernel_rfl))
     refine wp_value (v := .pointer (some ⟨bA, oA + k * 20, none⟩)) ?_ (hK _ _ rfl (grown_refl W _))
     simp only [execOp, e33, e34]
     go_simp
    ·intro a vs W hX hR he hf K hK
     rw [if_pos (wanted_none rfl)]
     have e35 : a.eval (.tmp 35) = .pointer (some ⟨bA, oA + k * 20, none⟩) := (he 3 35 (by kernel_rfl) rfl).trans (hR 3 (by kernel_rfl))
     refine wp_value (v := .pointer (some ⟨bA, oA + k * 20 + 1, none⟩)) ?_ (hK _ _ rfl (grown_refl W _))
     simp only [execOp, e35]
     try go_simp
    ·intro a vs W hX hR he hf K hK
     rw [if_pos (wanted_none rfl)]
     have e36 : a.eval (.tmp 36) = .pointer (some ⟨bA, oA + k * 20 + 1, none⟩) := (he 4 36 (by kernel_rfl) rfl).trans (hR 4 (by kernel_rfl))
     have hbW := bthen (below_drew _) (grow_below hX)
     exact wp_value (exec_load_mid 30 _ rfl bA (oA + k * 20 + 1) e36 s.p.cells _ (range_below hbW HBA.out (st_px HSR.out)) Try.underlying30 rfl (sizePx _ HSF.out.p.addr)) (hK _ _ rfl (grown_refl W _))
    ·intro a vs W hX hR he hf K hK
     rw [if_pos (wanted_none rfl)]
     have e0 : a.eval (.tmp 0) = .slice (some ⟨bA, oA, none⟩) n c := hf 0 (by kernel_rfl)
     refine wp_value (v := .slice (some ⟨bA, oA, none⟩) n c) ?_ (hK _ _ rfl (grown_refl W _))
     simp only [execOp, e0]
     try go_simp
    ·intro a vs W hX hR he hf K hK
     rw [if_pos (wanted_none rfl)]
     have e9 : a.eval (.tmp 9) = .int .i64 (k : Int) := hf 9 (by kernel_rfl)
     refine wp_value (v := .int .i64 (k : Int)) ?_ (hK _ _ rfl (grown_refl W _))
     simp only [execOp, e9]
     try go_simp
    ·intro a vs W hX hR he hf K hK
     rw [if_pos (wanted_none rfl)]
     have e38 : a.eval (.tmp 38) = .slice (some ⟨bA, oA, none⟩) n c := (he 6 38 (by kernel_rfl) rfl).trans (hR 6 (by kernel_rfl))
     have e39 : a.eval (.tmp 39) = .int .i64 (k : Int) := (he 7 39 (by kernel_rfl) rfl).trans (hR 7 (by kernel_rfl))
     refine wp_value (v := .pointer (some ⟨bA, oA + k * 20, none⟩)) ?_ (hK _ _ rfl (grown_refl W _))
     simp only [execOp, e38, e39]
     go_simp
    ·intro a vs W hX hR he hf K hK
     rw [if_pos (wanted_none rfl)]
     have e40 : a.eval (.tmp 40) = .pointer (some ⟨bA, oA + k * 20, none⟩) := (he 8 40 (by kernel_rfl) rfl).trans (hR 8 (by kernel_rfl))
     refine wp_value (v := .pointer (some ⟨bA, oA + k * 20 + 19, none⟩)) ?_ (hK _ _ rfl (grown_refl W _))
     simp only [execOp, e40]
     try go_simp
    ·intro a vs W hX hR he hf K hK
     rw [if_pos (wanted_none rfl)]
     have e41 : a.eval (.tmp 41) = .pointer (some ⟨bA, oA + k * 20 + 19, none⟩) := (he 9 41 (by kernel_rfl) rfl).trans (hR 9 (by kernel_rfl))
     have hbW := bthen (below_drew _) (grow_below hX)
     have hc : W.cell? ⟨bA, oA + k * 20 + 19, none⟩ = some (.int .i64 s.v) := st_at19 (range_below hbW HBA.out HSR.out) HSF.out.p.addr
     refine wp_value (v := _) ?_ (hK _ _ rfl (grown_refl W _))
     simp only [execOp, e41]
     try go_simp
    ·intro vs wx hXx hR
     have q0 := hR 0 (by decide)
     have q1 := hR 1 (by decide)
     have q2 := hR 2 (by decide)
     have q3 := hR 3 (by decide)
     have q4 := hR 4 (by decide)
     have q5 := hR 5 (by decide)
     have q6 := hR 6 (by decide)
     have q7 := hR 7 (by decide)
     have q8 := hR 8 (by decide)
     have q9 := hR 9 (by decide)
     have q10 := hR 10 (by decide)
     change vs 0 = ptV o at q0
     change vs 1 = .slice (some ⟨bA, oA, none⟩) n c at q1
     change vs 2 = .int .i64 (k : Int) at q2
     change vs 3 = .pointer (some ⟨bA, oA + k * 20, none⟩) at q3
     change vs 4 = .pointer (some ⟨bA, oA + k * 20 + 1, none⟩) at q4
     change vs 5 = .agg s.p.cells.toArray at q5
     change vs 6 = .slice (some ⟨bA, oA, none⟩) n c at q6
     change vs 7 = .int .i64 (k : Int) at q7
     change vs 8 = .pointer (some ⟨bA, oA + k * 20, none⟩) at q8
     change vs 9 = .pointer (some ⟨bA, oA + k * 20 + 19, none⟩) at q9
     change vs 10 = .int .i64 s.v at q10
     simp only [putAll, Act.put, List.setIfInBounds_toArray, List.set_cons_zero, List.set_cons_succ, List.take_succ_cons, List.take_zero, q0, q1, q2, q3, q4, q5, q6, q7, q8, q9, q10]
     clear q0 q1 q2 q3 q4 q5 q6 q7 q8 q9 q10
     clear hR
     have hbW := bthen (below_drew _) (grow_below hXx)
     have hT9 := tput_B (HT.out.on hbW) (Nat.le_trans HB.out hbW.size) (by have := HK.out; omega) s.p HSF.out.p s.v
     refine wp_enter (f := 11) (args := #[ptV o, .agg s.p.cells.toArray, .int .i64 s.v]) (by simp only [execOp]; go_simp) (hT9.mono ?_)
     rintro e wy ⟨rfl, hTy, hby⟩
     refine ⟨_, rfl, ?_⟩
     clear hT9
     have hwy := (bthen HW.out hbW).trans (hby.mono HWB.out)
     have hay := (HA.out.on hbW).below (B := B) hby HGB.out
     have hsy := Nat.le_trans (Nat.le_trans HB.out hbW.size) hby.size
     clear hbW hby hXx
     try simp only [List.getElem_toArray, List.getElem_cons_succ, List.getElem_cons_zero, Act.put, List.setIfInBounds_toArray, List.set_cons_zero, List.set_cons_succ]
     go_wp2_with fail
     go_roundw
     case rel => exact ⟨k + 1, _, K + 2, by omega, by simp, hTy, by have := HK.out; omega, hwy, hay, hsy⟩
     case measure => simp [intOf]; omega
   ·obtain rfl : k = n := by omega
    obtain ⟨y, b, hans, hyf, hmax, hany, hyes⟩ := look_facts HT.out.lok ad
    have HYF := Lib.hid hyf
    have HMX := Lib.hid hmax
    have HAN := Lib.hid hany
    have HYE := Lib.hid hyes
    have HLK := Lib.hid HT.out.lok
    have hk999 : K ≤ 999990 := by have := HK.out; have := HN40.out; omega
    have HK9 := Lib.hid hk999
    clear hyf hmax hany hyes hk999
    go_wp2_with (refine wpList_value (by rfl) (exec_load 28 _ rfl g5 (by rfl) 28 (bv ad) _ HA.out Try.underlying28 rfl (size16 _ HAL.out)) ?_)
    refine (tlook_B HT.out ad HAL.out).mono ?_
    rintro e w4 ⟨rfl, hb⟩
    rw [hans]
    clear hans
    have HT4 := Lib.hid (HT.out.on hb)
    have HW4 := Lib.hid (bthen HW.out hb)
    have HA4 := Lib.hid (HA.out.on hb)
    clear hb
    go_upto_region 12 with (first
     | (refine wpList_alloc_blk (by rfl) 38 rfl (itC (Px.zero, 0)) zeroIt ?_; intro wa hba hBa hsa)
     | (refine wpList_store_all (by rfl) 38 _ _ rfl w4.heap.size (itC y) rfl rfl 38 _ hba (sizeIt _ HYF.out.addr) (by rw [itC_length y HYF.out.addr]; rfl) (oneIt _) ?_; intro w5 hb5 hg5 hs5))
    have hbb := (bgrown hBa hg5 hBa.size (Nat.le_refl _))
    have HT5 := Lib.hid (HT4.out.on hbb)
    have HW5 := Lib.hid (bthen HW4.out hbb)
    have HA5 := Lib.hid (HA4.out.on hbb)
    obtain ⟨g10, hg10⟩ : ∃ g, w4.heap.size = g := ⟨_, rfl⟩
    rw [hg10] at hb5
    try rw [hg10]
    have HD5 := Lib.hid hb5
    clear hba hBa hsa hb5 hg5 hs5 hbb hg10
    go_wp2_with fail
    refine (tall_B HT5.out HK9.out).mono ?_
    rintro e w6 ⟨A2, c2, rfl, hO, hb⟩
    obtain ⟨m, hm⟩ : ∃ m, L.length = m := ⟨_, rfl⟩
    rw [hm] at hO
    try rw [hm]
    have HLM := Lib.hid hm
    have HR6 := Lib.hid hO.row
    have HT6 := Lib.hid (HT5.out.on hb)
    have HW6 := Lib.hid (bthen HW5.out hb)
    have HA6 := Lib.hid (HA5.out.on hb)
    have HD6 := Lib.hid (HD5.out.on hb)
    have hm9 : m < 9223372036854775000 := by
     have h9 : L.length ≤ K := by obtain ⟨S, h1, h2⟩ := HT.out; exact h1.len
     have := HK9.out; omega
    have HM9 := Lib.hid hm9
    clear hO hb hm hm9
    go_wp2_with fail
    go_loopw [13, 14, 15] (fun sm i hs wr => ∃ (k : Nat), k ≤ m ∧ i = .int .i64 (k : Nat) ∧ sm = .bool ((L.take k).any fun x => hasA x.1 ad) ∧ Below w6.heap.size w6 wr) (fun sm i hs _ => m - (intOf i).toNat)
    case atStart => exact ⟨0, by omega, rfl, rfl, Below.refl _ _⟩
    case round =>
     obtain ⟨k, hk, rfl, rfl, hbe⟩ := hrel
     have hBE := Lib.hid hbe
     have HT := Lib.hid (HT6.out.on hbe)
     have HW := Lib.hid (bthen HW6.out hbe)
     have HA := Lib.hid (HA6.out.on hbe)
     have HD := Lib.hid (HD6.out.on hbe)
     by_cases hlt : k < m
     ·obtain ⟨x, hx⟩ := get_ex L (k := k) (by rw [HLM.out]; exact hlt)
      obtain ⟨bM, oM, rfl, hbM, hcM⟩ := its_at2 HR6.out (fun x hx => (HLK.out.good x hx).fit) k x hx
      have HXG := Lib.hid (HLK.out.good x (List.mem_of_getElem? hx))
      have HXF := Lib.hid HXG.out.fit
      have HXM := Lib.hid (range_below hbe hbM hcM)
      have HBM := Lib.hid (show bM < wr.heap.size from Nat.lt_of_lt_of_le hbM hbe.size)
      have hlt2 : (k : Int) < (m : Int) := by omega
      have hlt3 : (k : Int) + 1 ≤ (m : Int) := by omega
      have hmm := HM9.out
      have HTK := Lib.hid (show ((L.take (k + 1)).any fun x => hasA x.1 ad) = (((L.take k).any fun x => hasA x.1 ad) || hasA x.1 ad) by rw [take_snoc L k x hx, List.any_append]; simp)
      have HXL := Lib.hid (HMX.out x (List.mem_of_getElem? hx))
      clear hbM hcM hx hbe
      cases hp : (L.take k).any fun x => hasA x.1 ad
      ·cases hh : hasA x.1 ad
       ·have HH := Lib.hid hh
        have HNX := Lib.hid (show ((L.take (k + 1)).any fun x => hasA x.1 ad) = false by rw [HTK.out, hp, hh]; rfl)
        clear hh hp
        go_wp2_with fail
        refine wp_region_rel (fun A B => A.grownBy B none) (fun A => grown_refl A _) (fun A B C h k => grown_trans h k) (relAt (List.cons (fun v _ => v = .slice (some ⟨bM, oM, none⟩) m c2) (List.cons (fun v _ => v = .int .i64 (k : Int)) (List.cons (fun v _ => v = .pointer (some ⟨bM, oM + k * 19, none⟩)) (List.cons (fun v _ => v = .pointer (some ⟨bM, oM + k * 19, none⟩)) (List.cons (fun v _ => v = .agg x.1.cells.toArray) (List.cons (fun v _ => v = .agg (bv ad).toArray) (List.cons (fun v _ => v = .bool false) (List.cons (fun v _ => v = .bool false) ([])))))))))) (MonoL.at_ (.cons (mono_val _) (.cons (mono_val _) (.cons (mono_val _) (.cons (mono_val _) (.cons (mono_val _) (.cons (mono_val _) (.cons (mono_val _) (.cons (mono_val _) .nil))))))))) (by kernel_rfl) (by kernel_rfl) ⟨?_, ?_, ?_, ?_, ?_, ?_, ?_, ?_, trivial⟩ ?_
        ·intro a vs W hX hR he hf K hK
         rw [if_pos (wanted_none rfl)]
         have e12 : a.eval (.tmp 12) = .slice (some ⟨bM, oM, none⟩) m c2 := hf 12 (by kernel_rfl)
         refine wp_value (v := .slice (some ⟨bM, oM, none⟩) m c2) ?_ (hK _ _ rfl (grown_refl W _))
         simp only [execOp, e12]
         try go_simp
        ·intro a vs W hX hR he hf K hK
         rw [if_pos (wanted_none rfl)]
         have e14 : a.eval (.tmp 14) = .int .i64 (k : Int) := hf 14 (by kernel_rfl)
         refine wp_value (v := .int .i64 (k : Int)) ?_ (hK _ _ rfl (grown_refl W _))
         simp only [execOp, e14]
         try go_simp
        ·intro a vs W hX hR he hf K hK
         rw [if_pos (wanted_none rfl)]
         have e58 : a.eval (.tmp 58) = .slice (some ⟨bM, oM, none⟩) m c2 := (he 0 58 (by kernel_rfl) rfl).trans (hR 0 (by kernel_rfl))
         have e59 : a.eval (.tmp 59) = .int .i64 (k : Int) := (he 1 59 (by kernel_rfl) rfl).trans (hR 1 (by kernel_rfl))
         refine wp_value (v := .pointer (some ⟨bM, oM + k * 19, none⟩)) ?_ (hK _ _ rfl (grown_refl W _))
         simp only [execOp, e58, e59]
         go_simp
        ·intro a vs W hX hR he hf K hK
         rw [if_pos (wanted_none rfl)]
         have e60 : a.eval (.tmp 60) = .pointer (some ⟨bM, oM + k * 19, none⟩) := (he 2 60 (by kernel_rfl) rfl).trans (hR 2 (by kernel_rfl))
         refine wp_value (v := .pointer (some ⟨bM, oM + k * 19, none⟩)) ?_ (hK _ _ rfl (grown_refl W _))
         simp only [execOp, e60]
         try go_simp
        ·intro a vs W hX hR he hf K hK
         rw [if_pos (wanted_none rfl)]
         have e61 : a.eval (.tmp 61) = .pointer (some ⟨bM, oM + k * 19, none⟩) := (he 3 61 (by kernel_rfl) rfl).trans (hR 3 (by kernel_rfl))
         have hbW := bthen (below_drew _) (grow_below hX)
         exact wp_value (exec_load_mid 30 _ rfl bM (oM + k * 19) e61 x.1.cells _ (range_below hbW HBM.out (it_px HXM.out)) Try.underlying30 rfl (sizePx _ HXF.out.addr)) (hK _ _ rfl (grown_refl W _))
        ·intro a vs W hX hR he hf K hK
         rw [if_pos (wanted_none rfl)]
         have e5 : a.eval (.tmp 5) = .pointer (some ⟨g5, 0, none⟩) := hf 5 (by kernel_rfl)
         have hbW := bthen (below_drew _) (grow_below hX)
         exact wp_value (exec_load 28 _ rfl g5 e5 28 (bv ad) _ (HA.out.on hbW) Try.underlying28 rfl (size16 _ HAL.out)) (hK _ _ rfl (grown_refl W _))
        ·intro a vs W hX hR he hf K hK
         rw [if_pos (wanted_none rfl)]
         have e62 : a.eval (.tmp 62) = .agg x.1.cells.toArray := (he 4 62 (by kernel_rfl) rfl).trans (hR 4 (by kernel_rfl))
         have e63 : a.eval (.tmp 63) = .agg (bv ad).toArray := (he 5 63 (by kernel_rfl) rfl).trans (hR 5 (by kernel_rfl))
         refine wp_enter (f := 15) (args := #[.agg x.1.cells.toArray, .agg (bv ad).toArray]) (by simp only [execOp, e62, e63]; go_simp; exact ⟨by simpa [Act.eval] using e62, by simpa [Act.eval] using e63⟩) ((rhas_any x.1 HXG.out ad HAL.out W).mono ?_)
         rintro e w' ⟨rfl, hb⟩
         rw [HH.out]
         exact ⟨_, rfl, hK _ _ rfl (below_grow hb _)⟩
        ·intro a vs W hX hR he hf K hK
         rw [if_pos (wanted_none rfl)]
         have e64 : a.eval (.tmp 64) = .bool false := (he 6 64 (by kernel_rfl) rfl).trans (hR 6 (by kernel_rfl))
         refine wp_value (v := .bool false) ?_ (hK _ _ rfl (grown_refl W _))
         simp only [execOp, e64]
         try go_simp
        ·intro vs wx hXx hR
         have q0 := hR 0 (by decide)
         have q1 := hR 1 (by decide)
         have q2 := hR 2 (by decide)
         have q3 := hR 3 (by decide)
         have q4 := hR 4 (by decide)
         have q5 := hR 5 (by decide)
         have q6 := hR 6 (by decide)
         have q7 := hR 7 (by decide)
         change vs 0 = .slice (some ⟨bM, oM, none⟩) m c2 at q0
         change vs 1 = .int .i64 (k : Int) at q1
         change vs 2 = .pointer (some ⟨bM, oM + k * 19, none⟩) at q2
         change vs 3 = .pointer (some ⟨bM, oM + k * 19, none⟩) at q3
         change vs 4 = .agg x.1.cells.toArray at q4
         change vs 5 = .agg (bv ad).toArray at q5
         change vs 6 = .bool false at q6
         change vs 7 = .bool false at q7
         simp only [putAll, Act.put, List.setIfInBounds_toArray, List.set_cons_zero, List.set_cons_succ, q0, q1, q2, q3, q4, q5, q6, q7]
         clear q0 q1 q2 q3 q4 q5 q6 q7
         clear hR
         replace hBE := Lib.hid (hBE.out.trans ((bthen (below_drew _) (grow_below hXx)).mono hBE.out.size))
         replace HA := Lib.hid (HA.out.on (bthen (below_drew _) (grow_below hXx)))
         replace HD := Lib.hid (HD.out.on (bthen (below_drew _) (grow_below hXx)))
         replace HXM := Lib.hid (range_below (bthen (below_drew _) (grow_below hXx)) HBM.out HXM.out)
         replace HBM := Lib.hid (Nat.lt_of_lt_of_le HBM.out (bthen (below_drew _) (grow_below hXx)).size)
         clear hXx
         go_wp2_with fail
         refine wp_region_rel (fun A B => A.grownBy B none) (fun A => grown_refl A _) (fun A B C h k => grown_trans h k) (relAt (List.cons (fun v _ => v = .bool false) (List.cons (fun v _ => v = .bool false) (List.cons (fun v _ => v = undef) (List.cons (fun v _ => v = undef) (List.cons (fun v _ => v = undef) (List.cons (fun v _ => v = undef) (List.cons (fun v _ => v = undef) (List.cons (fun v _ => v = undef) (List.cons (fun v _ => v = undef) (List.cons (fun v _ => v = undef) (List.cons (fun v _ => v = undef) (List.cons (fun v _ => v = undef) (List.cons (fun v _ => v = .bool false) ([]))))))))))))))) (MonoL.at_ (.cons (mono_val _) (.cons (mono_val _) (.cons (mono_val _) (.cons (mono_val _) (.cons (mono_val _) (.cons (mono_val _) (.cons (mono_val _) (.cons (mono_val _) (.cons (mono_val _) (.cons (mono_val _) (.cons (mono_val _) (.cons (mono_val _) (.cons (mono_val _) .nil)))))))))))))) (by kernel_rfl) (by kernel_rfl) ⟨?_, ?_, ?_, ?_, ?_, ?_, ?_, ?_, ?_, ?_, ?_, ?_, ?_, trivial⟩ ?_
         ·intro a vs W hX hR he hf K hK
          rw [if_pos (wanted_none rfl)]
          have e15 : a.eval (.tmp 15) = .bool false := hf 15 (by kernel_rfl)
          refine wp_value (v := .bool false) ?_ (hK _ _ rfl (grown_refl W _))
          simp only [execOp, e15]
          try go_simp
         ·intro a vs W hX hR he hf K hK
          rw [if_pos (wanted_none rfl)]
          have e69 : a.eval (.tmp 69) = .bool false := (he 0 69 (by kernel_rfl) rfl).trans (hR 0 (by kernel_rfl))
          refine wp_value (v := .bool false) ?_ (hK _ _ rfl (grown_refl W _))
          simp only [execOp, e69]
          try go_simp
         ·intro a vs W hX hR he hf K hK
          have e70 : a.eval (.tmp 70) = .bool false := (he 1 70 (by kernel_rfl) rfl).trans (hR 1 (by kernel_rfl))
          refine Eq.mpr (if_neg (fun hz => Bool.false_ne_true (Eq.trans (by exact Eq.symm ((wanted_some rfl rfl e70).trans rfl)) hz))) ?_
          exact hK _ _ rfl (grown_refl W _)
         ·intro a vs W hX hR he hf K hK
          have e70 : a.eval (.tmp 70) = .bool false := (he 1 70 (by kernel_rfl) rfl).trans (hR 1 (by kernel_rfl))
          refine Eq.mpr (if_neg (fun hz => Bool.false_ne_true (Eq.trans (by exact Eq.symm ((wanted_some rfl rfl e70).trans rfl)) hz))) ?_
          exact hK _ _ rfl (grown_refl W _)
         ·intro a vs W hX hR he hf K hK
          have e70 : a.eval (.tmp 70) = .bool false := (he 1 70 (by kernel_rfl) rfl).trans (hR 1 (by kernel_rfl))
          refine Eq.mpr (if_neg (fun hz => Bool.false_ne_true (Eq.trans (by exact Eq.symm ((wanted_some rfl rfl e70).trans rfl)) hz))) ?_
          exact hK _ _ rfl (grown_refl W _)
         ·intro a vs W hX hR he hf K hK
          have e70 : a.eval (.tmp 70) = .bool false := (he 1 70 (by kernel_rfl) rfl).trans (hR 1 (by kernel_rfl))
          refine Eq.mpr (if_neg (fun hz => Bool.false_ne_true (Eq.trans (by exact Eq.symm ((wanted_some rfl rfl e70).trans rfl)) hz))) ?_
          exact hK _ _ rfl (grown_refl W _)
         ·intro a vs W hX hR he hf K hK
          have e70 : a.eval (.tmp 70) = .bool false := (he 1 70 (by kernel_rfl) rfl).trans (hR 1 (by kernel_rfl))
          refine Eq.mpr (if_neg (fun hz => Bool.false_ne_true (Eq.trans (by exact Eq.symm ((wanted_some rfl rfl e70).trans rfl)) hz))) ?_
          exact hK _ _ rfl (grown_refl W _)
         ·intro a vs W hX hR he hf K hK
          have e70 : a.eval (.tmp 70) = .bool false := (he 1 70 (by kernel_rfl) rfl).trans (hR 1 (by kernel_rfl))
          refine Eq.mpr (if_neg (fun hz => Bool.false_ne_true (Eq.trans (by exact Eq.symm ((wanted_some rfl rfl e70).trans rfl)) hz))) ?_
          exact hK _ _ rfl (grown_refl W _)
         ·intro a vs W hX hR he hf K hK
          have e70 : a.eval (.tmp 70) = .bool false := (he 1 70 (by kernel_rfl) rfl).trans (hR 1 (by kernel_rfl))
          refine Eq.mpr (if_neg (fun hz => Bool.false_ne_true (Eq.trans (by exact Eq.symm ((wanted_some rfl rfl e70).trans rfl)) hz))) ?_
          exact hK _ _ rfl (grown_refl W _)
         ·intro a vs W hX hR he hf K hK
          have e70 : a.eval (.tmp 70) = .bool false := (he 1 70 (by kernel_rfl) rfl).trans (hR 1 (by kernel_rfl))
          refine Eq.mpr (if_neg (fun hz => Bool.false_ne_true (Eq.trans (by exact Eq.symm ((wanted_some rfl rfl e70).trans rfl)) hz))) ?_
          exact hK _ _ rfl (grown_refl W _)
         ·intro a vs W hX hR he hf K hK
          have e70 : a.eval (.tmp 70) = .bool false := (he 1 70 (by kernel_rfl) rfl).trans (hR 1 (by kernel_rfl))
          refine Eq.mpr (if_neg (fun hz => Bool.false_ne_true (Eq.trans (by exact Eq.symm ((wanted_some rfl rfl e70).trans rfl)) hz))) ?_
          exact hK _ _ rfl (grown_refl W _)
         ·intro a vs W hX hR he hf K hK
          have e70 : a.eval (.tmp 70) = .bool false := (he 1 70 (by kernel_rfl) rfl).trans (hR 1 (by kernel_rfl))
          refine Eq.mpr (if_neg (fun hz => Bool.false_ne_true (Eq.trans (by exact Eq.symm ((wanted_some rfl rfl e70).trans rfl)) hz))) ?_
          exact hK _ _ rfl (grown_refl W _)
         ·intro a vs W hX hR he hf K hK
          rw [if_pos (wanted_none rfl)]
          have e70 : a.eval (.tmp 70) = .bool false := (he 1 70 (by kernel_rfl) rfl).trans (hR 1 (by kernel_rfl))
          have e80 : a.eval (.tmp 80) = undef := (he 11 80 (by kernel_rfl) rfl).trans (hR 11 (by kernel_rfl))
          refine wp_value (v := .bool false) ?_ (hK _ _ rfl (grown_refl W _))
          simp only [execOp, e70, e80]
          try go_simp
         ·intro vs wy hXx hR
          have q0 := hR 0 (by decide)
          have q1 := hR 1 (by decide)
          have q2 := hR 2 (by decide)
          have q3 := hR 3 (by decide)
          have q4 := hR 4 (by decide)
          have q5 := hR 5 (by decide)
          have q6 := hR 6 (by decide)
          have q7 := hR 7 (by decide)
          have q8 := hR 8 (by decide)
          have q9 := hR 9 (by decide)
          have q10 := hR 10 (by decide)
          have q11 := hR 11 (by decide)
          have q12 := hR 12 (by decide)
          change vs 0 = .bool false at q0
          change vs 1 = .bool false at q1
          change vs 2 = undef at q2
          change vs 3 = undef at q3
          change vs 4 = undef at q4
          change vs 5 = undef at q5
          change vs 6 = undef at q6
          change vs 7 = undef at q7
          change vs 8 = undef at q8
          change vs 9 = undef at q9
          change vs 10 = undef at q10
          change vs 11 = undef at q11
          change vs 12 = .bool false at q12
          simp only [putAll, Act.put, List.setIfInBounds_toArray, List.set_cons_zero, List.set_cons_succ, q0, q1, q2, q3, q4, q5, q6, q7, q8, q9, q10, q11, q12]
          clear q0 q1 q2 q3 q4 q5 q6 q7 q8 q9 q10 q11 q12
          clear hR
          replace hBE := Lib.hid (hBE.out.trans ((bthen (below_drew _) (grow_below hXx)).mono hBE.out.size))
          replace HA := Lib.hid (HA.out.on (bthen (below_drew _) (grow_below hXx)))
          replace HD := Lib.hid (HD.out.on (bthen (below_drew _) (grow_below hXx)))
          replace HXM := Lib.hid (range_below (bthen (below_drew _) (grow_below hXx)) HBM.out HXM.out)
          replace HBM := Lib.hid (Nat.lt_of_lt_of_le HBM.out (bthen (below_drew _) (grow_below hXx)).size)
          clear hXx
          go_wp2_with fail
          go_roundw
          case rel => exact ⟨k + 1, by omega, by simp, by rw [HNX.out], hBE.out⟩
          case measure => simp [intOf]; omega
       ·have HH := Lib.hid hh
        have HLE := Lib.hid (HXL.out hh)
        have HNX := Lib.hid (show ((L.take (k + 1)).any fun x => hasA x.1 ad) = true by rw [HTK.out, hp, hh]; rfl)
        clear hh hp
        go_wp2_with fail
        refine wp_region_rel (fun A B => A.grownBy B none) (fun A => grown_refl A _) (fun A B C h k => grown_trans h k) (relAt (List.cons (fun v _ => v = .slice (some ⟨bM, oM, none⟩) m c2) (List.cons (fun v _ => v = .int .i64 (k : Int)) (List.cons (fun v _ => v = .pointer (some ⟨bM, oM + k * 19, none⟩)) (List.cons (fun v _ => v = .pointer (some ⟨bM, oM + k * 19, none⟩)) (List.cons (fun v _ => v = .agg x.1.cells.toArray) (List.cons (fun v _ => v = .agg (bv ad).toArray) (List.cons (fun v _ => v = .bool true) (List.cons (fun v _ => v = .bool true) ([])))))))))) (MonoL.at_ (.cons (mono_val _) (.cons (mono_val _) (.cons (mono_val _) (.cons (mono_val _) (.cons (mono_val _) (.cons (mono_val _) (.cons (mono_val _) (.cons (mono_val _) .nil))))))))) (by kernel_rfl) (by kernel_rfl) ⟨?_, ?_, ?_, ?_, ?_, ?_, ?_, ?_, trivial⟩ ?_
        ·intro a vs W hX hR he hf K hK
         rw [if_pos (wanted_none rfl)]
         have e12 : a.eval (.tmp 12) = .slice (some ⟨bM, oM, none⟩) m c2 := hf 12 (by kernel_rfl)
         refine wp_value (v := .slice (some ⟨bM, oM, none⟩) m c2) ?_ (hK _ _ rfl (grown_refl W _))
         simp only [execOp, e12]
         try go_simp
        ·intro a vs W hX hR he hf K hK
         rw [if_pos (wanted_none rfl)]
         have e14 : a.eval (.tmp 14) = .int .i64 (k : Int) := hf 14 (by kernel_rfl)
         refine wp_value (v := .int .i64 (k : Int)) ?_ (hK _ _ rfl (grown_refl W _))
         simp only [execOp, e14]
         try go_simp
        ·intro a vs W hX hR he hf K hK
         rw [if_pos (wanted_none rfl)]
         have e58 : a.eval (.tmp 58) = .slice (some ⟨bM, oM, none⟩) m c2 := (he 0 58 (by kernel_rfl) rfl).trans (hR 0 (by kernel_rfl))
         have e59 : a.eval (.tmp 59) = .int .i64 (k : Int) := (he 1 59 (by kernel_rfl) rfl).trans (hR 1 (by kernel_rfl))
         refine wp_value (v := .pointer (some ⟨bM, oM + k * 19, none⟩)) ?_ (hK _ _ rfl (grown_refl W _))
         simp only [execOp, e58, e59]
         go_simp
        ·intro a vs W hX hR he hf K hK
         rw [if_pos (wanted_none rfl)]
         have e60 : a.eval (.tmp 60) = .pointer (some ⟨bM, oM + k * 19, none⟩) := (he 2 60 (by kernel_rfl) rfl).trans (hR 2 (by kernel_rfl))
         refine wp_value (v := .pointer (some ⟨bM, oM + k * 19, none⟩)) ?_ (hK _ _ rfl (grown_refl W _))
         simp only [execOp, e60]
         try go_simp
        ·intro a vs W hX hR he hf K hK
         rw [if_pos (wanted_none rfl)]
         have e61 : a.eval (.tmp 61) = .pointer (some ⟨bM, oM + k * 19, none⟩) := (he 3 61 (by kernel_rfl) rfl).trans (hR 3 (by kernel_rfl))
         have hbW := bthen (below_drew _) (grow_below hX)
         exact wp_value (exec_load_mid 30 _ rfl bM (oM + k * 19) e61 x.1.cells _ (range_below hbW HBM.out (it_px HXM.out)) Try.underlying30 rfl (sizePx _ HXF.out.addr)) (hK _ _ rfl (grown_refl W _))
        ·intro a vs W hX hR he hf K hK
         rw [if_pos (wanted_none rfl)]
         have e5 : a.eval (.tmp 5) = .pointer (some ⟨g5, 0, none⟩) := hf 5 (by kernel_rfl)
         have hbW := bthen (below_drew _) (grow_below hX)
         exact wp_value (exec_load 28 _ rfl g5 e5 28 (bv ad) _ (HA.out.on hbW) Try.underlying28 rfl (size16 _ HAL.out)) (hK _ _ rfl (grown_refl W _))
        ·intro a vs W hX hR he hf K hK
         rw [if_pos (wanted_none rfl)]
         have e62 : a.eval (.tmp 62) = .agg x.1.cells.toArray := (he 4 62 (by kernel_rfl) rfl).trans (hR 4 (by kernel_rfl))
         have e63 : a.eval (.tmp 63) = .agg (bv ad).toArray := (he 5 63 (by kernel_rfl) rfl).trans (hR 5 (by kernel_rfl))
         refine wp_enter (f := 15) (args := #[.agg x.1.cells.toArray, .agg (bv ad).toArray]) (by simp only [execOp, e62, e63]; go_simp; exact ⟨by simpa [Act.eval] using e62, by simpa [Act.eval] using e63⟩) ((rhas_any x.1 HXG.out ad HAL.out W).mono ?_)
         rintro e w' ⟨rfl, hb⟩
         rw [HH.out]
         exact ⟨_, rfl, hK _ _ rfl (below_grow hb _)⟩
        ·intro a vs W hX hR he hf K hK
         rw [if_pos (wanted_none rfl)]
         have e64 : a.eval (.tmp 64) = .bool true := (he 6 64 (by kernel_rfl) rfl).trans (hR 6 (by kernel_rfl))
         refine wp_value (v := .bool true) ?_ (hK _ _ rfl (grown_refl W _))
         simp only [execOp, e64]
         try go_simp
        ·intro vs wx hXx hR
         have q0 := hR 0 (by decide)
         have q1 := hR 1 (by decide)
         have q2 := hR 2 (by decide)
         have q3 := hR 3 (by decide)
         have q4 := hR 4 (by decide)
         have q5 := hR 5 (by decide)
         have q6 := hR 6 (by decide)
         have q7 := hR 7 (by decide)
         change vs 0 = .slice (some ⟨bM, oM, none⟩) m c2 at q0
         change vs 1 = .int .i64 (k : Int) at q1
         change vs 2 = .pointer (some ⟨bM, oM + k * 19, none⟩) at q2
         change vs 3 = .pointer (some ⟨bM, oM + k * 19, none⟩) at q3
         change vs 4 = .agg x.1.cells.toArray at q4
         change vs 5 = .agg (bv ad).toArray at q5
         change vs 6 = .bool true at q6
         change vs 7 = .bool true at q7
         simp only [putAll, Act.put, List.setIfInBounds_toArray, List.set_cons_zero, List.set_cons_succ, q0, q1, q2, q3, q4, q5, q6, q7]
         clear q0 q1 q2 q3 q4 q5 q6 q7
         clear hR
         replace hBE := Lib.hid (hBE.out.trans ((bthen (below_drew _) (grow_below hXx)).mono hBE.out.size))
         replace HA := Lib.hid (HA.out.on (bthen (below_drew _) (grow_below hXx)))
         replace HD := Lib.hid (HD.out.on (bthen (below_drew _) (grow_below hXx)))
         replace HXM := Lib.hid (range_below (bthen (below_drew _) (grow_below hXx)) HBM.out HXM.out)
         replace HBM := Lib.hid (Nat.lt_of_lt_of_le HBM.out (bthen (below_drew _) (grow_below hXx)).size)
         clear hXx
         go_wp2_with fail
         refine wp_region_rel (fun A B => A.grownBy B none) (fun A => grown_refl A _) (fun A B C h k => grown_trans h k) (relAt (List.cons (fun v _ => v = .bool true) (List.cons (fun v _ => v = .bool true) (List.cons (fun v _ => v = .slice (some ⟨bM, oM, none⟩) m c2) (List.cons (fun v _ => v = .int .i64 (k : Int)) (List.cons (fun v _ => v = .pointer (some ⟨bM, oM + k * 19, none⟩)) (List.cons (fun v _ => v = .pointer (some ⟨bM, oM + k * 19, none⟩)) (List.cons (fun v _ => v = .pointer (some ⟨bM, oM + k * 19 + 17, none⟩)) (List.cons (fun v _ => v = .int .i64 x.1.len) (List.cons (fun v _ => v = .pointer (some ⟨g10, 0, none⟩)) (List.cons (fun v _ => v = .pointer (some ⟨g10, 17, none⟩)) (List.cons (fun v _ => v = .int .i64 y.1.len) (List.cons (fun v _ => v = .bool false) (List.cons (fun v _ => v = .bool false) ([]))))))))))))))) (MonoL.at_ (.cons (mono_val _) (.cons (mono_val _) (.cons (mono_val _) (.cons (mono_val _) (.cons (mono_val _) (.cons (mono_val _) (.cons (mono_val _) (.cons (mono_val _) (.cons (mono_val _) (.cons (mono_val _) (.cons (mono_val _) (.cons (mono_val _) (.cons (mono_val _) .nil)))))))))))))) (by kernel_rfl) (by kernel_rfl) ⟨?_, ?_, ?_, ?_, ?_, ?_, ?_, ?_, ?_, ?_, ?_, ?_, ?_, trivial⟩ ?_
         ·intro a vs W hX hR he hf K hK
          rw [if_pos (wanted_none rfl)]
          have e15 : a.eval (.tmp 15) = .bool true := hf 15 (by kernel_rfl)
          refine wp_value (v := .bool true) ?_ (hK _ _ rfl (grown_refl W _))
          simp only [execOp, e15]
          try go_simp
         ·intro a vs W hX hR he hf K hK
          rw [if_pos (wanted_none rfl)]
          have e69 : a.eval (.tmp 69) = .bool true := (he 0 69 (by kernel_rfl) rfl).trans (hR 0 (by kernel_rfl))
          refine wp_value (v := .bool true) ?_ (hK _ _ rfl (grown_refl W _))
          simp only [execOp, e69]
          try go_simp
         ·intro a vs W hX hR he hf K hK
          have e70 : a.eval (.tmp 70) = .bool true := (he 1 70 (by kernel_rfl) rfl).trans (hR 1 (by kernel_rfl))
          refine Eq.mpr (if_pos (by exact (wanted_some rfl rfl e70).trans rfl)) ?_
          have e12 : a.eval (.tmp 12) = .slice (some ⟨bM, oM, none⟩) m c2 := hf 12 (by kernel_rfl)
          refine wp_value (v := .slice (some ⟨bM, oM, none⟩) m c2) ?_ (hK _ _ rfl (grown_refl W _))
          simp only [execOp, e12]
          try go_simp
         ·intro a vs W hX hR he hf K hK
          have e70 : a.eval (.tmp 70) = .bool true := (he 1 70 (by kernel_rfl) rfl).trans (hR 1 (by kernel_rfl))
          refine Eq.mpr (if_pos (by exact (wanted_some rfl rfl e70).trans rfl)) ?_
          have e14 : a.eval (.tmp 14) = .int .i64 (k : Int) := hf 14 (by kernel_rfl)
          refine wp_value (v := .int .i64 (k : Int)) ?_ (hK _ _ rfl (grown_refl W _))
          simp only [execOp, e14]
          try go_simp
         ·intro a vs W hX hR he hf K hK
          have e70 : a.eval (.tmp 70) = .bool true := (he 1 70 (by kernel_rfl) rfl).trans (hR 1 (by kernel_rfl))
          refine Eq.mpr (if_pos (by exact (wanted_some rfl rfl e70).trans rfl)) ?_
          have e71 : a.eval (.tmp 71) = .slice (some ⟨bM, oM, none⟩) m c2 := (he 2 71 (by kernel_rfl) rfl).trans (hR 2 (by kernel_rfl))
          have e72 : a.eval (.tmp 72) = .int .i64 (k : Int) := (he 3 72 (by kernel_rfl) rfl).trans (hR 3 (by kernel_rfl))
          refine wp_value (v := .pointer (some ⟨bM, oM + k * 19, none⟩)) ?_ (hK _ _ rfl (grown_refl W _))
          simp only [execOp, e71, e72]
          go_simp
         ·intro a vs W hX hR he hf K hK
          have e70 : a.eval (.tmp 70) = .bool true := (he 1 70 (by kernel_rfl) rfl).trans (hR 1 (by kernel_rfl))
          refine Eq.mpr (if_pos (by exact (wanted_some rfl rfl e70).trans rfl)) ?_
          have e73 : a.eval (.tmp 73) = .pointer (some ⟨bM, oM + k * 19, none⟩) := (he 4 73 (by kernel_rfl) rfl).trans (hR 4 (by kernel_rfl))
          refine wp_value (v := .pointer (some ⟨bM, oM + k * 19, none⟩)) ?_ (hK _ _ rfl (grown_refl W _))
          simp only [execOp, e73]
          try go_simp
         ·intro a vs W hX hR he hf K hK
          have e70 : a.eval (.tmp 70) = .bool true := (he 1 70 (by kernel_rfl) rfl).trans (hR 1 (by kernel_rfl))
          refine Eq.mpr (if_pos (by exact (wanted_some rfl rfl e70).trans rfl)) ?_
          have e74 : a.eval (.tmp 74) = .pointer (some ⟨bM, oM + k * 19, none⟩) := (he 5 74 (by kernel_rfl) rfl).trans (hR 5 (by kernel_rfl))
          refine wp_value (v := .pointer (some ⟨bM, oM + k * 19 + 17, none⟩)) ?_ (hK _ _ rfl (grown_refl W _))
          simp only [execOp, e74]
          try go_simp
         ·intro a vs W hX hR he hf K hK
          have e70 : a.eval (.tmp 70) = .bool true := (he 1 70 (by kernel_rfl) rfl).trans (hR 1 (by kernel_rfl))
          refine Eq.mpr (if_pos (by exact (wanted_some rfl rfl e70).trans rfl)) ?_
          have e75 : a.eval (.tmp 75) = .pointer (some ⟨bM, oM + k * 19 + 17, none⟩) := (he 6 75 (by kernel_rfl) rfl).trans (hR 6 (by kernel_rfl))
          have hbW := bthen (below_drew _) (grow_below hX)
          have hc : W.cell? ⟨bM, oM + k * 19 + 17, none⟩ = some (.int .i64 x.1.len) := range_below hbW HBM.out HXM.out 17 _ (it_len HXF.out.addr)
          refine wp_value (v := _) ?_ (hK _ _ rfl (grown_refl W _))
          simp only [execOp, e75]
          try go_simp
         ·intro a vs W hX hR he hf K hK
          have e70 : a.eval (.tmp 70) = .bool true := (he 1 70 (by kernel_rfl) rfl).trans (hR 1 (by kernel_rfl))
          refine Eq.mpr (if_pos (by exact (wanted_some rfl rfl e70).trans rfl)) ?_
          have e10 : a.eval (.tmp 10) = .pointer (some ⟨g10, 0, none⟩) := hf 10 (by kernel_rfl)
          refine wp_value (v := .pointer (some ⟨g10, 0, none⟩)) ?_ (hK _ _ rfl (grown_refl W _))
          simp only [execOp, e10]
          try go_simp
         ·intro a vs W hX hR he hf K hK
          have e70 : a.eval (.tmp 70) = .bool true := (he 1 70 (by kernel_rfl) rfl).trans (hR 1 (by kernel_rfl))
          refine Eq.mpr (if_pos (by exact (wanted_some rfl rfl e70).trans rfl)) ?_
          have e77 : a.eval (.tmp 77) = .pointer (some ⟨g10, 0, none⟩) := (he 8 77 (by kernel_rfl) rfl).trans (hR 8 (by kernel_rfl))
          refine wp_value (v := .pointer (some ⟨g10, 17, none⟩)) ?_ (hK _ _ rfl (grown_refl W _))
          simp only [execOp, e77]
          try go_simp
         ·intro a vs W hX hR he hf K hK
          have e70 : a.eval (.tmp 70) = .bool true := (he 1 70 (by kernel_rfl) rfl).trans (hR 1 (by kernel_rfl))
          refine Eq.mpr (if_pos (by exact (wanted_some rfl rfl e70).trans rfl)) ?_
          have e78 : a.eval (.tmp 78) = .pointer (some ⟨g10, 17, none⟩) := (he 9 78 (by kernel_rfl) rfl).trans (hR 9 (by kernel_rfl))
          have hbW := bthen (below_drew _) (grow_below hX)
          have hc : W.cell? ⟨g10, 17, none⟩ = some (.int .i64 y.1.len) := ((HD.out.on hbW).cell 17).trans (it_len HYF.out.addr)
          refine wp_value (v := _) ?_ (hK _ _ rfl (grown_refl W _))
          simp only [execOp, e78]
          try go_simp
         ·intro a vs W hX hR he hf K hK
          have e70 : a.eval (.tmp 70) = .bool true := (he 1 70 (by kernel_rfl) rfl).trans (hR 1 (by kernel_rfl))
          refine Eq.mpr (if_pos (by exact (wanted_some rfl rfl e70).trans rfl)) ?_
          have e76 : a.eval (.tmp 76) = .int .i64 x.1.len := (he 7 76 (by kernel_rfl) rfl).trans (hR 7 (by kernel_rfl))
          have e79 : a.eval (.tmp 79) = .int .i64 y.1.len := (he 10 79 (by kernel_rfl) rfl).trans (hR 10 (by kernel_rfl))
          refine wp_value (v := .bool false) ?_ (hK _ _ rfl (grown_refl W _))
          have h9 := HLE.out
          simp only [execOp, e76, e79]
          go_simp
          try omega
         ·intro a vs W hX hR he hf K hK
          rw [if_pos (wanted_none rfl)]
          have e70 : a.eval (.tmp 70) = .bool true := (he 1 70 (by kernel_rfl) rfl).trans (hR 1 (by kernel_rfl))
          have e80 : a.eval (.tmp 80) = .bool false := (he 11 80 (by kernel_rfl) rfl).trans (hR 11 (by kernel_rfl))
          refine wp_value (v := .bool false) ?_ (hK _ _ rfl (grown_refl W _))
          simp only [execOp, e70, e80]
          try go_simp
         ·intro vs wy hXx hR
          have q0 := hR 0 (by decide)
          have q1 := hR 1 (by decide)
          have q2 := hR 2 (by decide)
          have q3 := hR 3 (by decide)
          have q4 := hR 4 (by decide)
          have q5 := hR 5 (by decide)
          have q6 := hR 6 (by decide)
          have q7 := hR 7 (by decide)
          have q8 := hR 8 (by decide)
          have q9 := hR 9 (by decide)
          have q10 := hR 10 (by decide)
          have q11 := hR 11 (by decide)
          have q12 := hR 12 (by decide)
          change vs 0 = .bool true at q0
          change vs 1 = .bool true at q1
          change vs 2 = .slice (some ⟨bM, oM, none⟩) m c2 at q2
          change vs 3 = .int .i64 (k : Int) at q3
          change vs 4 = .pointer (some ⟨bM, oM + k * 19, none⟩) at q4
          change vs 5 = .pointer (some ⟨bM, oM + k * 19, none⟩) at q5
          change vs 6 = .pointer (some ⟨bM, oM + k * 19 + 17, none⟩) at q6
          change vs 7 = .int .i64 x.1.len at q7
          change vs 8 = .pointer (some ⟨g10, 0, none⟩) at q8
          change vs 9 = .pointer (some ⟨g10, 17, none⟩) at q9
          change vs 10 = .int .i64 y.1.len at q10
          change vs 11 = .bool false at q11
          change vs 12 = .bool false at q12
          simp only [putAll, Act.put, List.setIfInBounds_toArray, List.set_cons_zero, List.set_cons_succ, q0, q1, q2, q3, q4, q5, q6, q7, q8, q9, q10, q11, q12]
          clear q0 q1 q2 q3 q4 q5 q6 q7 q8 q9 q10 q11 q12
          clear hR
          replace hBE := Lib.hid (hBE.out.trans ((bthen (below_drew _) (grow_below hXx)).mono hBE.out.size))
          replace HA := Lib.hid (HA.out.on (bthen (below_drew _) (grow_below hXx)))
          replace HD := Lib.hid (HD.out.on (bthen (below_drew _) (grow_below hXx)))
          replace HXM := Lib.hid (range_below (bthen (below_drew _) (grow_below hXx)) HBM.out HXM.out)
          replace HBM := Lib.hid (Nat.lt_of_lt_of_le HBM.out (bthen (below_drew _) (grow_below hXx)).size)
          clear hXx
          go_wp2_with fail
          go_roundw
          case rel => exact ⟨k + 1, by omega, by simp, by rw [HNX.out], hBE.out⟩
          case measure => simp [intOf]; omega
      ·cases hh : hasA x.1 ad
       ·have HH := Lib.hid hh
        have HNX := Lib.hid (show ((L.take (k + 1)).any fun x => hasA x.1 ad) = true by rw [HTK.out, hp, hh]; rfl)
        clear hh hp
        go_wp2_with fail
        refine wp_region_rel (fun A B => A.grownBy B none) (fun A => grown_refl A _) (fun A B C h k => grown_trans h k) (relAt (List.cons (fun v _ => v = .slice (some ⟨bM, oM, none⟩) m c2) (List.cons (fun v _ => v = .int .i64 (k : Int)) (List.cons (fun v _ => v = .pointer (some ⟨bM, oM + k * 19, none⟩)) (List.cons (fun v _ => v = .pointer (some ⟨bM, oM + k * 19, none⟩)) (List.cons (fun v _ => v = .agg x.1.cells.toArray) (List.cons (fun v _ => v = .agg (bv ad).toArray) (List.cons (fun v _ => v = .bool false) (List.cons (fun v _ => v = .bool false) ([])))))))))) (MonoL.at_ (.cons (mono_val _) (.cons (mono_val _) (.cons (mono_val _) (.cons (mono_val _) (.cons (mono_val _) (.cons (mono_val _) (.cons (mono_val _) (.cons (mono_val _) .nil))))))))) (by kernel_rfl) (by kernel_rfl) ⟨?_, ?_, ?_, ?_, ?_, ?_, ?_, ?_, trivial⟩ ?_
        ·intro a vs W hX hR he hf K hK
         rw [if_pos (wanted_none rfl)]
         have e12 : a.eval (.tmp 12) = .slice (some ⟨bM, oM, none⟩) m c2 := hf 12 (by kernel_rfl)
         refine wp_value (v := .slice (some ⟨bM, oM, none⟩) m c2) ?_ (hK _ _ rfl (grown_refl W _))
         simp only [execOp, e12]
         try go_simp
        ·intro a vs W hX hR he hf K hK
         rw [if_pos (wanted_none rfl)]
         have e14 : a.eval (.tmp 14) = .int .i64 (k : Int) := hf 14 (by kernel_rfl)
         refine wp_value (v := .int .i64 (k : Int)) ?_ (hK _ _ rfl (grown_refl W _))
         simp only [execOp, e14]
         try go_simp
        ·intro a vs W hX hR he hf K hK
         rw [if_pos (wanted_none rfl)]
         have e58 : a.eval (.tmp 58) = .slice (some ⟨bM, oM, none⟩) m c2 := (he 0 58 (by kernel_rfl) rfl).trans (hR 0 (by kernel_rfl))
         have e59 : a.eval (.tmp 59) = .int .i64 (k : Int) := (he 1 59 (by kernel_rfl) rfl).trans (hR 1 (by kernel_rfl))
         refine wp_value (v := .pointer (some ⟨bM, oM + k * 19, none⟩)) ?_ (hK _ _ rfl (grown_refl W _))
         simp only [execOp, e58, e59]
         go_simp
        ·intro a vs W hX hR he hf K hK
         rw [if_pos (wanted_none rfl)]
         have e60 : a.eval (.tmp 60) = .pointer (some ⟨bM, oM + k * 19, none⟩) := (he 2 60 (by kernel_rfl) rfl).trans (hR 2 (by kernel_rfl))
         refine wp_value (v := .pointer (some ⟨bM, oM + k * 19, none⟩)) ?_ (hK _ _ rfl (grown_refl W _))
         simp only [execOp, e60]
         try go_simp
        ·intro a vs W hX hR he hf K hK
         rw [if_pos (wanted_none rfl)]
         have e61 : a.eval (.tmp 61) = .pointer (some ⟨bM, oM + k * 19, none⟩) := (he 3 61 (by kernel_rfl) rfl).trans (hR 3 (by kernel_rfl))
         have hbW := bthen (below_drew _) (grow_below hX)
         exact wp_value (exec_load_mid 30 _ rfl bM (oM + k * 19) e61 x.1.cells _ (range_below hbW HBM.out (it_px HXM.out)) Try.underlying30 rfl (sizePx _ HXF.out.addr)) (hK _ _ rfl (grown_refl W _))
        ·intro a vs W hX hR he hf K hK
         rw [if_pos (wanted_none rfl)]
         have e5 : a.eval (.tmp 5) = .pointer (some ⟨g5, 0, none⟩) := hf 5 (by kernel_rfl)
         have hbW := bthen (below_drew _) (grow_below hX)
         exact wp_value (exec_load 28 _ rfl g5 e5 28 (bv ad) _ (HA.out.on hbW) Try.underlying28 rfl (size16 _ HAL.out)) (hK _ _ rfl (grown_refl W _))
        ·intro a vs W hX hR he hf K hK
         rw [if_pos (wanted_none rfl)]
         have e62 : a.eval (.tmp 62) = .agg x.1.cells.toArray := (he 4 62 (by kernel_rfl) rfl).trans (hR 4 (by kernel_rfl))
         have e63 : a.eval (.tmp 63) = .agg (bv ad).toArray := (he 5 63 (by kernel_rfl) rfl).trans (hR 5 (by kernel_rfl))
         refine wp_enter (f := 15) (args := #[.agg x.1.cells.toArray, .agg (bv ad).toArray]) (by simp only [execOp, e62, e63]; go_simp; exact ⟨by simpa [Act.eval] using e62, by simpa [Act.eval] using e63⟩) ((rhas_any x.1 HXG.out ad HAL.out W).mono ?_)
         rintro e w' ⟨rfl, hb⟩
         rw [HH.out]
         exact ⟨_, rfl, hK _ _ rfl (below_grow hb _)⟩
        ·intro a vs W hX hR he hf K hK
         rw [if_pos (wanted_none rfl)]
         have e64 : a.eval (.tmp 64) = .bool false := (he 6 64 (by kernel_rfl) rfl).trans (hR 6 (by kernel_rfl))
         refine wp_value (v := .bool false) ?_ (hK _ _ rfl (grown_refl W _))
         simp only [execOp, e64]
         try go_simp
        ·intro vs wx hXx hR
         have q0 := hR 0 (by decide)
         have q1 := hR 1 (by decide)
         have q2 := hR 2 (by decide)
         have q3 := hR 3 (by decide)
         have q4 := hR 4 (by decide)
         have q5 := hR 5 (by decide)
         have q6 := hR 6 (by decide)
         have q7 := hR 7 (by decide)
         change vs 0 = .slice (some ⟨bM, oM, none⟩) m c2 at q0
         change vs 1 = .int .i64 (k : Int) at q1
         change vs 2 = .pointer (some ⟨bM, oM + k * 19, none⟩) at q2
         change vs 3 = .pointer (some ⟨bM, oM + k * 19, none⟩) at q3
         change vs 4 = .agg x.1.cells.toArray at q4
         change vs 5 = .agg (bv ad).toArray at q5
         change vs 6 = .bool false at q6
         change vs 7 = .bool false at q7
         simp only [putAll, Act.put, List.setIfInBounds_toArray, List.set_cons_zero, List.set_cons_succ, q0, q1, q2, q3, q4, q5, q6, q7]
         clear q0 q1 q2 q3 q4 q5 q6 q7
         clear hR
         replace hBE := Lib.hid (hBE.out.trans ((bthen (below_drew _) (grow_below hXx)).mono hBE.out.size))
         replace HA := Lib.hid (HA.out.on (bthen (below_drew _) (grow_below hXx)))
         replace HD := Lib.hid (HD.out.on (bthen (below_drew _) (grow_below hXx)))
         replace HXM := Lib.hid (range_below (bthen (below_drew _) (grow_below hXx)) HBM.out HXM.out)
         replace HBM := Lib.hid (Nat.lt_of_lt_of_le HBM.out (bthen (below_drew _) (grow_below hXx)).size)
         clear hXx
         go_wp2_with fail
         refine wp_region_rel (fun A B => A.grownBy B none) (fun A => grown_refl A _) (fun A B C h k => grown_trans h k) (relAt (List.cons (fun v _ => v = .bool false) (List.cons (fun v _ => v = .bool false) (List.cons (fun v _ => v = undef) (List.cons (fun v _ => v = undef) (List.cons (fun v _ => v = undef) (List.cons (fun v _ => v = undef) (List.cons (fun v _ => v = undef) (List.cons (fun v _ => v = undef) (List.cons (fun v _ => v = undef) (List.cons (fun v _ => v = undef) (List.cons (fun v _ => v = undef) (List.cons (fun v _ => v = undef) (List.cons (fun v _ => v = .bool false) ([]))))))))))))))) (MonoL.at_ (.cons (mono_val _) (.cons (mono_val _) (.cons (mono_val _) (.cons (mono_val _) (.cons (mono_val _) (.cons (mono_val _) (.cons (mono_val _) (.cons (mono_val _) (.cons (mono_val _) (.cons (mono_val _) (.cons (mono_val _) (.cons (mono_val _) (.cons (mono_val _) .nil)))))))))))))) (by kernel_rfl) (by kernel_rfl) ⟨?_, ?_, ?_, ?_, ?_, ?_, ?_, ?_, ?_, ?_, ?_, ?_, ?_, trivial⟩ ?_
         ·intro a vs W hX hR he hf K hK
          rw [if_pos (wanted_none rfl)]
          have e15 : a.eval (.tmp 15) = .bool false := hf 15 (by kernel_rfl)
          refine wp_value (v := .bool false) ?_ (hK _ _ rfl (grown_refl W _))
          simp only [execOp, e15]
          try go_simp
         ·intro a vs W hX hR he hf K hK
          rw [if_pos (wanted_none rfl)]
          have e69 : a.eval (.tmp 69) = .bool false := (he 0 69 (by kernel_rfl) rfl).trans (hR 0 (by kernel_rfl))
          refine wp_value (v := .bool false) ?_ (hK _ _ rfl (grown_refl W _))
          simp only [execOp, e69]
          try go_simp
         ·intro a vs W hX hR he hf K hK
          have e70 : a.eval (.tmp 70) = .bool false := (he 1 70 (by kernel_rfl) rfl).trans (hR 1 (by kernel_rfl))
          refine Eq.mpr (if_neg (fun hz => Bool.false_ne_true (Eq.trans (by exact Eq.symm ((wanted_some rfl rfl e70).trans rfl)) hz))) ?_
          exact hK _ _ rfl (grown_refl W _)
         ·intro a vs W hX hR he hf K hK
          have e70 : a.eval (.tmp 70) = .bool false := (he 1 70 (by kernel_rfl) rfl).trans (hR 1 (by kernel_rfl))
          refine Eq.mpr (if_neg (fun hz => Bool.false_ne_true (Eq.trans (by exact Eq.symm ((wanted_some rfl rfl e70).trans rfl)) hz))) ?_
          exact hK _ _ rfl (grown_refl W _)
         ·intro a vs W hX hR he hf K hK
          have e70 : a.eval (.tmp 70) = .bool false := (he 1 70 (by kernel_rfl) rfl).trans (hR 1 (by kernel_rfl))
          refine Eq.mpr (if_neg (fun hz => Bool.false_ne_true (Eq.trans (by exact Eq.symm ((wanted_some rfl rfl e70).trans rfl)) hz))) ?_
          exact hK _ _ rfl (grown_refl W _)
         ·intro a vs W hX hR he hf K hK
          have e70 : a.eval (.tmp 70) = .bool false := (he 1 70 (by kernel_rfl) rfl).trans (hR 1 (by kernel_rfl))
          refine Eq.mpr (if_neg (fun hz => Bool.false_ne_true (Eq.trans (by exact Eq.symm ((wanted_some rfl rfl e70).trans rfl)) hz))) ?_
          exact hK _ _ rfl (grown_refl W _)
         ·intro a vs W hX hR he hf K hK
          have e70 : a.eval (.tmp 70) = .bool false := (he 1 70 (by kernel_rfl) rfl).trans (hR 1 (by kernel_rfl))
          refine Eq.mpr (if_neg (fun hz => Bool.false_ne_true (Eq.trans (by exact Eq.symm ((wanted_some rfl rfl e70).trans rfl)) hz))) ?_
          exact hK _ _ rfl (grown_refl W _)
         ·intro a vs W hX hR he hf K hK
          have e70 : a.eval (.tmp 70) = .bool false := (he 1 70 (by kernel_rfl) rfl).trans (hR 1 (by kernel_rfl))
          refine Eq.mpr (if_neg (fun hz => Bool.false_ne_true (Eq.trans (by exact Eq.symm ((wanted_some rfl rfl e70).trans rfl)) hz))) ?_
          exact hK _ _ rfl (grown_refl W _)
         ·intro a vs W hX hR he hf K hK
          have e70 : a.eval (.tmp 70) = .bool false := (he 1 70 (by kernel_rfl) rfl).trans (hR 1 (by kernel_rfl))
          refine Eq.mpr (if_neg (fun hz => Bool.false_ne_true (Eq.trans (by exact Eq.symm ((wanted_some rfl rfl e70).trans rfl)) hz))) ?_
          exact hK _ _ rfl (grown_refl W _)
         ·intro a vs W hX hR he hf K hK
          have e70 : a.eval (.tmp 70) = .bool false := (he 1 70 (by kernel_rfl) rfl).trans (hR 1 (by kernel_rfl))
          refine Eq.mpr (if_neg (fun hz => Bool.false_ne_true (Eq.trans (by exact Eq.symm ((wanted_some rfl rfl e70).trans rfl)) hz))) ?_
          exact hK _ _ rfl (grown_refl W _)
         ·intro a vs W hX hR he hf K hK
          have e70 : a.eval (.tmp 70) = .bool false := (he 1 70 (by kernel_rfl) rfl).trans (hR 1 (by kernel_rfl))
          refine Eq.mpr (if_neg (fun hz => Bool.false_ne_true (Eq.trans (by exact Eq.symm ((wanted_some rfl rfl e70).trans rfl)) hz))) ?_
          exact hK _ _ rfl (grown_refl W _)
         ·intro a vs W hX hR he hf K hK
          have e70 : a.eval (.tmp 70) = .bool false := (he 1 70 (by kernel_rfl) rfl).trans (hR 1 (by kernel_rfl))
          refine Eq.mpr (if_neg (fun hz => Bool.false_ne_true (Eq.trans (by exact Eq.symm ((wanted_some rfl rfl e70).trans rfl)) hz))) ?_
          exact hK _ _ rfl (grown_refl W _)
         ·intro a vs W hX hR he hf K hK
          rw [if_pos (wanted_none rfl)]
          have e70 : a.eval (.tmp 70) = .bool false := (he 1 70 (by kernel_rfl) rfl).trans (hR 1 (by kernel_rfl))
          have e80 : a.eval (.tmp 80) = undef := (he 11 80 (by kernel_rfl) rfl).trans (hR 11 (by kernel_rfl))
          refine wp_value (v := .bool false) ?_ (hK _ _ rfl (grown_refl W _))
          simp only [execOp, e70, e80]
          try go_simp
         ·intro vs wy hXx hR
          have q0 := hR 0 (by decide)
          have q1 := hR 1 (by decide)
          have q2 := hR 2 (by decide)
          have q3 := hR 3 (by decide)
          have q4 := hR 4 (by decide)
          have q5 := hR 5 (by decide)
          have q6 := hR 6 (by decide)
          have q7 := hR 7 (by decide)
          have q8 := hR 8 (by decide)
          have q9 := hR 9 (by decide)
          have q10 := hR 10 (by decide)
          have q11 := hR 11 (by decide)
          have q12 := hR 12 (by decide)
          change vs 0 = .bool false at q0
          change vs 1 = .bool false at q1
          change vs 2 = undef at q2
          change vs 3 = undef at q3
          change vs 4 = undef at q4
          change vs 5 = undef at q5
          change vs 6 = undef at q6
          change vs 7 = undef at q7
          change vs 8 = undef at q8
          change vs 9 = undef at q9
          change vs 10 = undef at q10
          change vs 11 = undef at q11
          change vs 12 = .bool false at q12
          simp only [putAll, Act.put, List.setIfInBounds_toArray, List.set_cons_zero, List.set_cons_succ, q0, q1, q2, q3, q4, q5, q6, q7, q8, q9, q10, q11, q12]
          clear q0 q1 q2 q3 q4 q5 q6 q7 q8 q9 q10 q11 q12
          clear hR
          replace hBE := Lib.hid (hBE.out.trans ((bthen (below_drew _) (grow_below hXx)).mono hBE.out.size))
          replace HA := Lib.hid (HA.out.on (bthen (below_drew _) (grow_below hXx)))
          replace HD := Lib.hid (HD.out.on (bthen (below_drew _) (grow_below hXx)))
          replace HXM := Lib.hid (range_below (bthen (below_drew _) (grow_below hXx)) HBM.out HXM.out)
          replace HBM := Lib.hid (Nat.lt_of_lt_of_le HBM.out (bthen (below_drew _) (grow_below hXx)).size)
          clear hXx
          go_wp2_with fail
          go_roundw
          case rel => exact ⟨k + 1, by omega, by simp, by rw [HNX.out], hBE.out⟩
          case measure => simp [intOf]; omega
       ·have HH := Lib.hid hh
        have HLE := Lib.hid (HXL.out hh)
        have HNX := Lib.hid (show ((L.take (k + 1)).any fun x => hasA x.1 ad) = true by rw [HTK.out, hp, hh]; rfl)
        clear hh hp
        go_wp2_with fail
        refine wp_region_rel (fun A B => A.grownBy B none) (fun A => grown_refl A _) (fun A B C h k => grown_trans h k) (relAt (List.cons (fun v _ => v = .slice (some ⟨bM, oM, none⟩) m c2) (List.cons (fun v _ => v = .int .i64 (k : Int)) (List.cons (fun v _ => v = .pointer (some ⟨bM, oM + k * 19, none⟩)) (List.cons (fun v _ => v = .pointer (some ⟨bM, oM + k * 19, none⟩)) (List.cons (fun v _ => v = .agg x.1.cells.toArray) (List.cons (fun v _ => v = .agg (bv ad).toArray) (List.cons (fun v _ => v = .bool true) (List.cons (fun v _ => v = .bool true) ([])))))))))) (MonoL.at_ (.cons (mono_val _) (.cons (mono_val _) (.cons (mono_val _) (.cons (mono_val _) (.cons (mono_val _) (.cons (mono_val _) (.cons (mono_val _) (.cons (mono_val _) .nil))))))))) (by kernel_rfl) (by kernel_rfl) ⟨?_, ?_, ?_, ?_, ?_, ?_, ?_, ?_, trivial⟩ ?_
        ·intro a vs W hX hR he hf K hK
         rw [if_pos (wanted_none rfl)]
         have e12 : a.eval (.tmp 12) = .slice (some ⟨bM, oM, none⟩) m c2 := hf 12 (by kernel_rfl)
         refine wp_value (v := .slice (some ⟨bM, oM, none⟩) m c2) ?_ (hK _ _ rfl (grown_refl W _))
         simp only [execOp, e12]
         try go_simp
        ·intro a vs W hX hR he hf K hK
         rw [if_pos (wanted_none rfl)]
         have e14 : a.eval (.tmp 14) = .int .i64 (k : Int) := hf 14 (by kernel_rfl)
         refine wp_value (v := .int .i64 (k : Int)) ?_ (hK _ _ rfl (grown_refl W _))
         simp only [execOp, e14]
         try go_simp
        ·intro a vs W hX hR he hf K hK
         rw [if_pos (wanted_none rfl)]
         have e58 : a.eval (.tmp 58) = .slice (some ⟨bM, oM, none⟩) m c2 := (he 0 58 (by kernel_rfl) rfl).trans (hR 0 (by kernel_rfl))
         have e59 : a.eval (.tmp 59) = .int .i64 (k : Int) := (he 1 59 (by kernel_rfl) rfl).trans (hR 1 (by kernel_rfl))
         refine wp_value (v := .pointer (some ⟨bM, oM + k * 19, none⟩)) ?_ (hK _ _ rfl (grown_refl W _))
         simp only [execOp, e58, e59]
         go_simp
        ·intro a vs W hX hR he hf K hK
         rw [if_pos (wanted_none rfl)]
         have e60 : a.eval (.tmp 60) = .pointer (some ⟨bM, oM + k * 19, none⟩) := (he 2 60 (by kernel_rfl) rfl).trans (hR 2 (by kernel_rfl))
         refine wp_value (v := .pointer (some ⟨bM, oM + k * 19, none⟩)) ?_ (hK _ _ rfl (grown_refl W _))
         simp only [execOp, e60]
         try go_simp
        ·intro a vs W hX hR he hf K hK
         rw [if_pos (wanted_none rfl)]
         have e61 : a.eval (.tmp 61) = .pointer (some ⟨bM, oM + k * 19, none⟩) := (he 3 61 (by kernel_rfl) rfl).trans (hR 3 (by kernel_rfl))
         have hbW := bthen (below_drew _) (grow_below hX)
         exact wp_value (exec_load_mid 30 _ rfl bM (oM + k * 19) e61 x.1.cells _ (range_below hbW HBM.out (it_px HXM.out)) Try.underlying30 rfl (sizePx _ HXF.out.addr)) (hK _ _ rfl (grown_refl W _))
        ·intro a vs W hX hR he hf K hK
         rw [if_pos (wanted_none rfl)]
         have e5 : a.eval (.tmp 5) = .pointer (some ⟨g5, 0, none⟩) := hf 5 (by kernel_rfl)
         have hbW := bthen (below_drew _) (grow_below hX)
         exact wp_value (exec_load 28 _ rfl g5 e5 28 (bv ad) _ (HA.out.on hbW) Try.underlying28 rfl (size16 _ HAL.out)) (hK _ _ rfl (grown_refl W _))
        ·intro a vs W hX hR he hf K hK
         rw [if_pos (wanted_none rfl)]
         have e62 : a.eval (.tmp 62) = .agg x.1.cells.toArray := (he 4 62 (by kernel_rfl) rfl).trans (hR 4 (by kernel_rfl))
         have e63 : a.eval (.tmp 63) = .agg (bv ad).toArray := (he 5 63 (by kernel_rfl) rfl).trans (hR 5 (by kernel_rfl))
         refine wp_enter (f := 15) (args := #[.agg x.1.cells.toArray, .agg (bv ad).toArray]) (by simp only [execOp, e62, e63]; go_simp; exact ⟨by simpa [Act.eval] using e62, by simpa [Act.eval] using e63⟩) ((rhas_any x.1 HXG.out ad HAL.out W).mono ?_)
         rintro e w' ⟨rfl, hb⟩
         rw [HH.out]
         exact ⟨_, rfl, hK _ _ rfl (below_grow hb _)⟩
        ·intro a vs W hX hR he hf K hK
         rw [if_pos (wanted_none rfl)]
         have e64 : a.eval (.tmp 64) = .bool true := (he 6 64 (by kernel_rfl) rfl).trans (hR 6 (by kernel_rfl))
         refine wp_value (v := .bool true) ?_ (hK _ _ rfl (grown_refl W _))
         simp only [execOp, e64]
         try go_simp
        ·intro vs wx hXx hR
         have q0 := hR 0 (by decide)
         have q1 := hR 1 (by decide)
         have q2 := hR 2 (by decide)
         have q3 := hR 3 (by decide)
         have q4 := hR 4 (by decide)
         have q5 := hR 5 (by decide)
         have q6 := hR 6 (by decide)
         have q7 := hR 7 (by decide)
         change vs 0 = .slice (some ⟨bM, oM, none⟩) m c2 at q0
         change vs 1 = .int .i64 (k : Int) at q1
         change vs 2 = .pointer (some ⟨bM, oM + k * 19, none⟩) at q2
         change vs 3 = .pointer (some ⟨bM, oM + k * 19, none⟩) at q3
         change vs 4 = .agg x.1.cells.toArray at q4
         change vs 5 = .agg (bv ad).toArray at q5
         change vs 6 = .bool true at q6
         change vs 7 = .bool true at q7
         simp only [putAll, Act.put, List.setIfInBounds_toArray, List.set_cons_zero, List.set_cons_succ, q0, q1, q2, q3, q4, q5, q6, q7]
         clear q0 q1 q2 q3 q4 q5 q6 q7
         clear hR
         replace hBE := Lib.hid (hBE.out.trans ((bthen (below_drew _) (grow_below hXx)).mono hBE.out.size))
         replace HA := Lib.hid (HA.out.on (bthen (below_drew _) (grow_below hXx)))
         replace HD := Lib.hid (HD.out.on (bthen (below_drew _) (grow_below hXx)))
         replace HXM := Lib.hid (range_below (bthen (below_drew _) (grow_below hXx)) HBM.out HXM.out)
         replace HBM := Lib.hid (Nat.lt_of_lt_of_le HBM.out (bthen (below_drew _) (grow_below hXx)).size)
         clear hXx
         go_wp2_with fail
         refine wp_region_rel (fun A B => A.grownBy B none) (fun A => grown_refl A _) (fun A B C h k => grown_trans h k) (relAt (List.cons (fun v _ => v = .bool true) (List.cons (fun v _ => v = .bool true) (List.cons (fun v _ => v = .slice (some ⟨bM, oM, none⟩) m c2) (List.cons (fun v _ => v = .int .i64 (k : Int)) (List.cons (fun v _ => v = .pointer (some ⟨bM, oM + k * 19, none⟩)) (List.cons (fun v _ => v = .pointer (some ⟨bM, oM + k * 19, none⟩)) (List.cons (fun v _ => v = .pointer (some ⟨bM, oM + k * 19 + 17, none⟩)) (List.cons (fun v _ => v = .int .i64 x.1.len) (List.cons (fun v _ => v = .pointer (some ⟨g10, 0, none⟩)) (List.cons (fun v _ => v = .pointer (some ⟨g10, 17, none⟩)) (List.cons (fun v _ => v = .int .i64 y.1.len) (List.cons (fun v _ => v = .bool false) (List.cons (fun v _ => v = .bool false) ([]))))))))))))))) (MonoL.at_ (.cons (mono_val _) (.cons (mono_val _) (.cons (mono_val _) (.cons (mono_val _) (.cons (mono_val _) (.cons (mono_val _) (.cons (mono_val _) (.cons (mono_val _) (.cons (mono_val _) (.cons (mono_val _) (.cons (mono_val _) (.cons (mono_val _) (.cons (mono_val _) .nil)))))))))))))) (by kernel_rfl) (by kernel_rfl) ⟨?_, ?_, ?_, ?_, ?_, ?_, ?_, ?_, ?_, ?_, ?_, ?_, ?_, trivial⟩ ?_
         ·intro a vs W hX hR he hf K hK
          rw [if_pos (wanted_none rfl)]
          have e15 : a.eval (.tmp 15) = .bool true := hf 15 (by kernel_rfl)
          refine wp_value (v := .bool true) ?_ (hK _ _ rfl (grown_refl W _))
          simp only [execOp, e15]
          try go_simp
         ·intro a vs W hX hR he hf K hK
          rw [if_pos (wanted_none rfl)]
          have e69 : a.eval (.tmp 69) = .bool true := (he 0 69 (by kernel_rfl) rfl).trans (hR 0 (by kernel_rfl))
          refine wp_value (v := .bool true) ?_ (hK _ _ rfl (grown_refl W _))
          simp only [execOp, e69]
          try go_simp
         ·intro a vs W hX hR he hf K hK
          have e70 : a.eval (.tmp 70) = .bool true := (he 1 70 (by kernel_rfl) rfl).trans (hR 1 (by kernel_rfl))
          refine Eq.mpr (if_pos (by exact (wanted_some rfl rfl e70).trans rfl)) ?_
          have e12 : a.eval (.tmp 12) = .slice (some ⟨bM, oM, none⟩) m c2 := hf 12 (by kernel_rfl)
          refine wp_value (v := .slice (some ⟨bM, oM, none⟩) m c2) ?_ (hK _ _ rfl (grown_refl W _))
          simp only [execOp, e12]
          try go_simp
         ·intro a vs W hX hR he hf K hK
          have e70 : a.eval (.tmp 70) = .bool true := (he 1 70 (by kernel_rfl) rfl).trans (hR 1 (by kernel_rfl))
          refine Eq.mpr (if_pos (by exact (wanted_some rfl rfl e70).trans rfl)) ?_
          have e14 : a.eval (.tmp 14) = .int .i64 (k : Int) := hf 14 (by kernel_rfl)
          refine wp_value (v := .int .i64 (k : Int)) ?_ (hK _ _ rfl (grown_refl W _))
          simp only [execOp, e14]
          try go_simp
         ·intro a vs W hX hR he hf K hK
          have e70 : a.eval (.tmp 70) = .bool true := (he 1 70 (by kernel_rfl) rfl).trans (hR 1 (by kernel_rfl))
          refine Eq.mpr (if_pos (by exact (wanted_some rfl rfl e70).trans rfl)) ?_
          have e71 : a.eval (.tmp 71) = .slice (some ⟨bM, oM, none⟩) m c2 := (he 2 71 (by kernel_rfl) rfl).trans (hR 2 (by kernel_rfl))
          have e72 : a.eval (.tmp 72) = .int .i64 (k : Int) := (he 3 72 (by kernel_rfl) rfl).trans (hR 3 (by kernel_rfl))
          refine wp_value (v := .pointer (some ⟨bM, oM + k * 19, none⟩)) ?_ (hK _ _ rfl (grown_refl W _))
          simp only [execOp, e71, e72]
          go_simp
         ·intro a vs W hX hR he hf K hK
          have e70 : a.eval (.tmp 70) = .bool true := (he 1 70 (by kernel_rfl) rfl).trans (hR 1 (by kernel_rfl))
          refine Eq.mpr (if_pos (by exact (wanted_some rfl rfl e70).trans rfl)) ?_
          have e73 : a.eval (.tmp 73) = .pointer (some ⟨bM, oM + k * 19, none⟩) := (he 4 73 (by kernel_rfl) rfl).trans (hR 4 (by kernel_rfl))
          refine wp_value (v := .pointer (some ⟨bM, oM + k * 19, none⟩)) ?_ (hK _ _ rfl (grown_refl W _))
          simp only [execOp, e73]
          try go_simp
         ·intro a vs W hX hR he hf K hK
          have e70 : a.eval (.tmp 70) = .bool true := (he 1 70 (by kernel_rfl) rfl).trans (hR 1 (by kernel_rfl))
          refine Eq.mpr (if_pos (by exact (wanted_some rfl rfl e70).trans rfl)) ?_
          have e74 : a.eval (.tmp 74) = .pointer (some ⟨bM, oM + k * 19, none⟩) := (he 5 74 (by kernel_rfl) rfl).trans (hR 5 (by kernel_rfl))
          refine wp_value (v := .pointer (some ⟨bM, oM + k * 19 + 17, none⟩)) ?_ (hK _ _ rfl (grown_refl W _))
          simp only [execOp, e74]
          try go_simp
         ·intro a vs W hX hR he hf K hK
          have e70 : a.eval (.tmp 70) = .bool true := (he 1 70 (by kernel_rfl) rfl).trans (hR 1 (by kernel_rfl))
          refine Eq.mpr (if_pos (by exact (wanted_some rfl rfl e70).trans rfl)) ?_
          have e75 : a.eval (.tmp 75) = .pointer (some ⟨bM, oM + k * 19 + 17, none⟩) := (he 6 75 (by kernel_rfl) rfl).trans (hR 6 (by kernel_rfl))
          have hbW := bthen (below_drew _) (grow_below hX)
          have hc : W.cell? ⟨bM, oM + k * 19 + 17, none⟩ = some (.int .i64 x.1.len) := range_below hbW HBM.out HXM.out 17 _ (it_len HXF.out.addr)
          refine wp_value (v := _) ?_ (hK _ _ rfl (grown_refl W _))
          simp only [execOp, e75]
          try go_simp
         ·intro a vs W hX hR he hf K hK
          have e70 : a.eval (.tmp 70) = .bool true := (he 1 70 (by kernel_rfl) rfl).trans (hR 1 (by kernel_rfl))
          refine Eq.mpr (if_pos (by exact (wanted_some rfl rfl e70).trans rfl)) ?_
          have e10 : a.eval (.tmp 10) = .pointer (some ⟨g10, 0, none⟩) := hf 10 (by kernel_rfl)
          refine wp_value (v := .pointer (some ⟨g10, 0, none⟩)) ?_ (hK _ _ rfl (grown_refl W _))
          simp only [execOp, e10]
          try go_simp
         ·intro a vs W hX hR he hf K hK
          have e70 : a.eval (.tmp 70) = .bool true := (he 1 70 (by kernel_rfl) rfl).trans (hR 1 (by kernel_rfl))
          refine Eq.mpr (if_pos (by exact (wanted_some rfl rfl e70).trans rfl)) ?_
          have e77 : a.eval (.tmp 77) = .pointer (some ⟨g10, 0, none⟩) := (he 8 77 (by kernel_rfl) rfl).trans (hR 8 (by kernel_rfl))
          refine wp_value (v := .pointer (some ⟨g10, 17, none⟩)) ?_ (hK _ _ rfl (grown_refl W _))
          simp only [execOp, e77]
          try go_simp
         ·intro a vs W hX hR he hf K hK
          have e70 : a.eval (.tmp 70) = .bool true := (he 1 70 (by kernel_rfl) rfl).trans (hR 1 (by kernel_rfl))
          refine Eq.mpr (if_pos (by exact (wanted_some rfl rfl e70).trans rfl)) ?_
          have e78 : a.eval (.tmp 78) = .pointer (some ⟨g10, 17, none⟩) := (he 9 78 (by kernel_rfl) rfl).trans (hR 9 (by kernel_rfl))
          have hbW := bthen (below_drew _) (grow_below hX)
          have hc : W.cell? ⟨g10, 17, none⟩ = some (.int .i64 y.1.len) := ((HD.out.on hbW).cell 17).trans (it_len HYF.out.addr)
          refine wp_value (v := _) ?_ (hK _ _ rfl (grown_refl W _))
          simp only [execOp, e78]
          try go_simp
         ·intro a vs W hX hR he hf K hK
          have e70 : a.eval (.tmp 70) = .bool true := (he 1 70 (by kernel_rfl) rfl).trans (hR 1 (by kernel_rfl))
          refine Eq.mpr (if_pos (by exact (wanted_some rfl rfl e70).trans rfl)) ?_
          have e76 : a.eval (.tmp 76) = .int .i64 x.1.len := (he 7 76 (by kernel_rfl) rfl).trans (hR 7 (by kernel_rfl))
          have e79 : a.eval (.tmp 79) = .int .i64 y.1.len := (he 10 79 (by kernel_rfl) rfl).trans (hR 10 (by kernel_rfl))
          refine wp_value (v := .bool false) ?_ (hK _ _ rfl (grown_refl W _))
          have h9 := HLE.out
          simp only [execOp, e76, e79]
          go_simp
          try omega
         ·intro a vs W hX hR he hf K hK
          rw [if_pos (wanted_none rfl)]
          have e70 : a.eval (.tmp 70) = .bool true := (he 1 70 (by kernel_rfl) rfl).trans (hR 1 (by kernel_rfl))
          have e80 : a.eval (.tmp 80) = .bool false := (he 11 80 (by kernel_rfl) rfl).trans (hR 11 (by kernel_rfl))
          refine wp_value (v := .bool false) ?_ (hK _ _ rfl (grown_refl W _))
          simp only [execOp, e70, e80]
          try go_simp
         ·intro vs wy hXx hR
          have q0 := hR 0 (by decide)
          have q1 := hR 1 (by decide)
          have q2 := hR 2 (by decide)
          have q3 := hR 3 (by decide)
          have q4 := hR 4 (by decide)
          have q5 := hR 5 (by decide)
          have q6 := hR 6 (by decide)
          have q7 := hR 7 (by decide)
          have q8 := hR 8 (by decide)
          have q9 := hR 9 (by decide)
          have q10 := hR 10 (by decide)
          have q11 := hR 11 (by decide)
          have q12 := hR 12 (by decide)
          change vs 0 = .bool true at q0
          change vs 1 = .bool true at q1
          change vs 2 = .slice (some ⟨bM, oM, none⟩) m c2 at q2
          change vs 3 = .int .i64 (k : Int) at q3
          change vs 4 = .pointer (some ⟨bM, oM + k * 19, none⟩) at q4
          change vs 5 = .pointer (some ⟨bM, oM + k * 19, none⟩) at q5
          change vs 6 = .pointer (some ⟨bM, oM + k * 19 + 17, none⟩) at q6
          change vs 7 = .int .i64 x.1.len at q7
          change vs 8 = .pointer (some ⟨g10, 0, none⟩) at q8
          change vs 9 = .pointer (some ⟨g10, 17, none⟩) at q9
          change vs 10 = .int .i64 y.1.len at q10
          change vs 11 = .bool false at q11
          change vs 12 = .bool false at q12
          simp only [putAll, Act.put, List.setIfInBounds_toArray, List.set_cons_zero, List.set_cons_succ, q0, q1, q2, q3, q4, q5, q6, q7, q8, q9, q10, q11, q12]
          clear q0 q1 q2 q3 q4 q5 q6 q7 q8 q9 q10 q11 q12
          clear hR
          replace hBE := Lib.hid (hBE.out.trans ((bthen (below_drew _) (grow_below hXx)).mono hBE.out.size))
          replace HA := Lib.hid (HA.out.on (bthen (below_drew _) (grow_below hXx)))
          replace HD := Lib.hid (HD.out.on (bthen (below_drew _) (grow_below hXx)))
          replace HXM := Lib.hid (range_below (bthen (below_drew _) (grow_below hXx)) HBM.out HXM.out)
          replace HBM := Lib.hid (Nat.lt_of_lt_of_le HBM.out (bthen (below_drew _) (grow_below hXx)).size)
          clear hXx
          go_wp2_with fail
          go_roundw
          case rel => exact ⟨k + 1, by omega, by simp, by rw [HNX.out], hBE.out⟩
          case measure => simp [intOf]; omega
     ·obtain rfl : k = m := by omega
      have htl : L.take k = L := List.take_of_length_le (by rw [HLM.out]; exact Nat.le_refl _)
      rw [htl, HAN.out]
      clear hbe htl
      go_wp2_with (refine wpList_value (by rfl) (exec_load_mid 30 _ rfl g10 0 (by rfl) y.1.cells _ (blk_px HD.out HYF.out.addr) Try.underlying30 rfl (sizePx _ HYF.out.addr)) ?_)
      refine (tget_B HT.out y.1 HYF.out).mono ?_
      rintro e w8 ⟨rfl, hb⟩
      replace HW := Lib.hid (bthen HW.out hb)
      replace HA := Lib.hid (HA.out.on hb)
      replace HD := Lib.hid (HD.out.on hb)
      clear hb
      cases b
      ·go_wp2_with fail
       go_ret
       exact ⟨rfl, HW.out⟩
      ·obtain ⟨hyg, hya, hy2, hyh⟩ := HYE.out rfl
       rw [hy2, hyh]
       have HYG := Lib.hid hyg
       have HYA := Lib.hid hya
       clear hyg hya hy2 hyh
       have c18 : w8.cell? ⟨g10, 18, none⟩ = some (.int .i64 y.2) := (HD.out.cell 18).trans (it_val y HYF.out.addr)
       go_wp2_with (first
        | (refine wpList_value (by rfl) (exec_load_mid 30 _ rfl g10 0 (by rfl) y.1.cells _ (blk_px HD.out HYF.out.addr) Try.underlying30 rfl (sizePx _ HYF.out.addr)) ?_)
        | (refine wpList_value (by rfl) (exec_load 28 _ rfl g5 (by rfl) 28 (bv ad) _ HA.out Try.underlying28 rfl (size16 _ HAL.out)) ?_))
       refine (rhas_any y.1 HYG.out ad HAL.out w8).mono ?_
       rintro e w9 ⟨rfl, hb⟩
       rw [HYA.out]
       replace HW := Lib.hid (bthen HW.out hb)
       clear c18
       go_wp2_with fail
       go_ret
       exact ⟨rfl, HW.out⟩
end Go.Proofs.Ytbemhcihmlijaaa

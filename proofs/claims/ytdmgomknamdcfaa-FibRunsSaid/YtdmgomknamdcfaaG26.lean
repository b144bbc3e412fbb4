/- Texts of this claim put together, in build order: each one's own remark stands ahead of it. -/
import Derived.Test.YtdmgomknamdcfaaG02
import Derived.Test.YtdmgomknamdcfaaG25
import Derived.Deep.DeepCutAuto
/- What the reference's Look (layer 9) computes. No condition but sizes. -/
namespace Go.Proofs.Ytdmgomknamdcfaa
open Go.RowKit
set_option linter.unusedVariables false
set_option maxRecDepth 20000
set_option linter.unusedSimpArgs false

theorem wanted_undef {ops : Array Oper} {o : Oper} {a : Act} {g : Nat} {want : Bool} {d : Tmp} (h : o.guard = some (g, want)) (hd : dstOf ops g = some d) (hv : a.eval (.tmp d) = undef) : Region.wanted o (yielded ops a.tmps) = false := by
 unfold Region.wanted
 rw [h]
 simp only
 have hy : yielded ops a.tmps g = none := by
  unfold yielded
  have hd' : (ops[g]?).bind (·.dst) = some d := hd
  rw [hd']
  simp only [Option.bind_some]
  have hv' : a.tmps[d]?.getD undef = undef := by simpa [Act.eval] using hv
  cases ht : a.tmps[d]? with
  | none => rfl
  | some v =>
   rw [ht] at hv'
   simp only [Option.getD_some] at hv'
   rw [hv']
   rfl
 rw [hy]
 cases want <;> rfl
theorem bestP_snoc (a : List UInt8) (x : Itm) : ∀ (L : List Itm) (b : Option Itm), bestP a (L ++ [x]) b = if hasA x.1 a && betterP (bestP a L b) x then some x else bestP a L b
 | [], b => rfl
 | y :: L, b => bestP_snoc a x L _
/-- where the best one stands -/
def atB (L : List Itm) (k : Nat) (a : List UInt8) : Option Nat → Prop
 | none => bestP a (L.take k) none = none
 | some j => j < k ∧ ∃ y, L[j]? = some y ∧ bestP a (L.take k) none = some y
def atI : Option Nat → Int
 | none => -1
 | some j => (j : Int)
theorem its_at2 {w : World} {B n : Nat} {A : Option Addr} {L : List Itm} (h : Row w B 19 A n (its L)) (hL : ∀ x ∈ L, x.1.fit) (i : Nat) (x : Itm) (hi : L[i]? = some x) :
  ∃ b o, A = some ⟨b, o, none⟩ ∧ b < B ∧ w.rangeAt b (o + i * 19) (itC x) := by
 have hn := its_row h hL
 have hx := hL x (List.mem_of_getElem? hi)
 have hlt := (List.getElem?_eq_some_iff.1 hi).1
 obtain ⟨b, o, rfl, hb, hc⟩ := h.2 (by omega)
 refine ⟨b, o, rfl, hb, fun j v hv => ?_⟩
 have hj : j < 19 := by
  have := (List.getElem?_eq_some_iff.1 hv).1
  rw [itC_length x hx.addr] at this
  exact this
 rw [Nat.add_assoc]
 refine hc _ v ?_
 rw [its_cell L hL i x hi j hj]
 exact hv
theorem it_px {w : World} {b o : Nat} {x : Itm} (h : w.rangeAt b o (itC x)) : w.rangeAt b o x.1.cells := fun j v hv => h j v (by
 unfold itC
 rw [List.getElem?_append_left (List.getElem?_eq_some_iff.1 hv).1]
 exact hv)
theorem it_len {x : Itm} (h : x.1.addr.length = 16) : (itC x)[17]? = some (.int .i64 x.1.len) := by
 unfold itC
 rw [List.getElem?_append_left (by rw [x.1.cells_length h]; omega)]
 exact x.1.get_len h
theorem size57 (x : Itm) (h : x.1.addr.length = 16) : (Try.prog.info? 57).map (·.size) = some (itC x).length := by rw [itC_length x h]; kernel_rfl
theorem zero57 (w : World) : (zeroValue 57).run Try.prog w = .ok (.agg (itC (Px.zero, 0)).toArray) w := by kernel_rfl
theorem exec_buildI0 {w : World} {o : Oper} {q : Act} (ho : o.op = .build 57 #[]) : (execOp q.eval o).run Try.prog w = .ok (.value (.agg (itC (Px.zero, 0)).toArray)) w := by
 unfold execOp
 simp only [ho, List.map_toArray, List.map_nil, Sem.run_bind, show (Instr.build 57 #[]).run Try.prog w = .ok (.agg (itC (Px.zero, 0)).toArray) w by kernel_rfl, Result.andThen_ok]
 rfl
/-- what Look answers -/
def ansL' (L : List Itm) (a : List UInt8) : Itm × Bool := match bestP a L none with | none => ((Px.zero, 0), false) | some x => (x, true)
set_option maxHeartbeats 4000000 in
theorem rlook_any (is six : Bool) (room : Int) (L : List Itm) (hL : ∀ x ∈ L, x.1.good) (A : Option Addr) (n c : Nat) (hn : n ≤ 100000) (ad : List UInt8) (ha : ad.length = 16) (w : World) (hr : Row w w.heap.size 19 A n (its L)) :
  Calls Try.prog 52 #[.agg (tC is six room (.slice A n c)).toArray, .agg (bv ad).toArray] w fun e w' => e = .returned (.tuple #[.agg (itC (ansL' L ad).1).toArray, .bool (ansL' L ad).2]) ∧ Below w.heap.size w w' := by
 have HAL := Hh ha
 have HG := Hh hL
 have HL := Hh (show ∀ x ∈ L, x.1.fit from fun x hx => (hL x hx).fit)
 have HR := Hh hr
 have HLN := Hh (its_row hr HL.out)
 clear ha hL hr
 go_enter Try.func52, Try.ntmps52
 go_upto_region 1 with (first
  | (refine wpList_box_blk (by rfl) 50 (.tmp 0) rfl (tC is six room (.slice A n c)) rfl ?_; intro w1 hb1 hB1 hs1; clear hs1)
  | (refine wpList_box_blk (by rfl) 23 (.tmp 1) rfl (bv ad) rfl ?_; intro w2 hb2 hB2 hs2; clear hs2)
  | (refine wpList_alloc_blk (by rfl) 57 rfl (itC (Px.zero, 0)) zero57 ?_; intro w3 hb3 hB3 hs3; clear hs3))
 obtain ⟨g2, hg2⟩ : ∃ g, w.heap.size = g := ⟨_, rfl⟩
 obtain ⟨g3, hg3⟩ : ∃ g, w1.heap.size = g := ⟨_, rfl⟩
 obtain ⟨g4, hg4⟩ : ∃ g, w2.heap.size = g := ⟨_, rfl⟩
 have hk2 := (hb1.on hB2).on hB3
 have hk3 := hb2.on hB3
 have HW3 := Hh (bthen (bthen hB1 hB2) hB3)
 have HLE := Hh (show w.heap.size ≤ g4 by have := (bthen hB1 hB2).size; omega)
 rw [hg2] at hk2
 rw [hg3] at hk3
 rw [hg4] at hb3
 try rw [hg2]
 try rw [hg3]
 try rw [hg4]
 have HT3 := Hh hk2
 have HA3 := Hh hk3
 have HD3 := Hh hb3
 clear hb1 hB1 hb2 hB2 hb3 hB3 hk2 hk3 hg2 hg3 hg4
 go_wp2_with fail
 go_loopw [6, 7] (fun at' i wr => ∃ (k : Nat) (j : Option Nat), k ≤ n ∧ i = .int .i64 (k : Nat) ∧ at' = .int .i64 (atI j) ∧ atB L k ad j ∧ Below w3.heap.size w3 wr) (fun _ i _ => n - (intOf i).toNat)
 case atStart => exact ⟨0, none, by omega, rfl, rfl, rfl, Below.refl _ _⟩
 case round =>
  obtain ⟨k, j, hk, rfl, rfl, hj, hbe⟩ := hrel
  have HJ := Hh hj
  have hBE := Hh hbe
  have HT := Hh (HT3.out.on hbe)
  have HA := Hh (HA3.out.on hbe)
  have HD := Hh (HD3.out.on hbe)
  have HW := Hh (bthen HW3.out hbe)
  clear hj hbe
  have c3 : wr.cell? ⟨g2, 3, none⟩ = some (.slice A n c) := HT.out.cell 3
  by_cases hlt : k < n
  ·obtain ⟨x, hx⟩ := get_ex L (k := k) (by rw [HLN.out]; exact hlt)
   obtain ⟨bA, oA, rfl, hbA, hcA⟩ := its_at2 HR.out HL.out k x hx
   have HXF := Hh (HL.out x (List.mem_of_getElem? hx))
   have HXG := Hh (HG.out x (List.mem_of_getElem? hx))
   have HXR := Hh (range_below HW.out hbA hcA)
   have HBA := Hh (show bA < wr.heap.size from Nat.lt_of_lt_of_le hbA HW.out.size)
   have HGX := Hh hx
   have hlt2 : (k : Int) < (n : Int) := by omega
   have hlt3 : (k : Int) + 1 ≤ (n : Int) := by omega
   have htk : L.take (k + 1) = L.take k ++ [x] := take_snoc L k x hx
   have HTK := Hh htk
   clear hcA hbA hx htk
   cases hh : hasA x.1 ad
   ·have HH := Hh hh
    have HNX := Hh (show atB L (k + 1) ad j by
     have h9 := HJ.out
     cases j with
     | none => unfold atB at h9 ⊢; rw [HTK.out, bestP_snoc, HH.out, h9]; rfl
     | some j => unfold atB at h9 ⊢; obtain ⟨h1, y, h2, h3⟩ := h9; exact ⟨by omega, y, h2, by rw [HTK.out, bestP_snoc, HH.out]; exact h3⟩)
    clear hh
    go_wp2_with fail
    refine wp_region_rel (fun A B => A.grownBy B none) (fun A => grown_refl A _) (fun A B C h k => grown_trans h k) (relAt (eqs [.pointer (some ⟨g2, 3, none⟩), .slice (some ⟨bA, oA, none⟩) n c, .int .i64 (k : Int), .pointer (some ⟨bA, oA + k * 19, none⟩), .pointer (some ⟨bA, oA + k * 19, none⟩), .agg x.1.cells.toArray, .agg (bv ad).toArray, .bool false, .bool false, undef, undef, undef, undef, undef, undef, undef, undef, undef, undef, undef, undef, undef, undef, undef, undef, undef, undef, undef, .bool false])) (MonoL.at_ (eqs_mono _)) (by kernel_rfl) (by kernel_rfl) ⟨?_, ?_, ?_, ?_, ?_, ?_, ?_, ?_, ?_, ?_, ?_, ?_, ?_, ?_, ?_, ?_, ?_, ?_, ?_, ?_, ?_, ?_, ?_, ?_, ?_, ?_, ?_, ?_, ?_, trivial⟩ ?_
    ·intro a vs W hX hR he hf K hK
     refine wn rfl ?_
     have e2 : a.eval (.tmp 2) = .pointer (some ⟨g2, 0, none⟩) := hf 2 (by kernel_rfl)
     refine wV hK rfl ?_
     simp only [execOp, e2]
     try go_simp
    ·intro a vs W hX hR he hf K hK
     refine wn rfl ?_
     have e15 : a.eval (.tmp 15) = .pointer (some ⟨g2, 3, none⟩) := eH he hR 0 (by kernel_rfl) rfl
     have hbW := bthen (below_drew _) (grow_below hX)
     have hc : W.cell? ⟨g2, 3, none⟩ = some (.slice (some ⟨bA, oA, none⟩) n c) := (HT.out.on hbW).cell 3
     refine wV hK rfl ?_
     simp only [execOp, e15]
     try go_simp
    ·intro a vs W hX hR he hf K hK
     refine wn rfl ?_
     have e7 : a.eval (.tmp 7) = .int .i64 (k : Int) := hf 7 (by kernel_rfl)
     refine wV hK rfl ?_
     simp only [execOp, e7]
     try go_simp
    ·intro a vs W hX hR he hf K hK
     refine wn rfl ?_
     have e16 : a.eval (.tmp 16) = .slice (some ⟨bA, oA, none⟩) n c := eH he hR 1 (by kernel_rfl) rfl
     have e17 : a.eval (.tmp 17) = .int .i64 (k : Int) := eH he hR 2 (by kernel_rfl) rfl
     refine wV hK rfl ?_
     simp only [execOp, e16, e17]
     go_simp
    ·intro a vs W hX hR he hf K hK
     refine wn rfl ?_
     have e18 : a.eval (.tmp 18) = .pointer (some ⟨bA, oA + k * 19, none⟩) := eH he hR 3 (by kernel_rfl) rfl
     refine wV hK rfl ?_
     simp only [execOp, e18]
     try go_simp
    ·intro a vs W hX hR he hf K hK
     refine wn rfl ?_
     have e19 : a.eval (.tmp 19) = .pointer (some ⟨bA, oA + k * 19, none⟩) := eH he hR 4 (by kernel_rfl) rfl
     have hbW := bthen (below_drew _) (grow_below hX)
     exact wp_value (exec_load_mid 30 _ rfl bA (oA + k * 19) e19 x.1.cells _ (range_below hbW HBA.out (it_px HXR.out)) Try.underlying30 rfl (sizePx _ HXF.out.addr)) (gK hK rfl)
    ·intro a vs W hX hR he hf K hK
     refine wn rfl ?_
     have e3 : a.eval (.tmp 3) = .pointer (some ⟨g3, 0, none⟩) := hf 3 (by kernel_rfl)
     have hbW := bthen (below_drew _) (grow_below hX)
     exact wp_value (exec_load 23 _ rfl g3 e3 23 (bv ad) _ (HA.out.on hbW) Try.underlying23 rfl (size16 _ HAL.out)) (gK hK rfl)
    ·intro a vs W hX hR he hf K hK
     refine wn rfl ?_
     have e20 : a.eval (.tmp 20) = .agg x.1.cells.toArray := eH he hR 5 (by kernel_rfl) rfl
     have e21 : a.eval (.tmp 21) = .agg (bv ad).toArray := eH he hR 6 (by kernel_rfl) rfl
     refine wp_enter (f := 46) (args := #[.agg x.1.cells.toArray, .agg (bv ad).toArray]) (by simp only [execOp, e20, e21]; go_simp; exact ⟨by simpa [Act.eval] using e20, by simpa [Act.eval] using e21⟩) ((rhas_any x.1 HXG.out ad HAL.out W).mono ?_)
     rintro e w' ⟨rfl, hb⟩
     rw [HH.out]
     exact ⟨_, rfl, hK _ _ rfl (below_grow hb _)⟩
    ·intro a vs W hX hR he hf K hK
     refine wn rfl ?_
     have e22 : a.eval (.tmp 22) = .bool false := eH he hR 7 (by kernel_rfl) rfl
     refine wV hK rfl ?_
     simp only [execOp, e22]
     try go_simp
    ·intro a vs W hX hR he hf K hK
     have e23 : a.eval (.tmp 23) = .bool false := eH he hR 8 (by kernel_rfl) rfl
     exact gN e23 rfl rfl rfl (gK hK rfl)
    ·intro a vs W hX hR he hf K hK
     have e23 : a.eval (.tmp 23) = .bool false := eH he hR 8 (by kernel_rfl) rfl
     exact gN e23 rfl rfl rfl (gK hK rfl)
    ·intro a vs W hX hR he hf K hK
     have e23 : a.eval (.tmp 23) = .bool false := eH he hR 8 (by kernel_rfl) rfl
     exact gN e23 rfl rfl rfl (gK hK rfl)
    ·intro a vs W hX hR he hf K hK
     have e26 : a.eval (.tmp 26) = undef := eH he hR 11 (by kernel_rfl) rfl
     refine Eq.mpr (if_neg (fun hz => Bool.false_ne_true ((wanted_undef rfl rfl e26).symm.trans hz))) ?_
     exact gK hK rfl
    ·intro a vs W hX hR he hf K hK
     have e26 : a.eval (.tmp 26) = undef := eH he hR 11 (by kernel_rfl) rfl
     refine Eq.mpr (if_neg (fun hz => Bool.false_ne_true ((wanted_undef rfl rfl e26).symm.trans hz))) ?_
     exact gK hK rfl
    ·intro a vs W hX hR he hf K hK
     have e26 : a.eval (.tmp 26) = undef := eH he hR 11 (by kernel_rfl) rfl
     refine Eq.mpr (if_neg (fun hz => Bool.false_ne_true ((wanted_undef rfl rfl e26).symm.trans hz))) ?_
     exact gK hK rfl
    ·intro a vs W hX hR he hf K hK
     have e26 : a.eval (.tmp 26) = undef := eH he hR 11 (by kernel_rfl) rfl
     refine Eq.mpr (if_neg (fun hz => Bool.false_ne_true ((wanted_undef rfl rfl e26).symm.trans hz))) ?_
     exact gK hK rfl
    ·intro a vs W hX hR he hf K hK
     have e26 : a.eval (.tmp 26) = undef := eH he hR 11 (by kernel_rfl) rfl
     refine Eq.mpr (if_neg (fun hz => Bool.false_ne_true ((wanted_undef rfl rfl e26).symm.trans hz))) ?_
     exact gK hK rfl
    ·intro a vs W hX hR he hf K hK
     have e26 : a.eval (.tmp 26) = undef := eH he hR 11 (by kernel_rfl) rfl
     refine Eq.mpr (if_neg (fun hz => Bool.false_ne_true ((wanted_undef rfl rfl e26).symm.trans hz))) ?_
     exact gK hK rfl
    ·intro a vs W hX hR he hf K hK
     have e26 : a.eval (.tmp 26) = undef := eH he hR 11 (by kernel_rfl) rfl
     refine Eq.mpr (if_neg (fun hz => Bool.false_ne_true ((wanted_undef rfl rfl e26).symm.trans hz))) ?_
     exact gK hK rfl
    ·intro a vs W hX hR he hf K hK
     have e26 : a.eval (.tmp 26) = undef := eH he hR 11 (by kernel_rfl) rfl
     refine Eq.mpr (if_neg (fun hz => Bool.false_ne_true ((wanted_undef rfl rfl e26).symm.trans hz))) ?_
     exact gK hK rfl
    ·intro a vs W hX hR he hf K hK
     have e26 : a.eval (.tmp 26) = undef := eH he hR 11 (by kernel_rfl) rfl
     refine Eq.mpr (if_neg (fun hz => Bool.false_ne_true ((wanted_undef rfl rfl e26).symm.trans hz))) ?_
     exact gK hK rfl
    ·intro a vs W hX hR he hf K hK
     have e26 : a.eval (.tmp 26) = undef := eH he hR 11 (by kernel_rfl) rfl
     refine Eq.mpr (if_neg (fun hz => Bool.false_ne_true ((wanted_undef rfl rfl e26).symm.trans hz))) ?_
     exact gK hK rfl
    ·intro a vs W hX hR he hf K hK
     have e26 : a.eval (.tmp 26) = undef := eH he hR 11 (by kernel_rfl) rfl
     refine Eq.mpr (if_neg (fun hz => Bool.false_ne_true ((wanted_undef rfl rfl e26).symm.trans hz))) ?_
     exact gK hK rfl
    ·intro a vs W hX hR he hf K hK
     have e26 : a.eval (.tmp 26) = undef := eH he hR 11 (by kernel_rfl) rfl
     refine Eq.mpr (if_neg (fun hz => Bool.false_ne_true ((wanted_undef rfl rfl e26).symm.trans hz))) ?_
     exact gK hK rfl
    ·intro a vs W hX hR he hf K hK
     have e26 : a.eval (.tmp 26) = undef := eH he hR 11 (by kernel_rfl) rfl
     refine Eq.mpr (if_neg (fun hz => Bool.false_ne_true ((wanted_undef rfl rfl e26).symm.trans hz))) ?_
     exact gK hK rfl
    ·intro a vs W hX hR he hf K hK
     have e26 : a.eval (.tmp 26) = undef := eH he hR 11 (by kernel_rfl) rfl
     refine Eq.mpr (if_neg (fun hz => Bool.false_ne_true ((wanted_undef rfl rfl e26).symm.trans hz))) ?_
     exact gK hK rfl
    ·intro a vs W hX hR he hf K hK
     have e26 : a.eval (.tmp 26) = undef := eH he hR 11 (by kernel_rfl) rfl
     refine Eq.mpr (if_neg (fun hz => Bool.false_ne_true ((wanted_undef rfl rfl e26).symm.trans hz))) ?_
     exact gK hK rfl
    ·intro a vs W hX hR he hf K hK
     have e23 : a.eval (.tmp 23) = .bool false := eH he hR 8 (by kernel_rfl) rfl
     exact gN e23 rfl rfl rfl (gK hK rfl)
    ·intro a vs W hX hR he hf K hK
     refine wn rfl ?_
     have e23 : a.eval (.tmp 23) = .bool false := eH he hR 8 (by kernel_rfl) rfl
     have e42 : a.eval (.tmp 42) = undef := eH he hR 27 (by kernel_rfl) rfl
     refine wV hK rfl ?_
     simp only [execOp, e23, e42]
     try go_simp
    intro vs wx hXx hR
    rw [put_eqs hR rfl]
    simp only [putL, Act.put, List.setIfInBounds_toArray, List.set_cons_zero, List.set_cons_succ]
    clear hR
    replace hBE := Hh (hBE.out.trans ((bthen (below_drew _) (grow_below hXx)).mono hBE.out.size))
    clear hXx c3
    go_wp2_with fail
    go_roundw
    case rel => exact ⟨k + 1, j, by omega, by simp, rfl, HNX.out, hBE.out⟩
    case measure => simp [intOf]; omega
   have HH := Hh hh
   clear hh
   cases j with
   | none =>
    have HNX := Hh (show atB L (k + 1) ad (some k) by
     have h9 := HJ.out
     unfold atB at h9 ⊢
     exact ⟨by omega, x, HGX.out, by rw [HTK.out, bestP_snoc, HH.out, h9]; rfl⟩)
    have HMI := Hh (show atI none = -1 from rfl)
    rw [HMI.out]
    go_wp2_with fail
    refine wp_region_rel (fun A B => A.grownBy B none) (fun A => grown_refl A _) (fun A B C h k => grown_trans h k) (relAt (eqs [.pointer (some ⟨g2, 3, none⟩), .slice (some ⟨bA, oA, none⟩) n c, .int .i64 (k : Int), .pointer (some ⟨bA, oA + k * 19, none⟩), .pointer (some ⟨bA, oA + k * 19, none⟩), .agg x.1.cells.toArray, .agg (bv ad).toArray, .bool true, .bool true, .int .i64 (-1), .bool true, .bool true, undef, undef, undef, undef, undef, undef, undef, undef, undef, undef, undef, undef, undef, undef, undef, .bool true, .bool true])) (MonoL.at_ (eqs_mono _)) (by kernel_rfl) (by kernel_rfl) ⟨?_, ?_, ?_, ?_, ?_, ?_, ?_, ?_, ?_, ?_, ?_, ?_, ?_, ?_, ?_, ?_, ?_, ?_, ?_, ?_, ?_, ?_, ?_, ?_, ?_, ?_, ?_, ?_, ?_, trivial⟩ ?_
    ·intro a vs W hX hR he hf K hK
     refine wn rfl ?_
     have e2 : a.eval (.tmp 2) = .pointer (some ⟨g2, 0, none⟩) := hf 2 (by kernel_rfl)
     refine wV hK rfl ?_
     simp only [execOp, e2]
     try go_simp
    ·intro a vs W hX hR he hf K hK
     refine wn rfl ?_
     have e15 : a.eval (.tmp 15) = .pointer (some ⟨g2, 3, none⟩) := eH he hR 0 (by kernel_rfl) rfl
     have hbW := bthen (below_drew _) (grow_below hX)
     have hc : W.cell? ⟨g2, 3, none⟩ = some (.slice (some ⟨bA, oA, none⟩) n c) := (HT.out.on hbW).cell 3
     refine wV hK rfl ?_
     simp only [execOp, e15]
     try go_simp
    ·intro a vs W hX hR he hf K hK
     refine wn rfl ?_
     have e7 : a.eval (.tmp 7) = .int .i64 (k : Int) := hf 7 (by kernel_rfl)
     refine wV hK rfl ?_
     simp only [execOp, e7]
     try go_simp
    ·intro a vs W hX hR he hf K hK
     refine wn rfl ?_
     have e16 : a.eval (.tmp 16) = .slice (some ⟨bA, oA, none⟩) n c := eH he hR 1 (by kernel_rfl) rfl
     have e17 : a.eval (.tmp 17) = .int .i64 (k : Int) := eH he hR 2 (by kernel_rfl) rfl
     refine wV hK rfl ?_
     simp only [execOp, e16, e17]
     go_simp
    ·intro a vs W hX hR he hf K hK
     refine wn rfl ?_
     have e18 : a.eval (.tmp 18) = .pointer (some ⟨bA, oA + k * 19, none⟩) := eH he hR 3 (by kernel_rfl) rfl
     refine wV hK rfl ?_
     simp only [execOp, e18]
     try go_simp
    ·intro a vs W hX hR he hf K hK
     refine wn rfl ?_
     have e19 : a.eval (.tmp 19) = .pointer (some ⟨bA, oA + k * 19, none⟩) := eH he hR 4 (by kernel_rfl) rfl
     have hbW := bthen (below_drew _) (grow_below hX)
     exact wp_value (exec_load_mid 30 _ rfl bA (oA + k * 19) e19 x.1.cells _ (range_below hbW HBA.out (it_px HXR.out)) Try.underlying30 rfl (sizePx _ HXF.out.addr)) (gK hK rfl)
    ·intro a vs W hX hR he hf K hK
     refine wn rfl ?_
     have e3 : a.eval (.tmp 3) = .pointer (some ⟨g3, 0, none⟩) := hf 3 (by kernel_rfl)
     have hbW := bthen (below_drew _) (grow_below hX)
     exact wp_value (exec_load 23 _ rfl g3 e3 23 (bv ad) _ (HA.out.on hbW) Try.underlying23 rfl (size16 _ HAL.out)) (gK hK rfl)
    ·intro a vs W hX hR he hf K hK
     refine wn rfl ?_
     have e20 : a.eval (.tmp 20) = .agg x.1.cells.toArray := eH he hR 5 (by kernel_rfl) rfl
     have e21 : a.eval (.tmp 21) = .agg (bv ad).toArray := eH he hR 6 (by kernel_rfl) rfl
     refine wp_enter (f := 46) (args := #[.agg x.1.cells.toArray, .agg (bv ad).toArray]) (by simp only [execOp, e20, e21]; go_simp; exact ⟨by simpa [Act.eval] using e20, by simpa [Act.eval] using e21⟩) ((rhas_any x.1 HXG.out ad HAL.out W).mono ?_)
     rintro e w' ⟨rfl, hb⟩
     rw [HH.out]
     exact ⟨_, rfl, hK _ _ rfl (below_grow hb _)⟩
    ·intro a vs W hX hR he hf K hK
     refine wn rfl ?_
     have e22 : a.eval (.tmp 22) = .bool true := eH he hR 7 (by kernel_rfl) rfl
     refine wV hK rfl ?_
     simp only [execOp, e22]
     try go_simp
    ·intro a vs W hX hR he hf K hK
     have e23 : a.eval (.tmp 23) = .bool true := eH he hR 8 (by kernel_rfl) rfl
     refine gT e23 rfl rfl rfl ?_
     have e6 : a.eval (.tmp 6) = .int .i64 (-1) := hf 6 (by kernel_rfl)
     refine wV hK rfl ?_
     simp only [execOp, e6]
     try go_simp
    ·intro a vs W hX hR he hf K hK
     have e23 : a.eval (.tmp 23) = .bool true := eH he hR 8 (by kernel_rfl) rfl
     refine gT e23 rfl rfl rfl ?_
     have e24 : a.eval (.tmp 24) = .int .i64 (-1) := eH he hR 9 (by kernel_rfl) rfl
     refine wV hK rfl ?_
     simp only [execOp, e24]
     try go_simp
    ·intro a vs W hX hR he hf K hK
     have e23 : a.eval (.tmp 23) = .bool true := eH he hR 8 (by kernel_rfl) rfl
     refine gT e23 rfl rfl rfl ?_
     have e25 : a.eval (.tmp 25) = .bool true := eH he hR 10 (by kernel_rfl) rfl
     refine wV hK rfl ?_
     simp only [execOp, e25]
     try go_simp
    ·intro a vs W hX hR he hf K hK
     have e26 : a.eval (.tmp 26) = .bool true := eH he hR 11 (by kernel_rfl) rfl
     exact gN e26 rfl rfl rfl (gK hK rfl)
    ·intro a vs W hX hR he hf K hK
     have e26 : a.eval (.tmp 26) = .bool true := eH he hR 11 (by kernel_rfl) rfl
     exact gN e26 rfl rfl rfl (gK hK rfl)
    ·intro a vs W hX hR he hf K hK
     have e26 : a.eval (.tmp 26) = .bool true := eH he hR 11 (by kernel_rfl) rfl
     exact gN e26 rfl rfl rfl (gK hK rfl)
    ·intro a vs W hX hR he hf K hK
     have e26 : a.eval (.tmp 26) = .bool true := eH he hR 11 (by kernel_rfl) rfl
     exact gN e26 rfl rfl rfl (gK hK rfl)
    ·intro a vs W hX hR he hf K hK
     have e26 : a.eval (.tmp 26) = .bool true := eH he hR 11 (by kernel_rfl) rfl
     exact gN e26 rfl rfl rfl (gK hK rfl)
    ·intro a vs W hX hR he hf K hK
     have e26 : a.eval (.tmp 26) = .bool true := eH he hR 11 (by kernel_rfl) rfl
     exact gN e26 rfl rfl rfl (gK hK rfl)
    ·intro a vs W hX hR he hf K hK
     have e26 : a.eval (.tmp 26) = .bool true := eH he hR 11 (by kernel_rfl) rfl
     exact gN e26 rfl rfl rfl (gK hK rfl)
    ·intro a vs W hX hR he hf K hK
     have e26 : a.eval (.tmp 26) = .bool true := eH he hR 11 (by kernel_rfl) rfl
     exact gN e26 rfl rfl rfl (gK hK rfl)
    ·intro a vs W hX hR he hf K hK
     have e26 : a.eval (.tmp 26) = .bool true := eH he hR 11 (by kernel_rfl) rfl
     exact gN e26 rfl rfl rfl (gK hK rfl)
    ·intro a vs W hX hR he hf K hK
     have e26 : a.eval (.tmp 26) = .bool true := eH he hR 11 (by kernel_rfl) rfl
     exact gN e26 rfl rfl rfl (gK hK rfl)
    ·intro a vs W hX hR he hf K hK
     have e26 : a.eval (.tmp 26) = .bool true := eH he hR 11 (by kernel_rfl) rfl
     exact gN e26 rfl rfl rfl (gK hK rfl)
    ·intro a vs W hX hR he hf K hK
     have e26 : a.eval (.tmp 26) = .bool true := eH he hR 11 (by kernel_rfl) rfl
     exact gN e26 rfl rfl rfl (gK hK rfl)
    ·intro a vs W hX hR he hf K hK
     have e26 : a.eval (.tmp 26) = .bool true := eH he hR 11 (by kernel_rfl) rfl
     exact gN e26 rfl rfl rfl (gK hK rfl)
    ·intro a vs W hX hR he hf K hK
     have e26 : a.eval (.tmp 26) = .bool true := eH he hR 11 (by kernel_rfl) rfl
     exact gN e26 rfl rfl rfl (gK hK rfl)
    ·intro a vs W hX hR he hf K hK
     have e26 : a.eval (.tmp 26) = .bool true := eH he hR 11 (by kernel_rfl) rfl
     exact gN e26 rfl rfl rfl (gK hK rfl)
    ·intro a vs W hX hR he hf K hK
     have e23 : a.eval (.tmp 23) = .bool true := eH he hR 8 (by kernel_rfl) rfl
     refine gT e23 rfl rfl rfl ?_
     have e26 : a.eval (.tmp 26) = .bool true := eH he hR 11 (by kernel_rfl) rfl
     have e41 : a.eval (.tmp 41) = undef := eH he hR 26 (by kernel_rfl) rfl
     refine wV hK rfl ?_
     simp only [execOp, e26, e41]
     try go_simp
    ·intro a vs W hX hR he hf K hK
     refine wn rfl ?_
     have e23 : a.eval (.tmp 23) = .bool true := eH he hR 8 (by kernel_rfl) rfl
     have e42 : a.eval (.tmp 42) = .bool true := eH he hR 27 (by kernel_rfl) rfl
     refine wV hK rfl ?_
     simp only [execOp, e23, e42]
     try go_simp
    intro vs wx hXx hR
    rw [put_eqs hR rfl]
    simp only [putL, Act.put, List.setIfInBounds_toArray, List.set_cons_zero, List.set_cons_succ]
    clear hR
    replace hBE := Hh (hBE.out.trans ((bthen (below_drew _) (grow_below hXx)).mono hBE.out.size))
    clear hXx c3
    go_wp2_with fail
    go_roundw
    case rel => exact ⟨k + 1, some k, by omega, by simp, rfl, HNX.out, hBE.out⟩
    case measure => simp [intOf]; omega
   | some j =>
    obtain ⟨hjk, y, hy, hby⟩ := HJ.out
    obtain ⟨b9, o9, h9, hb9, hc9⟩ := its_at2 HR.out HL.out j y hy
    injection h9 with h9
    injection h9 with h9 h10
    subst h9 h10
    have HYF := Hh (HL.out y (List.mem_of_getElem? hy))
    have HYR := Hh (range_below HW.out hb9 hc9)
    have HBY := Hh hby
    have HGY := Hh hy
    have hj2 : (j : Int) < (n : Int) := by omega
    have hjn : ¬ ((j : Int) < 0) := by omega
    clear hc9 hb9 hy hby
    by_cases hbt : y.1.len < x.1.len
    ·have HBT := Hh hbt
     have HNX := Hh (show atB L (k + 1) ad (some k) by
      unfold atB
      exact ⟨by omega, x, HGX.out, by rw [HTK.out, bestP_snoc, HH.out, HBY.out]; simp [betterP, HBT.out]⟩)
     have HMI := Hh (show atI (some j) = (j : Int) from rfl)
     rw [HMI.out]
     clear hbt
     go_wp2_with fail
     refine wp_region_rel (fun A B => A.grownBy B none) (fun A => grown_refl A _) (fun A B C h k => grown_trans h k) (relAt (eqs [.pointer (some ⟨g2, 3, none⟩), .slice (some ⟨bA, oA, none⟩) n c, .int .i64 (k : Int), .pointer (some ⟨bA, oA + k * 19, none⟩), .pointer (some ⟨bA, oA + k * 19, none⟩), .agg x.1.cells.toArray, .agg (bv ad).toArray, .bool true, .bool true, .int .i64 (j : Int), .bool false, .bool false, .pointer (some ⟨g2, 3, none⟩), .slice (some ⟨bA, oA, none⟩) n c, .int .i64 (k : Int), .pointer (some ⟨bA, oA + k * 19, none⟩), .pointer (some ⟨bA, oA + k * 19, none⟩), .pointer (some ⟨bA, oA + k * 19 + 17, none⟩), .int .i64 x.1.len, .pointer (some ⟨g2, 3, none⟩), .slice (some ⟨bA, oA, none⟩) n c, .int .i64 (j : Int), .pointer (some ⟨bA, oA + j * 19, none⟩), .pointer (some ⟨bA, oA + j * 19, none⟩), .pointer (some ⟨bA, oA + j * 19 + 17, none⟩), .int .i64 y.1.len, .bool true, .bool true, .bool true])) (MonoL.at_ (eqs_mono _)) (by kernel_rfl) (by kernel_rfl) ⟨?_, ?_, ?_, ?_, ?_, ?_, ?_, ?_, ?_, ?_, ?_, ?_, ?_, ?_, ?_, ?_, ?_, ?_, ?_, ?_, ?_, ?_, ?_, ?_, ?_, ?_, ?_, ?_, ?_, trivial⟩ ?_
     ·intro a vs W hX hR he hf K hK
      refine wn rfl ?_
      have e2 : a.eval (.tmp 2) = .pointer (some ⟨g2, 0, none⟩) := hf 2 (by kernel_rfl)
      refine wV hK rfl ?_
      simp only [execOp, e2]
      try go_simp
     ·intro a vs W hX hR he hf K hK
      refine wn rfl ?_
      have e15 : a.eval (.tmp 15) = .pointer (some ⟨g2, 3, none⟩) := eH he hR 0 (by kernel_rfl) rfl
      have hbW := bthen (below_drew _) (grow_below hX)
      have hc : W.cell? ⟨g2, 3, none⟩ = some (.slice (some ⟨bA, oA, none⟩) n c) := (HT.out.on hbW).cell 3
      refine wV hK rfl ?_
      simp only [execOp, e15]
      try go_simp
     ·intro a vs W hX hR he hf K hK
      refine wn rfl ?_
      have e7 : a.eval (.tmp 7) = .int .i64 (k : Int) := hf 7 (by kernel_rfl)
      refine wV hK rfl ?_
      simp only [execOp, e7]
      try go_simp
     ·intro a vs W hX hR he hf K hK
      refine wn rfl ?_
      have e16 : a.eval (.tmp 16) = .slice (some ⟨bA, oA, none⟩) n c := eH he hR 1 (by kernel_rfl) rfl
      have e17 : a.eval (.tmp 17) = .int .i64 (k : Int) := eH he hR 2 (by kernel_rfl) rfl
      refine wV hK rfl ?_
      simp only [execOp, e16, e17]
      go_simp
     ·intro a vs W hX hR he hf K hK
      refine wn rfl ?_
      have e18 : a.eval (.tmp 18) = .pointer (some ⟨bA, oA + k * 19, none⟩) := eH he hR 3 (by kernel_rfl) rfl
      refine wV hK rfl ?_
      simp only [execOp, e18]
      try go_simp
     ·intro a vs W hX hR he hf K hK
      refine wn rfl ?_
      have e19 : a.eval (.tmp 19) = .pointer (some ⟨bA, oA + k * 19, none⟩) := eH he hR 4 (by kernel_rfl) rfl
      have hbW := bthen (below_drew _) (grow_below hX)
      exact wp_value (exec_load_mid 30 _ rfl bA (oA + k * 19) e19 x.1.cells _ (range_below hbW HBA.out (it_px HXR.out)) Try.underlying30 rfl (sizePx _ HXF.out.addr)) (gK hK rfl)
     ·intro a vs W hX hR he hf K hK
      refine wn rfl ?_
      have e3 : a.eval (.tmp 3) = .pointer (some ⟨g3, 0, none⟩) := hf 3 (by kernel_rfl)
      have hbW := bthen (below_drew _) (grow_below hX)
      exact wp_value (exec_load 23 _ rfl g3 e3 23 (bv ad) _ (HA.out.on hbW) Try.underlying23 rfl (size16 _ HAL.out)) (gK hK rfl)
     ·intro a vs W hX hR he hf K hK
      refine wn rfl ?_
      have e20 : a.eval (.tmp 20) = .agg x.1.cells.toArray := eH he hR 5 (by kernel_rfl) rfl
      have e21 : a.eval (.tmp 21) = .agg (bv ad).toArray := eH he hR 6 (by kernel_rfl) rfl
      refine wp_enter (f := 46) (args := #[.agg x.1.cells.toArray, .agg (bv ad).toArray]) (by simp only [execOp, e20, e21]; go_simp; exact ⟨by simpa [Act.eval] using e20, by simpa [Act.eval] using e21⟩) ((rhas_any x.1 HXG.out ad HAL.out W).mono ?_)
      rintro e w' ⟨rfl, hb⟩
      rw [HH.out]
      exact ⟨_, rfl, hK _ _ rfl (below_grow hb _)⟩
     ·intro a vs W hX hR he hf K hK
      refine wn rfl ?_
      have e22 : a.eval (.tmp 22) = .bool true := eH he hR 7 (by kernel_rfl) rfl
      refine wV hK rfl ?_
      simp only [execOp, e22]
      try go_simp
     ·intro a vs W hX hR he hf K hK
      have e23 : a.eval (.tmp 23) = .bool true := eH he hR 8 (by kernel_rfl) rfl
      refine gT e23 rfl rfl rfl ?_
      have e6 : a.eval (.tmp 6) = .int .i64 (j : Int) := hf 6 (by kernel_rfl)
      refine wV hK rfl ?_
      simp only [execOp, e6]
      try go_simp
     ·intro a vs W hX hR he hf K hK
      have e23 : a.eval (.tmp 23) = .bool true := eH he hR 8 (by kernel_rfl) rfl
      refine gT e23 rfl rfl rfl ?_
      have e24 : a.eval (.tmp 24) = .int .i64 (j : Int) := eH he hR 9 (by kernel_rfl) rfl
      refine wV hK rfl ?_
      simp only [execOp, e24]
      try go_simp
     ·intro a vs W hX hR he hf K hK
      have e23 : a.eval (.tmp 23) = .bool true := eH he hR 8 (by kernel_rfl) rfl
      refine gT e23 rfl rfl rfl ?_
      have e25 : a.eval (.tmp 25) = .bool false := eH he hR 10 (by kernel_rfl) rfl
      refine wV hK rfl ?_
      simp only [execOp, e25]
      try go_simp
     ·intro a vs W hX hR he hf K hK
      have e26 : a.eval (.tmp 26) = .bool false := eH he hR 11 (by kernel_rfl) rfl
      refine gT e26 rfl rfl rfl ?_
      have e2 : a.eval (.tmp 2) = .pointer (some ⟨g2, 0, none⟩) := hf 2 (by kernel_rfl)
      refine wV hK rfl ?_
      simp only [execOp, e2]
      try go_simp
     ·intro a vs W hX hR he hf K hK
      have e26 : a.eval (.tmp 26) = .bool false := eH he hR 11 (by kernel_rfl) rfl
      refine gT e26 rfl rfl rfl ?_
      have e27 : a.eval (.tmp 27) = .pointer (some ⟨g2, 3, none⟩) := eH he hR 12 (by kernel_rfl) rfl
      have hbW := bthen (below_drew _) (grow_below hX)
      have hc : W.cell? ⟨g2, 3, none⟩ = some (.slice (some ⟨bA, oA, none⟩) n c) := (HT.out.on hbW).cell 3
      refine wV hK rfl ?_
      simp only [execOp, e27]
      try go_simp
     ·intro a vs W hX hR he hf K hK
      have e26 : a.eval (.tmp 26) = .bool false := eH he hR 11 (by kernel_rfl) rfl
      refine gT e26 rfl rfl rfl ?_
      have e7 : a.eval (.tmp 7) = .int .i64 (k : Int) := hf 7 (by kernel_rfl)
      refine wV hK rfl ?_
      simp only [execOp, e7]
      try go_simp
     ·intro a vs W hX hR he hf K hK
      have e26 : a.eval (.tmp 26) = .bool false := eH he hR 11 (by kernel_rfl) rfl
      refine gT e26 rfl rfl rfl ?_
      have e28 : a.eval (.tmp 28) = .slice (some ⟨bA, oA, none⟩) n c := eH he hR 13 (by kernel_rfl) rfl
      have e29 : a.eval (.tmp 29) = .int .i64 (k : Int) := eH he hR 14 (by kernel_rfl) rfl
      refine wV hK rfl ?_
      simp only [execOp, e28, e29]
      go_simp
     ·intro a vs W hX hR he hf K hK
      have e26 : a.eval (.tmp 26) = .bool false := eH he hR 11 (by kernel_rfl) rfl
      refine gT e26 rfl rfl rfl ?_
      have e30 : a.eval (.tmp 30) = .pointer (some ⟨bA, oA + k * 19, none⟩) := eH he hR 15 (by kernel_rfl) rfl
      refine wV hK rfl ?_
      simp only [execOp, e30]
      try go_simp
     ·intro a vs W hX hR he hf K hK
      have e26 : a.eval (.tmp 26) = .bool false := eH he hR 11 (by kernel_rfl) rfl
      refine gT e26 rfl rfl rfl ?_
      have e31 : a.eval (.tmp 31) = .pointer (some ⟨bA, oA + k * 19, none⟩) := eH he hR 16 (by kernel_rfl) rfl
      refine wV hK rfl ?_
      simp only [execOp, e31]
      try go_simp
     ·intro a vs W hX hR he hf K hK
      have e26 : a.eval (.tmp 26) = .bool false := eH he hR 11 (by kernel_rfl) rfl
      refine gT e26 rfl rfl rfl ?_
      have e32 : a.eval (.tmp 32) = .pointer (some ⟨bA, oA + k * 19 + 17, none⟩) := eH he hR 17 (by kernel_rfl) rfl
      have hbW := bthen (below_drew _) (grow_below hX)
      have hc : W.cell? ⟨bA, oA + k * 19 + 17, none⟩ = some (.int .i64 x.1.len) := range_below hbW HBA.out HXR.out 17 _ (it_len HXF.out.addr)
      refine wV hK rfl ?_
      simp only [execOp, e32]
      try go_simp
     ·intro a vs W hX hR he hf K hK
      have e26 : a.eval (.tmp 26) = .bool false := eH he hR 11 (by kernel_rfl) rfl
      refine gT e26 rfl rfl rfl ?_
      have e2 : a.eval (.tmp 2) = .pointer (some ⟨g2, 0, none⟩) := hf 2 (by kernel_rfl)
      refine wV hK rfl ?_
      simp only [execOp, e2]
      try go_simp
     ·intro a vs W hX hR he hf K hK
      have e26 : a.eval (.tmp 26) = .bool false := eH he hR 11 (by kernel_rfl) rfl
      refine gT e26 rfl rfl rfl ?_
      have e34 : a.eval (.tmp 34) = .pointer (some ⟨g2, 3, none⟩) := eH he hR 19 (by kernel_rfl) rfl
      have hbW := bthen (below_drew _) (grow_below hX)
      have hc : W.cell? ⟨g2, 3, none⟩ = some (.slice (some ⟨bA, oA, none⟩) n c) := (HT.out.on hbW).cell 3
      refine wV hK rfl ?_
      simp only [execOp, e34]
      try go_simp
     ·intro a vs W hX hR he hf K hK
      have e26 : a.eval (.tmp 26) = .bool false := eH he hR 11 (by kernel_rfl) rfl
      refine gT e26 rfl rfl rfl ?_
      have e6 : a.eval (.tmp 6) = .int .i64 (j : Int) := hf 6 (by kernel_rfl)
      refine wV hK rfl ?_
      simp only [execOp, e6]
      try go_simp
     ·intro a vs W hX hR he hf K hK
      have e26 : a.eval (.tmp 26) = .bool false := eH he hR 11 (by kernel_rfl) rfl
      refine gT e26 rfl rfl rfl ?_
      have e35 : a.eval (.tmp 35) = .slice (some ⟨bA, oA, none⟩) n c := eH he hR 20 (by kernel_rfl) rfl
      have e36 : a.eval (.tmp 36) = .int .i64 (j : Int) := eH he hR 21 (by kernel_rfl) rfl
      refine wV hK rfl ?_
      simp only [execOp, e35, e36]
      go_simp
     ·intro a vs W hX hR he hf K hK
      have e26 : a.eval (.tmp 26) = .bool false := eH he hR 11 (by kernel_rfl) rfl
      refine gT e26 rfl rfl rfl ?_
      have e37 : a.eval (.tmp 37) = .pointer (some ⟨bA, oA + j * 19, none⟩) := eH he hR 22 (by kernel_rfl) rfl
      refine wV hK rfl ?_
      simp only [execOp, e37]
      try go_simp
     ·intro a vs W hX hR he hf K hK
      have e26 : a.eval (.tmp 26) = .bool false := eH he hR 11 (by kernel_rfl) rfl
      refine gT e26 rfl rfl rfl ?_
      have e38 : a.eval (.tmp 38) = .pointer (some ⟨bA, oA + j * 19, none⟩) := eH he hR 23 (by kernel_rfl) rfl
      refine wV hK rfl ?_
      simp only [execOp, e38]
      try go_simp
     ·intro a vs W hX hR he hf K hK
      have e26 : a.eval (.tmp 26) = .bool false := eH he hR 11 (by kernel_rfl) rfl
      refine gT e26 rfl rfl rfl ?_
      have e39 : a.eval (.tmp 39) = .pointer (some ⟨bA, oA + j * 19 + 17, none⟩) := eH he hR 24 (by kernel_rfl) rfl
      have hbW := bthen (below_drew _) (grow_below hX)
      have hc : W.cell? ⟨bA, oA + j * 19 + 17, none⟩ = some (.int .i64 y.1.len) := range_below hbW HBA.out HYR.out 17 _ (it_len HYF.out.addr)
      refine wV hK rfl ?_
      simp only [execOp, e39]
      try go_simp
     ·intro a vs W hX hR he hf K hK
      have e26 : a.eval (.tmp 26) = .bool false := eH he hR 11 (by kernel_rfl) rfl
      refine gT e26 rfl rfl rfl ?_
      have e33 : a.eval (.tmp 33) = .int .i64 x.1.len := eH he hR 18 (by kernel_rfl) rfl
      have e40 : a.eval (.tmp 40) = .int .i64 y.1.len := eH he hR 25 (by kernel_rfl) rfl
      refine wV hK rfl ?_
      have h9 := HBT.out
      simp only [execOp, e33, e40]
      go_simp
      try omega
     ·intro a vs W hX hR he hf K hK
      have e23 : a.eval (.tmp 23) = .bool true := eH he hR 8 (by kernel_rfl) rfl
      refine gT e23 rfl rfl rfl ?_
      have e26 : a.eval (.tmp 26) = .bool false := eH he hR 11 (by kernel_rfl) rfl
      have e41 : a.eval (.tmp 41) = .bool true := eH he hR 26 (by kernel_rfl) rfl
      refine wV hK rfl ?_
      simp only [execOp, e26, e41]
      try go_simp
     ·intro a vs W hX hR he hf K hK
      refine wn rfl ?_
      have e23 : a.eval (.tmp 23) = .bool true := eH he hR 8 (by kernel_rfl) rfl
      have e42 : a.eval (.tmp 42) = .bool true := eH he hR 27 (by kernel_rfl) rfl
      refine wV hK rfl ?_
      simp only [execOp, e23, e42]
      try go_simp
     intro vs wx hXx hR
     rw [put_eqs hR rfl]
     simp only [putL, Act.put, List.setIfInBounds_toArray, List.set_cons_zero, List.set_cons_succ]
     clear hR
     replace hBE := Hh (hBE.out.trans ((bthen (below_drew _) (grow_below hXx)).mono hBE.out.size))
     clear hXx c3
     go_wp2_with fail
     go_roundw
     case rel => exact ⟨k + 1, some k, by omega, by simp, rfl, HNX.out, hBE.out⟩
     case measure => simp [intOf]; omega
    have HBT := Hh hbt
    have HNX := Hh (show atB L (k + 1) ad (some j) by
     unfold atB
     exact ⟨by omega, y, HGY.out, by rw [HTK.out, bestP_snoc, HH.out, HBY.out]; simp [betterP, HBT.out]⟩)
    have HMI := Hh (show atI (some j) = (j : Int) from rfl)
    rw [HMI.out]
    clear hbt
    go_wp2_with fail
    refine wp_region_rel (fun A B => A.grownBy B none) (fun A => grown_refl A _) (fun A B C h k => grown_trans h k) (relAt (eqs [.pointer (some ⟨g2, 3, none⟩), .slice (some ⟨bA, oA, none⟩) n c, .int .i64 (k : Int), .pointer (some ⟨bA, oA + k * 19, none⟩), .pointer (some ⟨bA, oA + k * 19, none⟩), .agg x.1.cells.toArray, .agg (bv ad).toArray, .bool true, .bool true, .int .i64 (j : Int), .bool false, .bool false, .pointer (some ⟨g2, 3, none⟩), .slice (some ⟨bA, oA, none⟩) n c, .int .i64 (k : Int), .pointer (some ⟨bA, oA + k * 19, none⟩), .pointer (some ⟨bA, oA + k * 19, none⟩), .pointer (some ⟨bA, oA + k * 19 + 17, none⟩), .int .i64 x.1.len, .pointer (some ⟨g2, 3, none⟩), .slice (some ⟨bA, oA, none⟩) n c, .int .i64 (j : Int), .pointer (some ⟨bA, oA + j * 19, none⟩), .pointer (some ⟨bA, oA + j * 19, none⟩), .pointer (some ⟨bA, oA + j * 19 + 17, none⟩), .int .i64 y.1.len, .bool false, .bool false, .bool false])) (MonoL.at_ (eqs_mono _)) (by kernel_rfl) (by kernel_rfl) ⟨?_, ?_, ?_, ?_, ?_, ?_, ?_, ?_, ?_, ?_, ?_, ?_, ?_, ?_, ?_, ?_, ?_, ?_, ?_, ?_, ?_, ?_, ?_, ?_, ?_, ?_, ?_, ?_, ?_, trivial⟩ ?_
    ·intro a vs W hX hR he hf K hK
     refine wn rfl ?_
     have e2 : a.eval (.tmp 2) = .pointer (some ⟨g2, 0, none⟩) := hf 2 (by kernel_rfl)
     refine wV hK rfl ?_
     simp only [execOp, e2]
     try go_simp
    ·intro a vs W hX hR he hf K hK
     refine wn rfl ?_
     have e15 : a.eval (.tmp 15) = .pointer (some ⟨g2, 3, none⟩) := eH he hR 0 (by kernel_rfl) rfl
     have hbW := bthen (below_drew _) (grow_below hX)
     have hc : W.cell? ⟨g2, 3, none⟩ = some (.slice (some ⟨bA, oA, none⟩) n c) := (HT.out.on hbW).cell 3
     refine wV hK rfl ?_
     simp only [execOp, e15]
     try go_simp
    ·intro a vs W hX hR he hf K hK
     refine wn rfl ?_
     have e7 : a.eval (.tmp 7) = .int .i64 (k : Int) := hf 7 (by kernel_rfl)
     refine wV hK rfl ?_
     simp only [execOp, e7]
     try go_simp
    ·intro a vs W hX hR he hf K hK
     refine wn rfl ?_
     have e16 : a.eval (.tmp 16) = .slice (some ⟨bA, oA, none⟩) n c := eH he hR 1 (by kernel_rfl) rfl
     have e17 : a.eval (.tmp 17) = .int .i64 (k : Int) := eH he hR 2 (by kernel_rfl) rfl
     refine wV hK rfl ?_
     simp only [execOp, e16, e17]
     go_simp
    ·intro a vs W hX hR he hf K hK
     refine wn rfl ?_
     have e18 : a.eval (.tmp 18) = .pointer (some ⟨bA, oA + k * 19, none⟩) := eH he hR 3 (by kernel_rfl) rfl
     refine wV hK rfl ?_
     simp only [execOp, e18]
     try go_simp
    ·intro a vs W hX hR he hf K hK
     refine wn rfl ?_
     have e19 : a.eval (.tmp 19) = .pointer (some ⟨bA, oA + k * 19, none⟩) := eH he hR 4 (by kernel_rfl) rfl
     have hbW := bthen (below_drew _) (grow_below hX)
     exact wp_value (exec_load_mid 30 _ rfl bA (oA + k * 19) e19 x.1.cells _ (range_below hbW HBA.out (it_px HXR.out)) Try.underlying30 rfl (sizePx _ HXF.out.addr)) (gK hK rfl)
    ·intro a vs W hX hR he hf K hK
     refine wn rfl ?_
     have e3 : a.eval (.tmp 3) = .pointer (some ⟨g3, 0, none⟩) := hf 3 (by kernel_rfl)
     have hbW := bthen (below_drew _) (grow_below hX)
     exact wp_value (exec_load 23 _ rfl g3 e3 23 (bv ad) _ (HA.out.on hbW) Try.underlying23 rfl (size16 _ HAL.out)) (gK hK rfl)
    ·intro a vs W hX hR he hf K hK
     refine wn rfl ?_
     have e20 : a.eval (.tmp 20) = .agg x.1.cells.toArray := eH he hR 5 (by kernel_rfl) rfl
     have e21 : a.eval (.tmp 21) = .agg (bv ad).toArray := eH he hR 6 (by kernel_rfl) rfl
     refine wp_enter (f := 46) (args := #[.agg x.1.cells.toArray, .agg (bv ad).toArray]) (by simp only [execOp, e20, e21]; go_simp; exact ⟨by simpa [Act.eval] using e20, by simpa [Act.eval] using e21⟩) ((rhas_any x.1 HXG.out ad HAL.out W).mono ?_)
     rintro e w' ⟨rfl, hb⟩
     rw [HH.out]
     exact ⟨_, rfl, hK _ _ rfl (below_grow hb _)⟩
    ·intro a vs W hX hR he hf K hK
     refine wn rfl ?_
     have e22 : a.eval (.tmp 22) = .bool true := eH he hR 7 (by kernel_rfl) rfl
     refine wV hK rfl ?_
     simp only [execOp, e22]
     try go_simp
    ·intro a vs W hX hR he hf K hK
     have e23 : a.eval (.tmp 23) = .bool true := eH he hR 8 (by kernel_rfl) rfl
     refine gT e23 rfl rfl rfl ?_
     have e6 : a.eval (.tmp 6) = .int .i64 (j : Int) := hf 6 (by kernel_rfl)
     refine wV hK rfl ?_
     simp only [execOp, e6]
     try go_simp
    ·intro a vs W hX hR he hf K hK
     have e23 : a.eval (.tmp 23) = .bool true := eH he hR 8 (by kernel_rfl) rfl
     refine gT e23 rfl rfl rfl ?_
     have e24 : a.eval (.tmp 24) = .int .i64 (j : Int) := eH he hR 9 (by kernel_rfl) rfl
     refine wV hK rfl ?_
     simp only [execOp, e24]
     try go_simp
    ·intro a vs W hX hR he hf K hK
     have e23 : a.eval (.tmp 23) = .bool true := eH he hR 8 (by kernel_rfl) rfl
     refine gT e23 rfl rfl rfl ?_
     have e25 : a.eval (.tmp 25) = .bool false := eH he hR 10 (by kernel_rfl) rfl
     refine wV hK rfl ?_
     simp only [execOp, e25]
     try go_simp
    ·intro a vs W hX hR he hf K hK
     have e26 : a.eval (.tmp 26) = .bool false := eH he hR 11 (by kernel_rfl) rfl
     refine gT e26 rfl rfl rfl ?_
     have e2 : a.eval (.tmp 2) = .pointer (some ⟨g2, 0, none⟩) := hf 2 (by kernel_rfl)
     refine wV hK rfl ?_
     simp only [execOp, e2]
     try go_simp
    ·intro a vs W hX hR he hf K hK
     have e26 : a.eval (.tmp 26) = .bool false := eH he hR 11 (by kernel_rfl) rfl
     refine gT e26 rfl rfl rfl ?_
     have e27 : a.eval (.tmp 27) = .pointer (some ⟨g2, 3, none⟩) := eH he hR 12 (by kernel_rfl) rfl
     have hbW := bthen (below_drew _) (grow_below hX)
     have hc : W.cell? ⟨g2, 3, none⟩ = some (.slice (some ⟨bA, oA, none⟩) n c) := (HT.out.on hbW).cell 3
     refine wV hK rfl ?_
     simp only [execOp, e27]
     try go_simp
    ·intro a vs W hX hR he hf K hK
     have e26 : a.eval (.tmp 26) = .bool false := eH he hR 11 (by kernel_rfl) rfl
     refine gT e26 rfl rfl rfl ?_
     have e7 : a.eval (.tmp 7) = .int .i64 (k : Int) := hf 7 (by kernel_rfl)
     refine wV hK rfl ?_
     simp only [execOp, e7]
     try go_simp
    ·intro a vs W hX hR he hf K hK
     have e26 : a.eval (.tmp 26) = .bool false := eH he hR 11 (by kernel_rfl) rfl
     refine gT e26 rfl rfl rfl ?_
     have e28 : a.eval (.tmp 28) = .slice (some ⟨bA, oA, none⟩) n c := eH he hR 13 (by kernel_rfl) rfl
     have e29 : a.eval (.tmp 29) = .int .i64 (k : Int) := eH he hR 14 (by kernel_rfl) rfl
     refine wV hK rfl ?_
     simp only [execOp, e28, e29]
     go_simp
    ·intro a vs W hX hR he hf K hK
     have e26 : a.eval (.tmp 26) = .bool false := eH he hR 11 (by kernel_rfl) rfl
     refine gT e26 rfl rfl rfl ?_
     have e30 : a.eval (.tmp 30) = .pointer (some ⟨bA, oA + k * 19, none⟩) := eH he hR 15 (by kernel_rfl) rfl
     refine wV hK rfl ?_
     simp only [execOp, e30]
     try go_simp
    ·intro a vs W hX hR he hf K hK
     have e26 : a.eval (.tmp 26) = .bool false := eH he hR 11 (by kernel_rfl) rfl
     refine gT e26 rfl rfl rfl ?_
     have e31 : a.eval (.tmp 31) = .pointer (some ⟨bA, oA + k * 19, none⟩) := eH he hR 16 (by kernel_rfl) rfl
     refine wV hK rfl ?_
     simp only [execOp, e31]
     try go_simp
    ·intro a vs W hX hR he hf K hK
     have e26 : a.eval (.tmp 26) = .bool false := eH he hR 11 (by kernel_rfl) rfl
     refine gT e26 rfl rfl rfl ?_
     have e32 : a.eval (.tmp 32) = .pointer (some ⟨bA, oA + k * 19 + 17, none⟩) := eH he hR 17 (by kernel_rfl) rfl
     have hbW := bthen (below_drew _) (grow_below hX)
     have hc : W.cell? ⟨bA, oA + k * 19 + 17, none⟩ = some (.int .i64 x.1.len) := range_below hbW HBA.out HXR.out 17 _ (it_len HXF.out.addr)
     refine wV hK rfl ?_
     simp only [execOp, e32]
     try go_simp
    ·intro a vs W hX hR he hf K hK
     have e26 : a.eval (.tmp 26) = .bool false := eH he hR 11 (by kernel_rfl) rfl
     refine gT e26 rfl rfl rfl ?_
     have e2 : a.eval (.tmp 2) = .pointer (some ⟨g2, 0, none⟩) := hf 2 (by kernel_rfl)
     refine wV hK rfl ?_
     simp only [execOp, e2]
     try go_simp
    ·intro a vs W hX hR he hf K hK
     have e26 : a.eval (.tmp 26) = .bool false := eH he hR 11 (by kernel_rfl) rfl
     refine gT e26 rfl rfl rfl ?_
     have e34 : a.eval (.tmp 34) = .pointer (some ⟨g2, 3, none⟩) := eH he hR 19 (by kernel_rfl) rfl
     have hbW := bthen (below_drew _) (grow_below hX)
     have hc : W.cell? ⟨g2, 3, none⟩ = some (.slice (some ⟨bA, oA, none⟩) n c) := (HT.out.on hbW).cell 3
     refine wV hK rfl ?_
     simp only [execOp, e34]
     try go_simp
    ·intro a vs W hX hR he hf K hK
     have e26 : a.eval (.tmp 26) = .bool false := eH he hR 11 (by kernel_rfl) rfl
     refine gT e26 rfl rfl rfl ?_
     have e6 : a.eval (.tmp 6) = .int .i64 (j : Int) := hf 6 (by kernel_rfl)
     refine wV hK rfl ?_
     simp only [execOp, e6]
     try go_simp
    ·intro a vs W hX hR he hf K hK
     have e26 : a.eval (.tmp 26) = .bool false := eH he hR 11 (by kernel_rfl) rfl
     refine gT e26 rfl rfl rfl ?_
     have e35 : a.eval (.tmp 35) = .slice (some ⟨bA, oA, none⟩) n c := eH he hR 20 (by kernel_rfl) rfl
     have e36 : a.eval (.tmp 36) = .int .i64 (j : Int) := eH he hR 21 (by kernel_rfl) rfl
     refine wV hK rfl ?_
     simp only [execOp, e35, e36]
     go_simp
    ·intro a vs W hX hR he hf K hK
     have e26 : a.eval (.tmp 26) = .bool false := eH he hR 11 (by kernel_rfl) rfl
     refine gT e26 rfl rfl rfl ?_
     have e37 : a.eval (.tmp 37) = .pointer (some ⟨bA, oA + j * 19, none⟩) := eH he hR 22 (by kernel_rfl) rfl
     refine wV hK rfl ?_
     simp only [execOp, e37]
     try go_simp
    ·intro a vs W hX hR he hf K hK
     have e26 : a.eval (.tmp 26) = .bool false := eH he hR 11 (by kernel_rfl) rfl
     refine gT e26 rfl rfl rfl ?_
     have e38 : a.eval (.tmp 38) = .pointer (some ⟨bA, oA + j * 19, none⟩) := eH he hR 23 (by kernel_rfl) rfl
     refine wV hK rfl ?_
     simp only [execOp, e38]
     try go_simp
    ·intro a vs W hX hR he hf K hK
     have e26 : a.eval (.tmp 26) = .bool false := eH he hR 11 (by kernel_rfl) rfl
     refine gT e26 rfl rfl rfl ?_
     have e39 : a.eval (.tmp 39) = .pointer (some ⟨bA, oA + j * 19 + 17, none⟩) := eH he hR 24 (by kernel_rfl) rfl
     have hbW := bthen (below_drew _) (grow_below hX)
     have hc : W.cell? ⟨bA, oA + j * 19 + 17, none⟩ = some (.int .i64 y.1.len) := range_below hbW HBA.out HYR.out 17 _ (it_len HYF.out.addr)
     refine wV hK rfl ?_
     simp only [execOp, e39]
     try go_simp
    ·intro a vs W hX hR he hf K hK
     have e26 : a.eval (.tmp 26) = .bool false := eH he hR 11 (by kernel_rfl) rfl
     refine gT e26 rfl rfl rfl ?_
     have e33 : a.eval (.tmp 33) = .int .i64 x.1.len := eH he hR 18 (by kernel_rfl) rfl
     have e40 : a.eval (.tmp 40) = .int .i64 y.1.len := eH he hR 25 (by kernel_rfl) rfl
     refine wV hK rfl ?_
     have h9 := HBT.out
     simp only [execOp, e33, e40]
     go_simp
     try omega
    ·intro a vs W hX hR he hf K hK
     have e23 : a.eval (.tmp 23) = .bool true := eH he hR 8 (by kernel_rfl) rfl
     refine gT e23 rfl rfl rfl ?_
     have e26 : a.eval (.tmp 26) = .bool false := eH he hR 11 (by kernel_rfl) rfl
     have e41 : a.eval (.tmp 41) = .bool false := eH he hR 26 (by kernel_rfl) rfl
     refine wV hK rfl ?_
     simp only [execOp, e26, e41]
     try go_simp
    ·intro a vs W hX hR he hf K hK
     refine wn rfl ?_
     have e23 : a.eval (.tmp 23) = .bool true := eH he hR 8 (by kernel_rfl) rfl
     have e42 : a.eval (.tmp 42) = .bool false := eH he hR 27 (by kernel_rfl) rfl
     refine wV hK rfl ?_
     simp only [execOp, e23, e42]
     try go_simp
    intro vs wx hXx hR
    rw [put_eqs hR rfl]
    simp only [putL, Act.put, List.setIfInBounds_toArray, List.set_cons_zero, List.set_cons_succ]
    clear hR
    replace hBE := Hh (hBE.out.trans ((bthen (below_drew _) (grow_below hXx)).mono hBE.out.size))
    clear hXx c3
    go_wp2_with fail
    go_roundw
    case rel => exact ⟨k + 1, some j, by omega, by simp, rfl, HNX.out, hBE.out⟩
    case measure => simp [intOf]; omega
  obtain rfl : k = n := by omega
  have hnl : ¬ ((k : Int) < (k : Int)) := by omega
  have htl : L.take k = L := List.take_of_length_le (by rw [HLN.out]; exact Nat.le_refl _)
  cases j with
  | none =>
   have hb0 := HJ.out
   unfold atB at hb0
   rw [htl] at hb0
   have HC := Hh (show ansL' L ad = ((Px.zero, 0), false) by unfold ansL'; rw [hb0])
   have HMI := Hh (show atI none = -1 from rfl)
   rw [HMI.out]
   clear hb0 htl
   go_wp2_with (first
    | (refine wpList_value (by rfl) (exec_buildI0 rfl) ?_)
    | (refine wpList_store_all (by rfl) 57 _ _ rfl g4 (itC (Px.zero, 0)) rfl rfl 57 _ HD.out (size57 _ rfl) rfl (itC_one _) ?_; intro w5 hb5 hg5 hs5))
   have hB5 : Below w.heap.size w w5 := bgrown HW.out hg5 HW.out.size HLE.out
   exact bodyPost_ret (results_cell2 rfl _ _ g4 _ _ _ rfl hb5 Try.underlying57 rfl (size57 _ rfl)) rfl ⟨by rw [HC.out]; rfl, hB5⟩
  | some j =>
   obtain ⟨hjk, y, hy, hby⟩ := HJ.out
   rw [htl] at hby
   have HC := Hh (show ansL' L ad = (y, true) by unfold ansL'; rw [hby])
   obtain ⟨b9, o9, rfl, hb9, hc9⟩ := its_at2 HR.out HL.out j y hy
   have HYF := Hh (HL.out y (List.mem_of_getElem? hy))
   have HYR := Hh (range_below HW.out hb9 hc9)
   have hj2 : (j : Int) < (k : Int) := by omega
   have hjn : ¬ ((j : Int) < 0) := by omega
   have HMI := Hh (show atI (some j) = (j : Int) from rfl)
   rw [HMI.out]
   clear hc9 hb9 hy hby htl
   go_wp2_with (first
    | (refine wpList_value (by rfl) (exec_load_mid 57 _ rfl b9 (o9 + j * 19) (by rfl) (itC y) _ HYR.out Try.underlying57 rfl (size57 _ HYF.out.addr)) ?_)
    | (refine wpList_store_all (by rfl) 57 _ _ rfl g4 (itC y) rfl rfl 57 _ HD.out (size57 _ HYF.out.addr) (by rw [itC_length y HYF.out.addr]; rfl) (itC_one _) ?_; intro w5 hb5 hg5 hs5))
   have hB5 : Below w.heap.size w w5 := bgrown HW.out hg5 HW.out.size HLE.out
   exact bodyPost_ret (results_cell2 rfl _ _ g4 _ _ _ rfl hb5 Try.underlying57 rfl (size57 _ HYF.out.addr)) rfl ⟨by rw [HC.out]; rfl, hB5⟩
end Go.Proofs.Ytdmgomknamdcfaa


/- The walks of RewriteDoes and RewriteLays of layer 20 (rewrite). No condition but those of the rows. -/
import Derived.Test.YtmpaockaeoknmaaLaw20
import Derived.Test.YtmpaockaeoknmaaOpenHop
namespace Go.Proofs.Ytmpaockaeoknmaa
open Go.RowKit Go.Maps
set_option linter.unusedVariables false
set_option maxRecDepth 20000
set_option linter.unusedSimpArgs false

theorem outE_len (L : List Ent) (h : L.length ≤ 1000000) : (outE L).1.length ≤ 1000000 := by
  unfold outE
  split <;> simp <;> omega
theorem belowF_len (l : List Ent) (p : Bool) : (belowF l p).1.length ≤ l.length := by
  unfold belowF
  split
  · simp
  · simp
  · split <;> simp
theorem outE_le (L : List Ent) : (outE L).1.length ≤ 16 := by
  unfold outE
  split <;> simp <;> omega
theorem doF_len (l : List Ent) (m : Hp) (q : Nat) (h : l.length ≤ q) (hq : 16 ≤ q) : (doF l m).1.length ≤ q := by
  unfold doF
  split
  · simp
  · split
    · simp
    · split
      · simp
      · unfold finF
        split
        · simp
        · refine Nat.le_trans ?_ hq
          unfold opF popF
          split
          · exact outE_le _
          · split
            · exact outE_le _
            · split
              · exact outE_le _
              · simp

set_option maxHeartbeats 4000000 in
theorem walk_RewriteDoes (w : World) (A : Option Addr) (n c : Nat) (l : List Ent) (h : Row w w.heap.size 4 A n (evs l)) (hc : n ≤ c) (hcm : c ≤ maxLen) (hwf : ∀ x ∈ l, x.wf) (m : Hp) (hm : m.ok w) :
    Calls Try.prog 3 #[.slice A n c, .agg m.cells.toArray] w fun e w' => e = .returned (.bool true) ∧ Below w.heap.size w w' := by
  have HF := Lib.hid (fun x hx => (hwf x hx).fitR)
  have HR := Lib.hid h
  have HM := Lib.hid hm
  have hlen := ent_len h
  clear h hm hwf
  obtain ⟨gh, hgh⟩ : ∃ g, w.heap.size = g := ⟨_, rfl⟩
  have HGH := Lib.hid hgh
  go_enter Try.func3, Try.ntmps3
  go_upto_region 1 with (refine wpList_box_blk (by rfl) 25 _ rfl m.cells rfl ?_; intro w1 hbh hB1 hs1)
  rw [hgh] at hbh hB1
  try rw [hgh]
  go_wp2_with fail
  refine (awake20 _).mono ?_
  rintro e w2 ⟨rfl, hb2⟩
  have HH := Lib.hid (hbh.on hb2)
  have HW := Lib.hid (show Below w.heap.size w w2 by rw [hgh]; exact hB1.trans (hb2.mono (by omega)))
  clear hbh hB1 hs1 hb2
  have d1 : w2.cell? ⟨gh, 1, none⟩ = some (.slice m.lA m.ln m.lc) := HH.out.cell 1
  have d4 : w2.cell? ⟨gh, 4, none⟩ = some (.slice m.rA m.rn m.rc) := HH.out.cell 4
  clear hgh
  by_cases h1 : 40 < n
  · have h1i : (40 : Int) < (n : Int) := by omega
    go_wp2_with fail
    go_ret
    exact ⟨rfl, HW.out⟩
  · have h1i : ¬ (40 : Int) < (n : Int) := by omega
    by_cases h2 : 40 < m.ln
    · have h2i : (40 : Int) < (m.ln : Int) := by omega
      go_wp2_with fail
      go_ret
      exact ⟨rfl, HW.out⟩
    · have h2i : ¬ (40 : Int) < (m.ln : Int) := by omega
      by_cases h3 : 40 < m.rn
      · have h3i : (40 : Int) < (m.rn : Int) := by omega
        go_wp2_with fail
        go_ret
        exact ⟨rfl, HW.out⟩
      · have h3i : ¬ (40 : Int) < (m.rn : Int) := by omega
        go_upto_region 6 with fail
        clear h1i h2i h3i d1 d4
        obtain ⟨D, hD⟩ : ∃ D, doF l m = D := ⟨_, rfl⟩
        obtain ⟨L, Z, E⟩ := D
        obtain ⟨q, hq⟩ : ∃ q, L.length = q := ⟨_, rfl⟩
        have hq1 : q ≤ 1000000 := by
          rw [← hq, show L = (doF l m).1 by rw [hD]]
          exact doF_len l m _ (by omega) (by omega)
        have HDO := Lib.hid (fun W (hB : Below w.heap.size w W) => do_any A n c l m W ((HR.out.below hB).more hB.size) hc hcm (by omega) HF.out (hop_below HM.out hB))
        have HRD := Lib.hid (fun W (hB : Below w.heap.size w W) => rdo_any A n c l m W ((HR.out.below hB).more hB.size) hc hcm (by omega) HF.out (hop_below HM.out hB))
        simp only [hD, hq] at HDO HRD
        obtain ⟨BD, hBD⟩ : ∃ D, belowF l m.pipe = D := ⟨_, rfl⟩
        obtain ⟨BL, BB⟩ := BD
        obtain ⟨bq, hbq⟩ : ∃ q, BL.length = q := ⟨_, rfl⟩
        have hbq1 : bq ≤ 1000000 := by
          rw [← hbq, show BL = (belowF l m.pipe).1 by rw [hBD]]
          have := belowF_len l m.pipe
          omega
        have HBE := Lib.hid (fun W (hB : Below w.heap.size w W) => below_any A n c l m.pipe W ((HR.out.below hB).more hB.size) hc hcm (by omega) HF.out)
        have HRB := Lib.hid (fun W (hB : Below w.heap.size w W) => rbelow_any A n c l m.pipe W ((HR.out.below hB).more hB.size) hc hcm (by omega) HF.out)
        simp only [hBD, hbq] at HBE HRB
        clear hD hq hBD hbq
        have hh := HH.out
        go_wp2_with (refine wpList_load_blk (by rfl) 25 _ rfl gh rfl 25 _ _ hh Try.underlying25 rfl (sizeHp m) ?_)
        refine (HDO.out w2 HW.out).mono ?_
        rintro e wa ⟨A1, c1, rfl, hown, hb⟩
        clear hh
        replace HW := Lib.hid (bthen HW.out hb)
        replace HH := Lib.hid (HH.out.on hb)
        have HO1 := Lib.hid hown
        clear hown hb
        go_upto_region 7 with (first
          | (refine wpList_alloc_blk (by rfl) 28 rfl (leftC (false, 0, 0)) zeroLeft ?_; intro wb hbb hBb hsb)
          | (refine wpList_store_all (by rfl) 28 _ _ rfl wa.heap.size (leftC Z) rfl rfl 28 _ hbb (sizeLeft _) rfl (oneLeft _) ?_; intro w3 hbc hgc hsc))
        have hbd : Below wa.heap.size wa w3 := bgrown hBb hgc hBb.size (Nat.le_refl _)
        replace HW := Lib.hid (bthen HW.out hbd)
        replace HH := Lib.hid (HH.out.on hbd)
        replace HO1 := Lib.hid (HO1.out.below hbd)
        obtain ⟨gl, hgl⟩ : ∃ g, wa.heap.size = g := ⟨_, rfl⟩
        rw [hgl] at hbc ⊢
        have HL := Lib.hid hbc
        clear hbb hBb hsb hbc hgc hsc hbd hgl
        have hh := HH.out
        go_wp2_with (refine wpList_load_blk (by rfl) 25 _ rfl gh rfl 25 _ _ hh Try.underlying25 rfl (sizeHp m) ?_)
        refine (HRD.out w3 HW.out).mono ?_
        rintro e wa2 ⟨A2, c2, rfl, hown, hb⟩
        clear hh
        replace HW := Lib.hid (bthen HW.out hb)
        replace HH := Lib.hid (HH.out.on hb)
        replace HO1 := Lib.hid (HO1.out.below hb)
        replace HL := Lib.hid (HL.out.on hb)
        have HO2 := Lib.hid hown
        clear hown hb
        go_upto_region 8 with (first
          | (refine wpList_alloc_blk (by rfl) 32 rfl (leftC (false, 0, 0)) zeroLR ?_; intro wb hbb hBb hsb)
          | (refine wpList_store_all (by rfl) 32 _ _ rfl wa2.heap.size (leftC Z) rfl rfl 32 _ hbb (sizeLR _) rfl (oneLeft _) ?_; intro w4 hbc hgc hsc))
        have hbd : Below wa2.heap.size wa2 w4 := bgrown hBb hgc hBb.size (Nat.le_refl _)
        replace HW := Lib.hid (bthen HW.out hbd)
        replace HH := Lib.hid (HH.out.on hbd)
        replace HO1 := Lib.hid (HO1.out.below hbd)
        replace HL := Lib.hid (HL.out.on hbd)
        replace HO2 := Lib.hid (HO2.out.below hbd)
        obtain ⟨gr, hgl⟩ : ∃ g, wa2.heap.size = g := ⟨_, rfl⟩
        rw [hgl] at hbc ⊢
        have HLR := Lib.hid hbc
        clear hbb hBb hsb hbc hgc hsc hbd hgl
        have d5 : w4.cell? ⟨gh, 5, none⟩ = some (.bool m.pipe) := HH.out.cell 5
        go_wp2_with fail
        refine (HBE.out w4 HW.out).mono ?_
        rintro e w5 ⟨A3, c3, rfl, hown, hb⟩
        clear d5
        replace HW := Lib.hid (bthen HW.out hb)
        replace HH := Lib.hid (HH.out.on hb)
        replace HO1 := Lib.hid (HO1.out.below hb)
        replace HL := Lib.hid (HL.out.on hb)
        replace HO2 := Lib.hid (HO2.out.below hb)
        replace HLR := Lib.hid (HLR.out.on hb)
        have HO3 := Lib.hid hown
        clear hown hb
        have d5 : w5.cell? ⟨gh, 5, none⟩ = some (.bool m.pipe) := HH.out.cell 5
        go_wp2_with fail
        refine (HRB.out w5 HW.out).mono ?_
        rintro e w6 ⟨A4, c4, rfl, hown, hb⟩
        clear d5
        replace HW := Lib.hid (bthen HW.out hb)
        replace HH := Lib.hid (HH.out.on hb)
        replace HO1 := Lib.hid (HO1.out.below hb)
        replace HL := Lib.hid (HL.out.on hb)
        replace HO2 := Lib.hid (HO2.out.below hb)
        replace HLR := Lib.hid (HLR.out.on hb)
        replace HO3 := Lib.hid (HO3.out.below hb)
        have HO4 := Lib.hid hown
        clear hown hb
        go_wp2_with fail
        refine (exact_same A1 A2 q c1 c2 L w6 _ HO1.out.row HO2.out.row (by omega)).mono ?_
        rintro e w7 ⟨rfl, hb⟩
        replace HW := Lib.hid (bthen HW.out hb)
        replace HH := Lib.hid (HH.out.on hb)
        replace HO1 := Lib.hid (HO1.out.below hb)
        replace HL := Lib.hid (HL.out.on hb)
        replace HO2 := Lib.hid (HO2.out.below hb)
        replace HLR := Lib.hid (HLR.out.on hb)
        replace HO3 := Lib.hid (HO3.out.below hb)
        replace HO4 := Lib.hid (HO4.out.below hb)
        clear hb
        have x0 : w7.cell? ⟨gl, 0, none⟩ = some (.bool Z.1) := HL.out.cell 0
        have x1 : w7.cell? ⟨gl, 1, none⟩ = some (.int .u8 Z.2.1) := HL.out.cell 1
        have x2 : w7.cell? ⟨gl, 2, none⟩ = some (.int .u8 Z.2.2) := HL.out.cell 2
        have y0 : w7.cell? ⟨gr, 0, none⟩ = some (.bool Z.1) := HLR.out.cell 0
        have y1 : w7.cell? ⟨gr, 1, none⟩ = some (.int .u8 Z.2.1) := HLR.out.cell 1
        have y2 : w7.cell? ⟨gr, 2, none⟩ = some (.int .u8 Z.2.2) := HLR.out.cell 2
        go_wp2_with fail
        refine (exact_same A3 A4 bq c3 c4 BL w7 _ HO3.out.row HO4.out.row (by omega)).mono ?_
        rintro e w8 ⟨rfl, hb⟩
        replace HW := Lib.hid (bthen HW.out hb)
        replace HH := Lib.hid (HH.out.on hb)
        replace HO1 := Lib.hid (HO1.out.below hb)
        replace HL := Lib.hid (HL.out.on hb)
        replace HO2 := Lib.hid (HO2.out.below hb)
        replace HLR := Lib.hid (HLR.out.on hb)
        replace HO3 := Lib.hid (HO3.out.below hb)
        replace HO4 := Lib.hid (HO4.out.below hb)
        clear x0 x1 x2 y0 y1 y2 hb
        go_wp2_with fail
        go_ret
        exact ⟨rfl, HW.out⟩
theorem mendF_len (l : List Ent) (rp : List Int) (cl tt : Int) : (mendF l rp cl tt).1.length ≤ 1000000 := by
  unfold mendF
  first
  | exact Nat.le_trans (outE_le _) (by omega)
  | (split <;> exact Nat.le_trans (outE_le _) (by omega))

set_option maxHeartbeats 4000000 in
theorem walk_RewriteLays (w : World) (A : Option Addr) (n c : Nat) (l : List Ent) (h : Row w w.heap.size 4 A n (evs l)) (hc : n ≤ c) (hcm : c ≤ maxLen) (hwf : ∀ x ∈ l, x.wf) (m : Hp) (hm : m.ok w) (tos : Int) (htos : 0 ≤ tos ∧ tos ≤ 255) (cl : Int) (hcl : 0 ≤ cl ∧ cl ≤ 255) (tt : Int) (htt : 0 ≤ tt ∧ tt ≤ 255) :
    Calls Try.prog 4 #[.slice A n c, .agg m.cells.toArray, .agg #[.int .u8 tos, .int .u8 cl, .int .u8 tt]] w fun e w' => e = .returned (.bool true) ∧ Below w.heap.size w w' := by
  have HF := Lib.hid (fun x hx => (hwf x hx).fitR)
  have HR := Lib.hid h
  have HM := Lib.hid hm
  have hlen := ent_len h
  clear h hm hwf
  obtain ⟨gh, hgh⟩ : ∃ g, w.heap.size = g := ⟨_, rfl⟩
  have HGH := Lib.hid hgh
  go_enter Try.func4, Try.ntmps4
  go_upto_region 1 with (first
    | (refine wpList_box_blk (by rfl) 25 _ rfl m.cells rfl ?_; intro w0 hbh hB0 hs0)
    | (refine wpList_box_blk (by rfl) 40 _ rfl [.int .u8 tos, .int .u8 cl, .int .u8 tt] rfl ?_; intro w1 hbt hB1 hs1))
  have hB2 := hB0.trans (hB1.mono (by omega))
  rw [hs0] at hbt
  replace hbh := hbh.on hB1
  rw [hgh] at hbh hbt hB2
  first | rw [hgh] | skip
  obtain ⟨gt, hgt⟩ : ∃ g, gh + 1 = g := ⟨_, rfl⟩
  rw [hgt] at hbt ⊢
  go_wp2_with fail
  refine (awake20 _).mono ?_
  rintro e w2 ⟨rfl, hb2⟩
  have HH := Lib.hid (hbh.on hb2)
  have HT := Lib.hid (hbt.on hb2)
  have HW := Lib.hid (show Below w.heap.size w w2 by rw [hgh]; exact hB2.trans (hb2.mono (by omega)))
  clear hbh hbt hB1 hs1 hB0 hs0 hB2 hb2 hgt
  have d1 : w2.cell? ⟨gh, 1, none⟩ = some (.slice m.lA m.ln m.lc) := HH.out.cell 1
  have d4 : w2.cell? ⟨gh, 4, none⟩ = some (.slice m.rA m.rn m.rc) := HH.out.cell 4
  clear hgh
  by_cases h1 : 40 < n
  · have h1i : (40 : Int) < (n : Int) := by omega
    go_wp2_with fail
    go_ret
    exact ⟨rfl, HW.out⟩
  · have h1i : ¬ (40 : Int) < (n : Int) := by omega
    by_cases h2 : 40 < m.ln
    · have h2i : (40 : Int) < (m.ln : Int) := by omega
      go_wp2_with fail
      go_ret
      exact ⟨rfl, HW.out⟩
    · have h2i : ¬ (40 : Int) < (m.ln : Int) := by omega
      by_cases h3 : 40 < m.rn
      · have h3i : (40 : Int) < (m.rn : Int) := by omega
        go_wp2_with fail
        go_ret
        exact ⟨rfl, HW.out⟩
      · have h3i : ¬ (40 : Int) < (m.rn : Int) := by omega
        go_upto_region 6 with fail
        clear h1i h2i h3i d1 d4
        obtain ⟨D, hD⟩ : ∃ D, layF m tos tt = D := ⟨_, rfl⟩
        obtain ⟨L, E⟩ := D
        obtain ⟨q, hq⟩ : ∃ q, L.length = q := ⟨_, rfl⟩
        have hq1 : q ≤ 1000000 := by
          rw [← hq, show L = (layF m tos tt).1 by rw [hD]]
          have hll : m.l.length = m.ln := by have := HM.out.lrow.1; rw [nv_length] at this; omega
          unfold layF
          split
          · simp
          · split
            · simp
            · simp only [freshL_length]; omega
        have HLA := Lib.hid (fun W (hB : Below w.heap.size w W) => lay_any m tos tt W (hop_below HM.out hB) htos htt)
        have HRL := Lib.hid (fun W (hB : Below w.heap.size w W) => rlay_any m tos tt W (hop_below HM.out hB) htos htt)
        simp only [hD, hq] at HLA HRL
        obtain ⟨BD, hBD⟩ : ∃ D, mendF l m.r cl tt = D := ⟨_, rfl⟩
        obtain ⟨BL, BB⟩ := BD
        obtain ⟨bq, hbq⟩ : ∃ q, BL.length = q := ⟨_, rfl⟩
        have hbq1 : bq ≤ 1000000 := by
          rw [← hbq, show BL = (mendF l m.r cl tt).1 by rw [hBD]]
          exact mendF_len l m.r cl tt
        have HME := Lib.hid (fun W (hB : Below w.heap.size w W) => mend_any A n c l m.rA m.rn m.rc m.r cl tt W ((HR.out.below hB).more hB.size) hc hcm (by omega) HF.out ((HM.out.rrow.below hB).more hB.size) (by omega) hcl htt)
        have HRM := Lib.hid (fun W (hB : Below w.heap.size w W) => rmend_any A n c l m.rA m.rn m.rc m.r cl tt W ((HR.out.below hB).more hB.size) hc hcm (by omega) HF.out ((HM.out.rrow.below hB).more hB.size) (by omega) hcl htt)
        simp only [hBD, hbq] at HME HRM
        clear hD hq hBD hbq
        have hh := HH.out
        have t0 : w2.cell? ⟨gt, 0, none⟩ = some (.int .u8 tos) := HT.out.cell 0
        have t2 : w2.cell? ⟨gt, 2, none⟩ = some (.int .u8 tt) := HT.out.cell 2
        go_wp2_with (refine wpList_load_blk (by rfl) 25 _ rfl gh rfl 25 _ _ hh Try.underlying25 rfl (sizeHp m) ?_)
        refine (HLA.out w2 HW.out).mono ?_
        rintro e w3 ⟨A1, c1, rfl, hown, hb⟩
        clear hh t0 t2
        replace HW := Lib.hid (bthen HW.out hb)
        replace HH := Lib.hid (HH.out.on hb)
        replace HT := Lib.hid (HT.out.on hb)
        have HO1 := Lib.hid hown
        clear hown hb
        have hh := HH.out
        have t0 : w3.cell? ⟨gt, 0, none⟩ = some (.int .u8 tos) := HT.out.cell 0
        have t2 : w3.cell? ⟨gt, 2, none⟩ = some (.int .u8 tt) := HT.out.cell 2
        go_wp2_with (refine wpList_load_blk (by rfl) 25 _ rfl gh rfl 25 _ _ hh Try.underlying25 rfl (sizeHp m) ?_)
        refine (HRL.out w3 HW.out).mono ?_
        rintro e w4 ⟨A2, c2, rfl, hown, hb⟩
        clear hh t0 t2
        replace HW := Lib.hid (bthen HW.out hb)
        replace HH := Lib.hid (HH.out.on hb)
        replace HT := Lib.hid (HT.out.on hb)
        replace HO1 := Lib.hid (HO1.out.below hb)
        have HO2 := Lib.hid hown
        clear hown hb
        have hh : w4.cell? ⟨gh, 4, none⟩ = some (.slice m.rA m.rn m.rc) := HH.out.cell 4
        have t1 : w4.cell? ⟨gt, 1, none⟩ = some (.int .u8 cl) := HT.out.cell 1
        have t2 : w4.cell? ⟨gt, 2, none⟩ = some (.int .u8 tt) := HT.out.cell 2
        go_wp2_with fail
        refine (HME.out w4 HW.out).mono ?_
        rintro e w5 ⟨A3, c3, rfl, hown, hb⟩
        clear hh t1 t2
        replace HW := Lib.hid (bthen HW.out hb)
        replace HH := Lib.hid (HH.out.on hb)
        replace HT := Lib.hid (HT.out.on hb)
        replace HO1 := Lib.hid (HO1.out.below hb)
        replace HO2 := Lib.hid (HO2.out.below hb)
        have HO3 := Lib.hid hown
        clear hown hb
        have hh : w5.cell? ⟨gh, 4, none⟩ = some (.slice m.rA m.rn m.rc) := HH.out.cell 4
        have t1 : w5.cell? ⟨gt, 1, none⟩ = some (.int .u8 cl) := HT.out.cell 1
        have t2 : w5.cell? ⟨gt, 2, none⟩ = some (.int .u8 tt) := HT.out.cell 2
        go_wp2_with fail
        refine (HRM.out w5 HW.out).mono ?_
        rintro e w6 ⟨A4, c4, rfl, hown, hb⟩
        clear hh t1 t2
        replace HW := Lib.hid (bthen HW.out hb)
        replace HH := Lib.hid (HH.out.on hb)
        replace HT := Lib.hid (HT.out.on hb)
        replace HO1 := Lib.hid (HO1.out.below hb)
        replace HO2 := Lib.hid (HO2.out.below hb)
        replace HO3 := Lib.hid (HO3.out.below hb)
        have HO4 := Lib.hid hown
        clear hown hb
        go_wp2_with fail
        refine (exact_same A1 A2 q c1 c2 L w6 _ HO1.out.row HO2.out.row (by omega)).mono ?_
        rintro e w7 ⟨rfl, hb⟩
        replace HW := Lib.hid (bthen HW.out hb)
        replace HH := Lib.hid (HH.out.on hb)
        replace HT := Lib.hid (HT.out.on hb)
        replace HO1 := Lib.hid (HO1.out.below hb)
        replace HO2 := Lib.hid (HO2.out.below hb)
        replace HO3 := Lib.hid (HO3.out.below hb)
        replace HO4 := Lib.hid (HO4.out.below hb)
        clear hb
        go_wp2_with fail
        refine (exact_same A3 A4 bq c3 c4 BL w7 _ HO3.out.row HO4.out.row (by omega)).mono ?_
        rintro e w8 ⟨rfl, hb⟩
        replace HW := Lib.hid (bthen HW.out hb)
        replace HH := Lib.hid (HH.out.on hb)
        replace HT := Lib.hid (HT.out.on hb)
        replace HO1 := Lib.hid (HO1.out.below hb)
        replace HO2 := Lib.hid (HO2.out.below hb)
        replace HO3 := Lib.hid (HO3.out.below hb)
        replace HO4 := Lib.hid (HO4.out.below hb)
        clear hb
        go_wp2_with fail
        go_ret
        exact ⟨rfl, HW.out⟩
end Go.Proofs.Ytmpaockaeoknmaa

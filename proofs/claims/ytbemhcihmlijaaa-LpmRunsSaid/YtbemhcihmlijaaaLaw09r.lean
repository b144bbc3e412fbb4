/- Any script of puts, deletes and looks is answered as the document's is (LpmRuns). No condition but sizes. -/
import Derived.Test.YtbemhcihmlijaaaLaw09t
import Derived.Deep.DeepCutAuto
import Derived.Deep.CutBlock
namespace Go.Proofs.Ytbemhcihmlijaaa
open Go.RowKit
set_option linter.unusedVariables false
set_option maxRecDepth 20000
set_option linter.unusedSimpArgs false

set_option maxHeartbeats 4000000 in
theorem walk_LpmRuns (w : World) (six : Bool) (room : Int) (hrm : -9223372036854775808 ≤ room ∧ room ≤ 9223372036854775807) (z : Sl9) (hz : z.ok w) :
  Calls Try.prog 5 #[.bool six, .int .i64 room, .slice z.A z.n z.c] w fun e w' => e = .returned (.bool true) ∧ Below w.heap.size w w' := by
 obtain ⟨A, n, c, Sc⟩ := z
 obtain ⟨hr, hle, hcap, hfit⟩ := hz
 simp only at hr hle hcap hfit ⊢
 have HR := Lib.hid hr
 have HF := Lib.hid hfit
 have HLN := Lib.hid (sts_row hr hfit)
 clear hr hfit hle hcap hrm
 go_enter Try.func5, Try.ntmps5
 go_wp2_with fail
 refine (awake_any w).mono ?_
 rintro e w2 ⟨rfl, hb⟩
 have HW2 := Lib.hid hb
 clear hb
 by_cases h60 : (60 : Int) < (n : Int)
 ·go_wp2_with fail
  go_ret
  exact ⟨rfl, HW2.out⟩
 ·have HN60 := Lib.hid (show n ≤ 60 by omega)
  go_wp2_with fail
  refine (tnew_O six room w2).mono ?_
  rintro e w3 ⟨o, rfl, hne, hT, hb⟩
  obtain ⟨s1, r1, hT1, hN⟩ := new_both six room hne hT
  obtain ⟨i1, hi1⟩ : ∃ x, o.isSome = x := ⟨_, rfl⟩
  have hos := hi1
  rw [hi1] at hT1 hN
  have HOS := Lib.hid hos
  have HT3 := Lib.hid hT1
  have HNW := Lib.hid hN
  have HB3 := Lib.hid hb
  have HW3 := Lib.hid (bthen HW2.out hb)
  clear hT hne hb hi1 hos hT1 hN
  go_wp2_with fail
  refine (rnew_any six room w3).mono ?_
  rintro e w4 ⟨rfl, hb⟩
  rw [HNW.out]
  have HT4 := Lib.hid hb
  have HW4 := Lib.hid (bthen HW3.out hb)
  clear hb
  go_upto_region 8 with (first
   | (refine wpList_alloc_blk (by rfl) 47 rfl tZ zeroT ?_; intro wa hba hBa hsa)
   | (refine wpList_store_all (by rfl) 47 _ _ rfl w4.heap.size (tC i1 s1 r1 (.slice none 0 0)) rfl rfl 47 _ hba (sizeT _ _ _ _) rfl (oneTs _ _ _ _ _ _) ?_; intro w5 hb5 hg5 hs5))
  have hbb := bgrown hBa hg5 hBa.size (Nat.le_refl _)
  have hs2 := HW2.out.size
  have hs3 := HB3.out.size
  have hs4 := HT4.out.size
  have hT5 : Two w5 w.heap.size [w4.heap.size] o i1 s1 r1 1 [] [] none 0 0 := by
   refine (two_new (w0 := w2) (B := w.heap.size) (G := []) HT3.out hs2 (by simp)).more (HT4.out.trans (hbb.mono hs4)) ?_
   intro b hb
   rw [List.mem_singleton.1 hb]
   exact .inr hs4
  have hW5 := bthen HW4.out hbb
  have hG9 : w.heap.size ≤ w4.heap.size := by omega
  obtain ⟨g9, hg9⟩ : ∃ g, w4.heap.size = g := ⟨_, rfl⟩
  rw [hg9] at hb5 hT5 hG9
  try rw [hg9]
  have HT5 := Lib.hid hT5
  have HW5 := Lib.hid hW5
  have H95 := Lib.hid hb5
  have HG9 := Lib.hid hG9
  have c0 : w5.cell? ⟨g9, 0, none⟩ = some (.bool i1) := hb5.cell 0
  clear hba hBa hsa hb5 hg5 hs5 hbb hs2 hs3 hs4 hT5 hW5 hG9 hg9
  go_wp2_with (refine wpList_value (by rfl) (exec_neT _ _ _ rfl o i1 HOS.out (by rfl) (by rfl)) ?_)
  clear c0
  go_loopw [10, 11, 12, 13, 14, 15, 16, 17, 18, 19, 20, 21, 22] (fun i _ _ _ _ _ _ _ _ _ _ _ _ wr => ∃ (k : Nat) (L : List Itm) (K : Nat) (rA : Option Addr) (rn rc : Nat), k ≤ n ∧ i = .int .i64 (k : Nat) ∧ Two wr w.heap.size [g9] o i1 s1 r1 K L L rA rn rc ∧ K ≤ 2 * k + 1 ∧ Blk wr g9 47 (tC i1 s1 r1 (.slice rA rn rc)) ∧ Below w.heap.size w wr) (fun i _ _ _ _ _ _ _ _ _ _ _ _ _ => n - (intOf i).toNat)
  case atStart => exact ⟨0, [], 1, none, 0, 0, by omega, rfl, HT5.out, by omega, H95.out, HW5.out⟩
  case round =>
   obtain ⟨k, L, K, rA, rn, rc, hk, rfl, hT, hK, h9, hW⟩ := hrel
   have HT := Lib.hid hT
   have HK := Lib.hid hK
   have H9 := Lib.hid h9
   have HW := Lib.hid hW
   clear hT hK h9 hW HT5 H95 HW5 HT3 HT4 HW4 HW3 HW2 HB3 HNW
   by_cases hlt : k < n
   ·obtain ⟨s, hs⟩ := get_ex Sc (k := k) (by rw [HLN.out]; exact hlt)
    obtain ⟨bA, oA, rfl, hbA, hcA⟩ := sts_at HR.out HF.out k s hs
    have HSF := Lib.hid (HF.out s (List.mem_of_getElem? hs))
    have HSR := Lib.hid (range_below HW.out hbA hcA)
    have HBA := Lib.hid (show bA < wr.heap.size from Nat.lt_of_lt_of_le hbA HW.out.size)
    have hlt2 : (k : Int) < (n : Int) := by omega
    have hlt3 : (k : Int) + 1 ≤ (n : Int) := by omega
    have hn60 := HN60.out
    clear hbA hcA hs
    go_upto_region 14 with (first
     | (refine wpList_value (by rfl) (exec_load_mid 32 _ rfl bA (oA + k * 20) (by rfl) s.cells _ HSR.out Try.underlying32 rfl (sizeSt _ HSF.out.p.addr)) ?_)
     | (refine wpList_alloc_blk (by rfl) 32 rfl St9.zero.cells zeroSt ?_; intro wa hba hBa hsa)
     | (refine wpList_store_all (by rfl) 32 _ _ rfl wr.heap.size s.cells rfl rfl 32 _ hba (sizeSt _ HSF.out.p.addr) (by rw [St9.cells_length _ HSF.out.p.addr]; rfl) (oneSt _) ?_; intro w5 hb5 hg5 hs5))
    have hbb := bgrown hBa hg5 hBa.size (Nat.le_refl _)
    have hT5 := HT.out.more hbb (mem_two (g := g9) (Nat.le_refl _))
    have hlt9 := H9.out.lt
    obtain ⟨g11, hg11⟩ : ∃ g, wr.heap.size = g := ⟨_, rfl⟩
    rw [hg11] at hb5 hT5 hlt9
    try rw [hg11]
    replace HT := Lib.hid hT5
    replace H9 := Lib.hid (H9.out.on hbb)
    replace HW := Lib.hid (bthen HW.out hbb)
    have H11 := Lib.hid hb5
    have HNE := Lib.hid hlt9
    clear hba hBa hsa hb5 hg5 hs5 hbb hT5 hlt9 hg11 HSR HBA
    have HLF0 := Lib.hid (show ∀ x ∈ L, x.1.fit from fun x hx => (HT.out.lok.good x hx).fit)
    have HLL := Lib.hid HT.out.len
    obtain ⟨kd, hkd⟩ : ∃ x, s.kind = x := ⟨_, rfl⟩
    have c0 : w5.cell? ⟨g11, 0, none⟩ = some (.int .i64 kd) := (H11.out.cell 0).trans (by rw [← hkd]; rfl)
    have c19 : w5.cell? ⟨g11, 19, none⟩ = some (.int .i64 s.v) := (H11.out.cell 19).trans (st_v HSF.out.p.addr)
    have HKD := Lib.hid hkd
    clear hkd
    obtain ⟨D, hD⟩ : ∃ x, doR i1 s1 r1 L kd s.p s.v = x := ⟨_, rfl⟩
    obtain ⟨L2, E⟩ := D
    have HD := Lib.hid hD
    clear hD
    have hk9 : K ≤ 999990 := by have := HK.out; omega
    have HK9 := Lib.hid hk9
    clear hk9
    go_upto_block 2 with fail
    go_cut [12] (fun e wx => e = .int .i64 E ∧ Two wx w.heap.size [g9, g11] o i1 s1 r1 (K + 2) L2 L rA rn rc ∧ Kept (fun b => w.heap.size ≤ b ∧ b ∉ [g9, g11]) w5 wx)
    case first =>
     by_cases h0 : kd = 0
     ·subst h0
      have HP := Lib.hid ((doR_put _ _ _ _ _ _).symm.trans HD.out)
      go_wp2_with (refine wpList_value (by rfl) (exec_load_mid 30 _ rfl g11 1 (by rfl) s.p.cells _ (st_blk_px H11.out HSF.out.p.addr) Try.underlying30 rfl (sizePx _ HSF.out.p.addr)) ?_)
      refine (two_put HT.out HW.out.size (lt_two H9.out.lt H11.out.lt) HK9.out s.p HSF.out.p s.v).mono ?_
      rintro e w6 ⟨rfl, hT, hk⟩
      rw [HP.out] at hT ⊢
      have HT6 := Lib.hid hT
      have HK6 := Lib.hid hk
      clear hT hk
      go_wp2_with fail
      go_meet
      exact ⟨rfl, HT6.out, HK6.out⟩
     ·by_cases h1 : kd = 1
      ·subst h1
       have HP := Lib.hid ((doR_del i1 s1 r1 _ _ s.v).symm.trans HD.out)
       clear h0
       go_wp2_with (refine wpList_value (by rfl) (exec_load_mid 30 _ rfl g11 1 (by rfl) s.p.cells _ (st_blk_px H11.out HSF.out.p.addr) Try.underlying30 rfl (sizePx _ HSF.out.p.addr)) ?_)
       refine (two_del HT.out HW.out.size (lt_two H9.out.lt H11.out.lt) HK9.out s.p HSF.out.p).mono ?_
       rintro e w6 ⟨rfl, hT, hk⟩
       rw [HP.out] at hT ⊢
       have HT6 := Lib.hid (hT.upto (K' := K + 2) (by omega))
       have HK6 := Lib.hid hk
       clear hT hk
       go_wp2_with fail
       go_meet
       exact ⟨rfl, HT6.out, HK6.out⟩
      ·have hP := (doR_none i1 s1 r1 L kd h0 h1 s.p s.v).symm.trans HD.out
       injection hP with hP1 hP2
       have HP1 := Lib.hid hP1
       have HP2 := Lib.hid hP2
       clear hP1 hP2
       go_wp2_with fail
       go_meet
       exact ⟨by rw [← HP2.out], by rw [← HP1.out]; exact HT.out.upto (by omega), Kept.refl _ _⟩
    case rest =>
     obtain ⟨rfl, hT, hk⟩ := hcut
     replace HT := Lib.hid hT
     replace H9 := Lib.hid (hk.blk H9.out (fun h => h.2 List.mem_cons_self))
     replace H11 := Lib.hid (hk.blk H11.out (fun h => h.2 (List.mem_cons_of_mem _ List.mem_cons_self)))
     replace HW := Lib.hid (HW.out.trans (hk.below HW.out.size (fun x h => h.1)))
     clear hT hk c0 c19
     have c0 : wc.cell? ⟨g11, 0, none⟩ = some (.int .i64 kd) := (H11.out.cell 0).trans (by rw [← HKD.out]; rfl)
     have c19 : wc.cell? ⟨g11, 19, none⟩ = some (.int .i64 s.v) := (H11.out.cell 19).trans (st_v HSF.out.p.addr)
     have HLF := Lib.hid (show ∀ x ∈ L, x.1.fit from HLF0.out)
     have HRN := Lib.hid (show rn ≤ 65536 by
      have h8 := HT.out.rlen HLF.out
      have := HK.out
      have := HLL.out
      omega)
     go_wp2_with (first | (refine wpList_value (by rfl) (exec_load 47 _ rfl g9 (by rfl) 47 (tC i1 s1 r1 (.slice rA rn rc)) _ H9.out Try.underlying47 rfl (sizeT _ _ _ _)) ?_) | (refine wpList_value (by rfl) (exec_load_mid 30 _ rfl g11 1 (by rfl) s.p.cells _ (st_blk_px H11.out HSF.out.p.addr) Try.underlying30 rfl (sizePx _ HSF.out.p.addr)) ?_))
     refine (two_do HT.out (lt_two H9.out.lt H11.out.lt) HLF.out HRN.out kd s.p HSF.out.p s.v).mono ?_
     rintro e w6 ⟨A2, n2, c2, rfl, hT, hb⟩
     rw [HD.out] at hT ⊢
     clear c0 c19
     replace HT := Lib.hid hT
     replace H9 := Lib.hid (H9.out.on hb)
     replace H11 := Lib.hid (H11.out.on hb)
     replace HW := Lib.hid (bthen HW.out hb)
     clear hT hb
     go_upto_region 21 with (first
      | (refine wpList_alloc_blk (by rfl) 47 rfl tZ zeroT ?_; intro wa hba hBa hsa)
      | (refine wpList_store_all (by rfl) 47 _ _ rfl w6.heap.size (tC i1 s1 r1 (.slice A2 n2 c2)) rfl rfl 47 _ hba (sizeT _ _ _ _) rfl (oneTs _ _ _ _ _ _) ?_; intro w7 hb7 hg7 hs7))
     have hbb := bgrown hBa hg7 hBa.size (Nat.le_refl _)
     replace HT := Lib.hid (HT.out.on hbb)
     replace H9 := Lib.hid (H9.out.on hbb)
     replace H11 := Lib.hid (H11.out.on hbb)
     replace HW := Lib.hid (bthen HW.out hbb)
     obtain ⟨g13, hg13⟩ : ∃ g, w6.heap.size = g := ⟨_, rfl⟩
     rw [hg13] at hb7
     try rw [hg13]
     have H13 := Lib.hid hb7
     clear hba hBa hsa hb7 hg7 hs7 hbb hg13
     go_upto_region 22 with (first
      | (refine wpList_value (by rfl) (exec_load 47 _ rfl g13 (by rfl) 47 (tC i1 s1 r1 (.slice A2 n2 c2)) _ H13.out Try.underlying47 rfl (sizeT _ _ _ _)) ?_)
      | (refine wpList_store_all (by rfl) 47 _ _ rfl g9 (tC i1 s1 r1 (.slice A2 n2 c2)) rfl rfl 47 _ H9.out (sizeT _ _ _ _) rfl (oneTs _ _ _ _ _ _) ?_; intro w8 hb8 hg8 hs8))
     have hk8 : Kept (fun b => b = g9) w7 w8 := Kept.of_grown hg8 (fun k h => by injection h with h; exact h.symm)
     replace HT := Lib.hid (HT.out.store List.mem_cons_self hk8)
     replace H9 := Lib.hid hb8
     replace H11 := Lib.hid (hk8.blk H11.out (fun h => by have := HNE.out; omega))
     replace HW := Lib.hid (HW.out.trans (hk8.below HW.out.size (fun x h => by rw [h]; exact HG9.out)))
     clear hb8 hg8 hs8 hk8 H13
     have HLK := Lib.hid HT.out.lok
     have HL2 := Lib.hid (show ∀ x ∈ L2, x.1.fit from fun x hx => (HLK.out.good x hx).fit)
     have HLN2 := Lib.hid (HT.out.rlen HL2.out)
     have hn2 : n2 ≤ 1000 := by
      have h8 := HT.out.len
      have h7 := HLN2.out
      have := HK.out
      omega
     have HN2 := Lib.hid hn2
     clear hn2
     go_wp2_with (refine wpList_value (by rfl) (exec_load_mid 30 _ rfl g11 1 (by rfl) s.p.cells _ (st_blk_px H11.out HSF.out.p.addr) Try.underlying30 rfl (sizePx _ HSF.out.p.addr)) ?_)
     refine (two_get HT.out s.p HSF.out.p).mono ?_
     rintro e w9 ⟨rfl, hb⟩
     replace HT := Lib.hid (HT.out.on hb)
     replace H9 := Lib.hid (H9.out.on hb)
     replace H11 := Lib.hid (H11.out.on hb)
     replace HW := Lib.hid (bthen HW.out hb)
     clear hb
     obtain ⟨V, hV⟩ : ∃ x, getC L2 s.p = x := ⟨_, rfl⟩
     obtain ⟨Q, hQ⟩ : ∃ x, hasC L2 s.p = x := ⟨_, rfl⟩
     have HV := Lib.hid hV
     have HQ := Lib.hid hQ
     rw [hV, hQ]
     clear hV hQ
     go_wp2_with (first | (refine wpList_value (by rfl) (exec_load 47 _ rfl g9 (by rfl) 47 (tC i1 s1 r1 (.slice A2 n2 c2)) _ H9.out Try.underlying47 rfl (sizeT _ _ _ _)) ?_) | (refine wpList_value (by rfl) (exec_load_mid 30 _ rfl g11 1 (by rfl) s.p.cells _ (st_blk_px H11.out HSF.out.p.addr) Try.underlying30 rfl (sizePx _ HSF.out.p.addr)) ?_))
     refine (rget_any i1 s1 r1 L2 HL2.out A2 n2 c2 (by have := HN2.out; omega) s.p HSF.out.p w9 HT.out.row).mono ?_
     rintro e w10 ⟨rfl, hb⟩
     rw [HV.out, HQ.out]
     replace HT := Lib.hid (HT.out.on hb)
     replace H9 := Lib.hid (H9.out.on hb)
     replace H11 := Lib.hid (H11.out.on hb)
     replace HW := Lib.hid (bthen HW.out hb)
     clear hb
     obtain ⟨Y, hY⟩ : ∃ x, ansL' L2 s.p.addr = x := ⟨_, rfl⟩
     have hyf : Y.1.1.fit := by rw [← hY]; exact ansL_fit HL2.out _
     obtain ⟨y, b⟩ := Y
     have HYF := Lib.hid hyf
     have HY := Lib.hid hY
     clear hyf hY
     go_wp2_with (refine wpList_value (by rfl) (exec_load_mid 28 _ rfl g11 2 (by rfl) (bv s.p.addr) _ (st_blk_ad H11.out HSF.out.p.addr) Try.underlying28 rfl (size16 _ HSF.out.p.addr)) ?_)
     refine (two_look HT.out s.p.addr HSF.out.p.addr).mono ?_
     rintro e w11 ⟨rfl, hb⟩
     rw [HY.out]
     replace HT := Lib.hid (HT.out.on hb)
     replace H9 := Lib.hid (H9.out.on hb)
     replace H11 := Lib.hid (H11.out.on hb)
     replace HW := Lib.hid (bthen HW.out hb)
     clear hb
     go_upto_region 25 with (first
      | (refine wpList_alloc_blk (by rfl) 38 rfl (itC (Px.zero, 0)) zeroIt ?_; intro wa hba hBa hsa)
      | (refine wpList_store_all (by rfl) 38 _ _ rfl w11.heap.size (itC y) rfl rfl 38 _ hba (sizeIt _ HYF.out.addr) (by rw [itC_length y HYF.out.addr]; rfl) (oneIt _) ?_; intro w12 hb12 hg12 hs12))
     have hbb := bgrown hBa hg12 hBa.size (Nat.le_refl _)
     replace HT := Lib.hid (HT.out.on hbb)
     replace H9 := Lib.hid (H9.out.on hbb)
     replace H11 := Lib.hid (H11.out.on hbb)
     replace HW := Lib.hid (bthen HW.out hbb)
     obtain ⟨g19, hg19⟩ : ∃ g, w11.heap.size = g := ⟨_, rfl⟩
     rw [hg19] at hb12
     try rw [hg19]
     have H19 := Lib.hid hb12
     clear hba hBa hsa hb12 hg12 hs12 hbb hg19
     go_wp2_with (first | (refine wpList_value (by rfl) (exec_load 47 _ rfl g9 (by rfl) 47 (tC i1 s1 r1 (.slice A2 n2 c2)) _ H9.out Try.underlying47 rfl (sizeT _ _ _ _)) ?_) | (refine wpList_value (by rfl) (exec_load_mid 28 _ rfl g11 2 (by rfl) (bv s.p.addr) _ (st_blk_ad H11.out HSF.out.p.addr) Try.underlying28 rfl (size16 _ HSF.out.p.addr)) ?_))
     refine (rlook_any i1 s1 r1 L2 HLK.out.good A2 n2 c2 (by have := HN2.out; omega) s.p.addr HSF.out.p.addr w12 HT.out.row).mono ?_
     rintro e w13 ⟨rfl, hb⟩
     rw [HY.out]
     replace HT := Lib.hid (HT.out.on hb)
     replace H9 := Lib.hid (H9.out.on hb)
     replace H11 := Lib.hid (H11.out.on hb)
     replace H19 := Lib.hid (H19.out.on hb)
     replace HW := Lib.hid (bthen HW.out hb)
     clear hb
     go_upto_region 26 with (first
      | (refine wpList_alloc_blk (by rfl) 53 rfl (itC (Px.zero, 0)) zero53 ?_; intro wa hba hBa hsa)
      | (refine wpList_store_all (by rfl) 53 _ _ rfl w13.heap.size (itC y) rfl rfl 53 _ hba (size53 _ HYF.out.addr) (by rw [itC_length y HYF.out.addr]; rfl) (itC_one _) ?_; intro w14 hb14 hg14 hs14))
     have hbb := bgrown hBa hg14 hBa.size (Nat.le_refl _)
     replace HT := Lib.hid (HT.out.on hbb)
     replace H9 := Lib.hid (H9.out.on hbb)
     replace H11 := Lib.hid (H11.out.on hbb)
     replace H19 := Lib.hid (H19.out.on hbb)
     replace HW := Lib.hid (bthen HW.out hbb)
     obtain ⟨g21, hg21⟩ : ∃ g, w13.heap.size = g := ⟨_, rfl⟩
     rw [hg21] at hb14
     try rw [hg21]
     have H21 := Lib.hid hb14
     clear hba hBa hsa hb14 hg14 hs14 hbb hg21
     refine wp_region_rel (fun A B => A.grownBy B none) (fun A => grown_refl A _) (fun A B C h k => grown_trans h k) (relAt (List.cons (fun v _ => v = .int .i64 E) (List.cons (fun v _ => v = .int .i64 E) (List.cons (fun v _ => v = .bool false) (List.cons (fun v _ => v = .bool false) (List.cons (fun v _ => v = .int .i64 V) (List.cons (fun v _ => v = .int .i64 V) (List.cons (fun v _ => v = .bool false) (List.cons (fun v _ => v = .bool false) (List.cons (fun v _ => v = .bool false) (List.cons (fun v _ => v = .bool Q) (List.cons (fun v _ => v = .bool Q) (List.cons (fun v _ => v = .bool false) (List.cons (fun v _ => v = .bool false) (List.cons (fun v _ => v = .bool false) (List.cons (fun v _ => v = .pointer (some ⟨g19, 0, none⟩)) (List.cons (fun v _ => v = .agg y.1.cells.toArray) (List.cons (fun v _ => v = .pointer (some ⟨g21, 0, none⟩)) (List.cons (fun v _ => v = .agg y.1.cells.toArray) (List.cons (fun v _ => v = .bool false) (List.cons (fun v _ => v = .bool false) (List.cons (fun v _ => v = .bool false) (List.cons (fun v _ => v = .pointer (some ⟨g19, 18, none⟩)) (List.cons (fun v _ => v = .int .i64 y.2) (List.cons (fun v _ => v = .pointer (some ⟨g21, 18, none⟩)) (List.cons (fun v _ => v = .int .i64 y.2) (List.cons (fun v _ => v = .bool false) (List.cons (fun v _ => v = .bool false) (List.cons (fun v _ => v = .bool false) (List.cons (fun v _ => v = .bool b) (List.cons (fun v _ => v = .bool b) (List.cons (fun v _ => v = .bool false) (List.cons (fun v _ => v = .bool false) (List.cons (fun v _ => v = .bool false) (List.cons (fun v _ => v = ptV o) (List.cons (fun v _ => v = .int .i64 (L2.length : Int)) (List.cons (fun v _ => v = .pointer (some ⟨g9, 3, none⟩)) (List.cons (fun v _ => v = .slice A2 n2 c2) (List.cons (fun v _ => v = .int .i64 (n2 : Int)) (List.cons (fun v _ => v = .bool false) (List.cons (fun v _ => v = .bool false) ([])))))))))))))))))))))))))))))))))))))))))) (MonoL.at_ (.cons (mono_val _) (.cons (mono_val _) (.cons (mono_val _) (.cons (mono_val _) (.cons (mono_val _) (.cons (mono_val _) (.cons (mono_val _) (.cons (mono_val _) (.cons (mono_val _) (.cons (mono_val _) (.cons (mono_val _) (.cons (mono_val _) (.cons (mono_val _) (.cons (mono_val _) (.cons (mono_val _) (.cons (mono_val _) (.cons (mono_val _) (.cons (mono_val _) (.cons (mono_val _) (.cons (mono_val _) (.cons (mono_val _) (.cons (mono_val _) (.cons (mono_val _) (.cons (mono_val _) (.cons (mono_val _) (.cons (mono_val _) (.cons (mono_val _) (.cons (mono_val _) (.cons (mono_val _) (.cons (mono_val _) (.cons (mono_val _) (.cons (mono_val _) (.cons (mono_val _) (.cons (mono_val _) (.cons (mono_val _) (.cons (mono_val _) (.cons (mono_val _) (.cons (mono_val _) (.cons (mono_val _) (.cons (mono_val _) .nil))))))))))))))))))))))))))))))))))))))))) (by kernel_rfl) (by kernel_rfl) ⟨?_, ?_, ?_, ?_, ?_, ?_, ?_, ?_, ?_, ?_, ?_, ?_, ?_, ?_, ?_, ?_, ?_, ?_, ?_, ?_, ?_, ?_, ?_, ?_, ?_, ?_, ?_, ?_, ?_, ?_, ?_, ?_, ?_, ?_, ?_, ?_, ?_, ?_, ?_, ?_, trivial⟩ ?_
     ·intro a vs W hX hR he hf K hK
      rw [if_pos (wanted_none rfl)]
      have e12 : a.eval (.tmp 12) = .int .i64 E := hf 12 (by kernel_rfl)
      refine wp_value (v := .int .i64 E) ?_ (hK _ _ rfl (grown_refl W _))
      simp only [execOp, e12]
      try go_simp
     ·intro a vs W hX hR he hf K hK
      rw [if_pos (wanted_none rfl)]
      have e14 : a.eval (.tmp 14) = .int .i64 E := hf 14 (by kernel_rfl)
      refine wp_value (v := .int .i64 E) ?_ (hK _ _ rfl (grown_refl W _))
      simp only [execOp, e14]
      try go_simp
     ·intro a vs W hX hR he hf K hK
      rw [if_pos (wanted_none rfl)]
      have e108 : a.eval (.tmp 108) = .int .i64 E := (he 0 108 (by kernel_rfl) rfl).trans (hR 0 (by kernel_rfl))
      have e109 : a.eval (.tmp 109) = .int .i64 E := (he 1 109 (by kernel_rfl) rfl).trans (hR 1 (by kernel_rfl))
      refine wp_value (v := .bool false) ?_ (hK _ _ rfl (grown_refl W _))
      simp only [execOp, e108, e109]
      try go_simp
     ·intro a vs W hX hR he hf K hK
      rw [if_pos (wanted_none rfl)]
      have e110 : a.eval (.tmp 110) = .bool false := (he 2 110 (by kernel_rfl) rfl).trans (hR 2 (by kernel_rfl))
      refine wp_value (v := .bool false) ?_ (hK _ _ rfl (grown_refl W _))
      simp only [execOp, e110]
      try go_simp
     ·intro a vs W hX hR he hf K hK
      have e111 : a.eval (.tmp 111) = .bool false := (he 3 111 (by kernel_rfl) rfl).trans (hR 3 (by kernel_rfl))
      refine Eq.mpr (if_pos (by exact (wanted_some rfl rfl e111).trans rfl)) ?_
      have e15 : a.eval (.tmp 15) = .int .i64 V := hf 15 (by kernel_rfl)
      refine wp_value (v := .int .i64 V) ?_ (hK _ _ rfl (grown_refl W _))
      simp only [execOp, e15]
      try go_simp
     ·intro a vs W hX hR he hf K hK
      have e111 : a.eval (.tmp 111) = .bool false := (he 3 111 (by kernel_rfl) rfl).trans (hR 3 (by kernel_rfl))
      refine Eq.mpr (if_pos (by exact (wanted_some rfl rfl e111).trans rfl)) ?_
      have e17 : a.eval (.tmp 17) = .int .i64 V := hf 17 (by kernel_rfl)
      refine wp_value (v := .int .i64 V) ?_ (hK _ _ rfl (grown_refl W _))
      simp only [execOp, e17]
      try go_simp
     ·intro a vs W hX hR he hf K hK
      have e111 : a.eval (.tmp 111) = .bool false := (he 3 111 (by kernel_rfl) rfl).trans (hR 3 (by kernel_rfl))
      refine Eq.mpr (if_pos (by exact (wanted_some rfl rfl e111).trans rfl)) ?_
      have e112 : a.eval (.tmp 112) = .int .i64 V := (he 4 112 (by kernel_rfl) rfl).trans (hR 4 (by kernel_rfl))
      have e113 : a.eval (.tmp 113) = .int .i64 V := (he 5 113 (by kernel_rfl) rfl).trans (hR 5 (by kernel_rfl))
      refine wp_value (v := .bool false) ?_ (hK _ _ rfl (grown_refl W _))
      simp only [execOp, e112, e113]
      try go_simp
     ·intro a vs W hX hR he hf K hK
      rw [if_pos (wanted_none rfl)]
      have e111 : a.eval (.tmp 111) = .bool false := (he 3 111 (by kernel_rfl) rfl).trans (hR 3 (by kernel_rfl))
      have e114 : a.eval (.tmp 114) = .bool false := (he 6 114 (by kernel_rfl) rfl).trans (hR 6 (by kernel_rfl))
      refine wp_value (v := .bool false) ?_ (hK _ _ rfl (grown_refl W _))
      simp only [execOp, e111, e114]
      try go_simp
     ·intro a vs W hX hR he hf K hK
      rw [if_pos (wanted_none rfl)]
      have e115 : a.eval (.tmp 115) = .bool false := (he 7 115 (by kernel_rfl) rfl).trans (hR 7 (by kernel_rfl))
      refine wp_value (v := .bool false) ?_ (hK _ _ rfl (grown_refl W _))
      simp only [execOp, e115]
      try go_simp
     ·intro a vs W hX hR he hf K hK
      have e116 : a.eval (.tmp 116) = .bool false := (he 8 116 (by kernel_rfl) rfl).trans (hR 8 (by kernel_rfl))
      refine Eq.mpr (if_pos (by exact (wanted_some rfl rfl e116).trans rfl)) ?_
      have e16 : a.eval (.tmp 16) = .bool Q := hf 16 (by kernel_rfl)
      refine wp_value (v := .bool Q) ?_ (hK _ _ rfl (grown_refl W _))
      simp only [execOp, e16]
      try go_simp
     ·intro a vs W hX hR he hf K hK
      have e116 : a.eval (.tmp 116) = .bool false := (he 8 116 (by kernel_rfl) rfl).trans (hR 8 (by kernel_rfl))
      refine Eq.mpr (if_pos (by exact (wanted_some rfl rfl e116).trans rfl)) ?_
      have e18 : a.eval (.tmp 18) = .bool Q := hf 18 (by kernel_rfl)
      refine wp_value (v := .bool Q) ?_ (hK _ _ rfl (grown_refl W _))
      simp only [execOp, e18]
      try go_simp
     ·intro a vs W hX hR he hf K hK
      have e116 : a.eval (.tmp 116) = .bool false := (he 8 116 (by kernel_rfl) rfl).trans (hR 8 (by kernel_rfl))
      refine Eq.mpr (if_pos (by exact (wanted_some rfl rfl e116).trans rfl)) ?_
      have e117 : a.eval (.tmp 117) = .bool Q := (he 9 117 (by kernel_rfl) rfl).trans (hR 9 (by kernel_rfl))
      have e118 : a.eval (.tmp 118) = .bool Q := (he 10 118 (by kernel_rfl) rfl).trans (hR 10 (by kernel_rfl))
      refine wp_value (v := .bool false) ?_ (hK _ _ rfl (grown_refl W _))
      simp only [execOp, e117, e118]
      try go_simp
     ·intro a vs W hX hR he hf K hK
      rw [if_pos (wanted_none rfl)]
      have e116 : a.eval (.tmp 116) = .bool false := (he 8 116 (by kernel_rfl) rfl).trans (hR 8 (by kernel_rfl))
      have e119 : a.eval (.tmp 119) = .bool false := (he 11 119 (by kernel_rfl) rfl).trans (hR 11 (by kernel_rfl))
      refine wp_value (v := .bool false) ?_ (hK _ _ rfl (grown_refl W _))
      simp only [execOp, e116, e119]
      try go_simp
     ·intro a vs W hX hR he hf K hK
      rw [if_pos (wanted_none rfl)]
      have e120 : a.eval (.tmp 120) = .bool false := (he 12 120 (by kernel_rfl) rfl).trans (hR 12 (by kernel_rfl))
      refine wp_value (v := .bool false) ?_ (hK _ _ rfl (grown_refl W _))
      simp only [execOp, e120]
      try go_simp
     ·intro a vs W hX hR he hf K hK
      have e121 : a.eval (.tmp 121) = .bool false := (he 13 121 (by kernel_rfl) rfl).trans (hR 13 (by kernel_rfl))
      refine Eq.mpr (if_pos (by exact (wanted_some rfl rfl e121).trans rfl)) ?_
      have e19 : a.eval (.tmp 19) = .pointer (some ⟨g19, 0, none⟩) := hf 19 (by kernel_rfl)
      refine wp_value (v := .pointer (some ⟨g19, 0, none⟩)) ?_ (hK _ _ rfl (grown_refl W _))
      simp only [execOp, e19]
      try go_simp
     ·intro a vs W hX hR he hf K hK
      have e121 : a.eval (.tmp 121) = .bool false := (he 13 121 (by kernel_rfl) rfl).trans (hR 13 (by kernel_rfl))
      refine Eq.mpr (if_pos (by exact (wanted_some rfl rfl e121).trans rfl)) ?_
      have e122 : a.eval (.tmp 122) = .pointer (some ⟨g19, 0, none⟩) := (he 14 122 (by kernel_rfl) rfl).trans (hR 14 (by kernel_rfl))
      have hbW := bthen (below_drew _) (grow_below hX)
      exact wp_value (exec_load_mid 30 _ rfl g19 0 e122 y.1.cells _ (blk_px (H19.out.on hbW) HYF.out.addr) Try.underlying30 rfl (sizePx _ HYF.out.addr)) (hK _ _ rfl (grown_refl W _))
     ·intro a vs W hX hR he hf K hK
      have e121 : a.eval (.tmp 121) = .bool false := (he 13 121 (by kernel_rfl) rfl).trans (hR 13 (by kernel_rfl))
      refine Eq.mpr (if_pos (by exact (wanted_some rfl rfl e121).trans rfl)) ?_
      have e21 : a.eval (.tmp 21) = .pointer (some ⟨g21, 0, none⟩) := hf 21 (by kernel_rfl)
      refine wp_value (v := .pointer (some ⟨g21, 0, none⟩)) ?_ (hK _ _ rfl (grown_refl W _))
      simp only [execOp, e21]
      try go_simp
     ·intro a vs W hX hR he hf K hK
      have e121 : a.eval (.tmp 121) = .bool false := (he 13 121 (by kernel_rfl) rfl).trans (hR 13 (by kernel_rfl))
      refine Eq.mpr (if_pos (by exact (wanted_some rfl rfl e121).trans rfl)) ?_
      have e124 : a.eval (.tmp 124) = .pointer (some ⟨g21, 0, none⟩) := (he 16 124 (by kernel_rfl) rfl).trans (hR 16 (by kernel_rfl))
      have hbW := bthen (below_drew _) (grow_below hX)
      exact wp_value (exec_load_mid 30 _ rfl g21 0 e124 y.1.cells _ (blk_px (H21.out.on hbW) HYF.out.addr) Try.underlying30 rfl (sizePx _ HYF.out.addr)) (hK _ _ rfl (grown_refl W _))
     ·intro a vs W hX hR he hf K hK
      have e121 : a.eval (.tmp 121) = .bool false := (he 13 121 (by kernel_rfl) rfl).trans (hR 13 (by kernel_rfl))
      refine Eq.mpr (if_pos (by exact (wanted_some rfl rfl e121).trans rfl)) ?_
      have e123 : a.eval (.tmp 123) = .agg y.1.cells.toArray := (he 15 123 (by kernel_rfl) rfl).trans (hR 15 (by kernel_rfl))
      have e125 : a.eval (.tmp 125) = .agg y.1.cells.toArray := (he 17 125 (by kernel_rfl) rfl).trans (hR 17 (by kernel_rfl))
      exact wp_value (exec_nePx _ _ _ rfl y.1 y.1 HYF.out.addr HYF.out.addr true (decide_eq_true rfl) e123 e125) (hK _ _ rfl (grown_refl W _))
     ·intro a vs W hX hR he hf K hK
      rw [if_pos (wanted_none rfl)]
      have e121 : a.eval (.tmp 121) = .bool false := (he 13 121 (by kernel_rfl) rfl).trans (hR 13 (by kernel_rfl))
      have e126 : a.eval (.tmp 126) = .bool false := (he 18 126 (by kernel_rfl) rfl).trans (hR 18 (by kernel_rfl))
      refine wp_value (v := .bool false) ?_ (hK _ _ rfl (grown_refl W _))
      simp only [execOp, e121, e126]
      try go_simp
     ·intro a vs W hX hR he hf K hK
      rw [if_pos (wanted_none rfl)]
      have e127 : a.eval (.tmp 127) = .bool false := (he 19 127 (by kernel_rfl) rfl).trans (hR 19 (by kernel_rfl))
      refine wp_value (v := .bool false) ?_ (hK _ _ rfl (grown_refl W _))
      simp only [execOp, e127]
      try go_simp
     ·intro a vs W hX hR he hf K hK
      have e128 : a.eval (.tmp 128) = .bool false := (he 20 128 (by kernel_rfl) rfl).trans (hR 20 (by kernel_rfl))
      refine Eq.mpr (if_pos (by exact (wanted_some rfl rfl e128).trans rfl)) ?_
      have e19 : a.eval (.tmp 19) = .pointer (some ⟨g19, 0, none⟩) := hf 19 (by kernel_rfl)
      refine wp_value (v := .pointer (some ⟨g19, 18, none⟩)) ?_ (hK _ _ rfl (grown_refl W _))
      simp only [execOp, e19]
      try go_simp
     ·intro a vs W hX hR he hf K hK
      have e128 : a.eval (.tmp 128) = .bool false := (he 20 128 (by kernel_rfl) rfl).trans (hR 20 (by kernel_rfl))
      refine Eq.mpr (if_pos (by exact (wanted_some rfl rfl e128).trans rfl)) ?_
      have e129 : a.eval (.tmp 129) = .pointer (some ⟨g19, 18, none⟩) := (he 21 129 (by kernel_rfl) rfl).trans (hR 21 (by kernel_rfl))
      have hbW := bthen (below_drew _) (grow_below hX)
      have hc : W.cell? ⟨g19, 18, none⟩ = some (.int .i64 y.2) := ((H19.out.on hbW).cell 18).trans (it_val y HYF.out.addr)
      refine wp_value (v := _) ?_ (hK _ _ rfl (grown_refl W _))
      simp only [execOp, e129]
      try go_simp
     ·intro a vs W hX hR he hf K hK
      have e128 : a.eval (.tmp 128) = .bool false := (he 20 128 (by kernel_rfl) rfl).trans (hR 20 (by kernel_rfl))
      refine Eq.mpr (if_pos (by exact (wanted_some rfl rfl e128).trans rfl)) ?_
      have e21 : a.eval (.tmp 21) = .pointer (some ⟨g21, 0, none⟩) := hf 21 (by kernel_rfl)
      refine wp_value (v := .pointer (some ⟨g21, 18, none⟩)) ?_ (hK _ _ rfl (grown_refl W _))
      simp only [execOp, e21]
      try go_simp
     ·intro a vs W hX hR he hf K hK
      have e128 : a.eval (.tmp 128) = .bool false := (he 20 128 (by kernel_rfl) rfl).trans (hR 20 (by kernel_rfl))
      refine Eq.mpr (if_pos (by exact (wanted_some rfl rfl e128).trans rfl)) ?_
      have e131 : a.eval (.tmp 131) = .pointer (some ⟨g21, 18, none⟩) := (he 23 131 (by kernel_rfl) rfl).trans (hR 23 (by kernel_rfl))
      have hbW := bthen (below_drew _) (grow_below hX)
      have hc : W.cell? ⟨g21, 18, none⟩ = some (.int .i64 y.2) := ((H21.out.on hbW).cell 18).trans (it_val y HYF.out.addr)
      refine wp_value (v := _) ?_ (hK _ _ rfl (grown_refl W _))
      simp only [execOp, e131]
      try go_simp
     ·intro a vs W hX hR he hf K hK
      have e128 : a.eval (.tmp 128) = .bool false := (he 20 128 (by kernel_rfl) rfl).trans (hR 20 (by kernel_rfl))
      refine Eq.mpr (if_pos (by exact (wanted_some rfl rfl e128).trans rfl)) ?_
      have e130 : a.eval (.tmp 130) = .int .i64 y.2 := (he 22 130 (by kernel_rfl) rfl).trans (hR 22 (by kernel_rfl))
      have e132 : a.eval (.tmp 132) = .int .i64 y.2 := (he 24 132 (by kernel_rfl) rfl).trans (hR 24 (by kernel_rfl))
      refine wp_value (v := .bool false) ?_ (hK _ _ rfl (grown_refl W _))
      simp only [execOp, e130, e132]
      try go_simp
     ·intro a vs W hX hR he hf K hK
      rw [if_pos (wanted_none rfl)]
      have e128 : a.eval (.tmp 128) = .bool false := (he 20 128 (by kernel_rfl) rfl).trans (hR 20 (by kernel_rfl))
      have e133 : a.eval (.tmp 133) = .bool false := (he 25 133 (by kernel_rfl) rfl).trans (hR 25 (by kernel_rfl))
      refine wp_value (v := .bool false) ?_ (hK _ _ rfl (grown_refl W _))
      simp only [execOp, e128, e133]
      try go_simp
     ·intro a vs W hX hR he hf K hK
      rw [if_pos (wanted_none rfl)]
      have e134 : a.eval (.tmp 134) = .bool false := (he 26 134 (by kernel_rfl) rfl).trans (hR 26 (by kernel_rfl))
      refine wp_value (v := .bool false) ?_ (hK _ _ rfl (grown_refl W _))
      simp only [execOp, e134]
      try go_simp
     ·intro a vs W hX hR he hf K hK
      have e135 : a.eval (.tmp 135) = .bool false := (he 27 135 (by kernel_rfl) rfl).trans (hR 27 (by kernel_rfl))
      refine Eq.mpr (if_pos (by exact (wanted_some rfl rfl e135).trans rfl)) ?_
      have e20 : a.eval (.tmp 20) = .bool b := hf 20 (by kernel_rfl)
      refine wp_value (v := .bool b) ?_ (hK _ _ rfl (grown_refl W _))
      simp only [execOp, e20]
      try go_simp
     ·intro a vs W hX hR he hf K hK
      have e135 : a.eval (.tmp 135) = .bool false := (he 27 135 (by kernel_rfl) rfl).trans (hR 27 (by kernel_rfl))
      refine Eq.mpr (if_pos (by exact (wanted_some rfl rfl e135).trans rfl)) ?_
      have e22 : a.eval (.tmp 22) = .bool b := hf 22 (by kernel_rfl)
      refine wp_value (v := .bool b) ?_ (hK _ _ rfl (grown_refl W _))
      simp only [execOp, e22]
      try go_simp
     ·intro a vs W hX hR he hf K hK
      have e135 : a.eval (.tmp 135) = .bool false := (he 27 135 (by kernel_rfl) rfl).trans (hR 27 (by kernel_rfl))
      refine Eq.mpr (if_pos (by exact (wanted_some rfl rfl e135).trans rfl)) ?_
      have e136 : a.eval (.tmp 136) = .bool b := (he 28 136 (by kernel_rfl) rfl).trans (hR 28 (by kernel_rfl))
      have e137 : a.eval (.tmp 137) = .bool b := (he 29 137 (by kernel_rfl) rfl).trans (hR 29 (by kernel_rfl))
      refine wp_value (v := .bool false) ?_ (hK _ _ rfl (grown_refl W _))
      simp only [execOp, e136, e137]
      try go_simp
     ·intro a vs W hX hR he hf K hK
      rw [if_pos (wanted_none rfl)]
      have e135 : a.eval (.tmp 135) = .bool false := (he 27 135 (by kernel_rfl) rfl).trans (hR 27 (by kernel_rfl))
      have e138 : a.eval (.tmp 138) = .bool false := (he 30 138 (by kernel_rfl) rfl).trans (hR 30 (by kernel_rfl))
      refine wp_value (v := .bool false) ?_ (hK _ _ rfl (grown_refl W _))
      simp only [execOp, e135, e138]
      try go_simp
     ·intro a vs W hX hR he hf K hK
      rw [if_pos (wanted_none rfl)]
      have e139 : a.eval (.tmp 139) = .bool false := (he 31 139 (by kernel_rfl) rfl).trans (hR 31 (by kernel_rfl))
      refine wp_value (v := .bool false) ?_ (hK _ _ rfl (grown_refl W _))
      simp only [execOp, e139]
      try go_simp
     ·intro a vs W hX hR he hf K hK
      have e140 : a.eval (.tmp 140) = .bool false := (he 32 140 (by kernel_rfl) rfl).trans (hR 32 (by kernel_rfl))
      refine Eq.mpr (if_pos (by exact (wanted_some rfl rfl e140).trans rfl)) ?_
      have e8 : a.eval (.tmp 8) = ptV o := hf 8 (by kernel_rfl)
      refine wp_value (v := ptV o) ?_ (hK _ _ rfl (grown_refl W _))
      simp only [execOp, e8]
      try go_simp
     ·intro a vs W hX hR he hf K hK
      have e140 : a.eval (.tmp 140) = .bool false := (he 32 140 (by kernel_rfl) rfl).trans (hR 32 (by kernel_rfl))
      refine Eq.mpr (if_pos (by exact (wanted_some rfl rfl e140).trans rfl)) ?_
      have e141 : a.eval (.tmp 141) = ptV o := (he 33 141 (by kernel_rfl) rfl).trans (hR 33 (by kernel_rfl))
      have hbW := bthen (below_drew _) (grow_below hX)
      refine wp_enter (f := 21) (args := #[ptV o]) (by simp only [execOp, e141]; go_simp; simpa [Act.eval] using e141) ((two_len (HT.out.on hbW)).mono ?_)
      rintro e w' ⟨rfl, rfl⟩
      exact ⟨_, rfl, hK _ _ rfl (grown_refl W _)⟩
     ·intro a vs W hX hR he hf K hK
      have e140 : a.eval (.tmp 140) = .bool false := (he 32 140 (by kernel_rfl) rfl).trans (hR 32 (by kernel_rfl))
      refine Eq.mpr (if_pos (by exact (wanted_some rfl rfl e140).trans rfl)) ?_
      have e9 : a.eval (.tmp 9) = .pointer (some ⟨g9, 0, none⟩) := hf 9 (by kernel_rfl)
      refine wp_value (v := .pointer (some ⟨g9, 3, none⟩)) ?_ (hK _ _ rfl (grown_refl W _))
      simp only [execOp, e9]
      try go_simp
     ·intro a vs W hX hR he hf K hK
      have e140 : a.eval (.tmp 140) = .bool false := (he 32 140 (by kernel_rfl) rfl).trans (hR 32 (by kernel_rfl))
      refine Eq.mpr (if_pos (by exact (wanted_some rfl rfl e140).trans rfl)) ?_
      have e143 : a.eval (.tmp 143) = .pointer (some ⟨g9, 3, none⟩) := (he 35 143 (by kernel_rfl) rfl).trans (hR 35 (by kernel_rfl))
      have hbW := bthen (below_drew _) (grow_below hX)
      have hc : W.cell? ⟨g9, 3, none⟩ = some (.slice A2 n2 c2) := (H9.out.on hbW).cell 3
      refine wp_value (v := _) ?_ (hK _ _ rfl (grown_refl W _))
      simp only [execOp, e143]
      try go_simp
     ·intro a vs W hX hR he hf K hK
      have e140 : a.eval (.tmp 140) = .bool false := (he 32 140 (by kernel_rfl) rfl).trans (hR 32 (by kernel_rfl))
      refine Eq.mpr (if_pos (by exact (wanted_some rfl rfl e140).trans rfl)) ?_
      have e144 : a.eval (.tmp 144) = .slice A2 n2 c2 := (he 36 144 (by kernel_rfl) rfl).trans (hR 36 (by kernel_rfl))
      have f144 := e144
      simp only [Act.eval, Array.getD_eq_getD_getElem?] at f144
      refine wp_value (v := .int .i64 (n2 : Int)) ?_ (hK _ _ rfl (grown_refl W _))
      simp only [execOp, e144]
      try go_simp
     ·intro a vs W hX hR he hf K hK
      have e140 : a.eval (.tmp 140) = .bool false := (he 32 140 (by kernel_rfl) rfl).trans (hR 32 (by kernel_rfl))
      refine Eq.mpr (if_pos (by exact (wanted_some rfl rfl e140).trans rfl)) ?_
      have e142 : a.eval (.tmp 142) = .int .i64 (L2.length : Int) := (he 34 142 (by kernel_rfl) rfl).trans (hR 34 (by kernel_rfl))
      have e145 : a.eval (.tmp 145) = .int .i64 (n2 : Int) := (he 37 145 (by kernel_rfl) rfl).trans (hR 37 (by kernel_rfl))
      refine wp_value (v := .bool false) ?_ (hK _ _ rfl (grown_refl W _))
      have h9 := HLN2.out
      simp only [execOp, e142, e145, h9]
      try go_simp
     ·intro a vs W hX hR he hf K hK
      rw [if_pos (wanted_none rfl)]
      have e140 : a.eval (.tmp 140) = .bool false := (he 32 140 (by kernel_rfl) rfl).trans (hR 32 (by kernel_rfl))
      have e146 : a.eval (.tmp 146) = .bool false := (he 38 146 (by kernel_rfl) rfl).trans (hR 38 (by kernel_rfl))
      refine wp_value (v := .bool false) ?_ (hK _ _ rfl (grown_refl W _))
      simp only [execOp, e140, e146]
      try go_simp
     ·intro vs wx hXx hR
      have q0 := hR 0 (by decide)
      have q1 := hR 1 (by decide)
      have q2 := hR 2 (by decide)
      have q3 := hR 3 (by decide)
      have q4 := hR 4 (by decide)
      have q5 := hR 5 (by decide)
      have q6 := hR 6 (by decide)
      have q7 := hR 7 (by decide)
      have q8 := hR 8 (by decide)
      have q9 := hR 9 (by decide)
      have q10 := hR 10 (by decide)
      have q11 := hR 11 (by decide)
      have q12 := hR 12 (by decide)
      have q13 := hR 13 (by decide)
      have q14 := hR 14 (by decide)
      have q15 := hR 15 (by decide)
      have q16 := hR 16 (by decide)
      have q17 := hR 17 (by decide)
      have q18 := hR 18 (by decide)
      have q19 := hR 19 (by decide)
      have q20 := hR 20 (by decide)
      have q21 := hR 21 (by decide)
      have q22 := hR 22 (by decide)
      have q23 := hR 23 (by decide)
      have q24 := hR 24 (by decide)
      have q25 := hR 25 (by decide)
      have q26 := hR 26 (by decide)
      have q27 := hR 27 (by decide)
      have q28 := hR 28 (by decide)
      have q29 := hR 29 (by decide)
      have q30 := hR 30 (by decide)
      have q31 := hR 31 (by decide)
      have q32 := hR 32 (by decide)
      have q33 := hR 33 (by decide)
      have q34 := hR 34 (by decide)
      have q35 := hR 35 (by decide)
      have q36 := hR 36 (by decide)
      have q37 := hR 37 (by decide)
      have q38 := hR 38 (by decide)
      have q39 := hR 39 (by decide)
      change vs 0 = .int .i64 E at q0
      change vs 1 = .int .i64 E at q1
      change vs 2 = .bool false at q2
      change vs 3 = .bool false at q3
      change vs 4 = .int .i64 V at q4
      change vs 5 = .int .i64 V at q5
      change vs 6 = .bool false at q6
      change vs 7 = .bool false at q7
      change vs 8 = .bool false at q8
      change vs 9 = .bool Q at q9
      change vs 10 = .bool Q at q10
      change vs 11 = .bool false at q11
      change vs 12 = .bool false at q12
      change vs 13 = .bool false at q13
      change vs 14 = .pointer (some ⟨g19, 0, none⟩) at q14
      change vs 15 = .agg y.1.cells.toArray at q15
      change vs 16 = .pointer (some ⟨g21, 0, none⟩) at q16
      change vs 17 = .agg y.1.cells.toArray at q17
      change vs 18 = .bool false at q18
      change vs 19 = .bool false at q19
      change vs 20 = .bool false at q20
      change vs 21 = .pointer (some ⟨g19, 18, none⟩) at q21
      change vs 22 = .int .i64 y.2 at q22
      change vs 23 = .pointer (some ⟨g21, 18, none⟩) at q23
      change vs 24 = .int .i64 y.2 at q24
      change vs 25 = .bool false at q25
      change vs 26 = .bool false at q26
      change vs 27 = .bool false at q27
      change vs 28 = .bool b at q28
      change vs 29 = .bool b at q29
      change vs 30 = .bool false at q30
      change vs 31 = .bool false at q31
      change vs 32 = .bool false at q32
      change vs 33 = ptV o at q33
      change vs 34 = .int .i64 (L2.length : Int) at q34
      change vs 35 = .pointer (some ⟨g9, 3, none⟩) at q35
      change vs 36 = .slice A2 n2 c2 at q36
      change vs 37 = .int .i64 (n2 : Int) at q37
      change vs 38 = .bool false at q38
      change vs 39 = .bool false at q39
      simp only [putAll, Act.put, List.setIfInBounds_toArray, List.set_cons_zero, List.set_cons_succ, q0, q1, q2, q3, q4, q5, q6, q7, q8, q9, q10, q11, q12, q13, q14, q15, q16, q17, q18, q19, q20, q21, q22, q23, q24, q25, q26, q27, q28, q29, q30, q31, q32, q33, q34, q35, q36, q37, q38, q39]
      clear q0 q1 q2 q3 q4 q5 q6 q7 q8 q9 q10 q11 q12 q13 q14 q15 q16 q17 q18 q19 q20 q21 q22 q23 q24 q25 q26 q27 q28 q29 q30 q31 q32 q33 q34 q35 q36 q37 q38 q39
      clear hR
      replace HT := Lib.hid (HT.out.on (bthen (below_drew _) (grow_below hXx)))
      replace H9 := Lib.hid (H9.out.on (bthen (below_drew _) (grow_below hXx)))
      replace HW := Lib.hid (bthen HW.out (bthen (below_drew _) (grow_below hXx)))
      clear hXx
      go_wp2_with fail
      go_roundw
      case rel => exact ⟨k + 1, L2, K + 2, A2, n2, c2, by omega, by simp, HT.out.less, by have := HK.out; omega, H9.out, HW.out⟩
      case measure => simp [intOf]; omega
   ·obtain rfl : k = n := by omega
    have hk9 : K ≤ 999990 := by have := HK.out; have := HN60.out; omega
    have HK9 := Lib.hid hk9
    clear hk9
    go_wp2_with (refine wpList_value (by rfl) (exec_load 47 _ rfl g9 (by rfl) 47 (tC i1 s1 r1 (.slice rA rn rc)) _ H9.out Try.underlying47 rfl (sizeT _ _ _ _)) ?_)
    refine (two_same HT.out HK9.out i1 s1 r1).mono ?_
    rintro e w6 ⟨rfl, hb⟩
    have HW6 := Lib.hid (bthen HW.out hb)
    clear hb
    go_wp2_with fail
    go_ret
    exact ⟨rfl, HW6.out⟩
end Go.Proofs.Ytbemhcihmlijaaa

/- Any script of puts and deletes of both kinds is answered as the document's is (FibRuns). No condition but sizes. -/
import Derived.Test.YtdmgomknamdcfaaG02
import Derived.Test.YtdmgomknamdcfaaG37
import Derived.Deep.DeepCutAuto
import Derived.Deep.CutBlock
namespace Go.Proofs.Ytdmgomknamdcfaa
open Go.RowKit
set_option linter.unusedVariables false
set_option maxRecDepth 20000
set_option linter.unusedSimpArgs false

set_option maxHeartbeats 4000000 in
theorem walk_FibRuns (w : World) (room : Int) (hrm : -9223372036854775808 ≤ room ∧ room ≤ 9223372036854775807) (z : Sl9) (hz : z.ok w) (p : Px) (hpf : p.fit) :
  Calls Try.prog 5 #[.int .i64 room, .slice z.A z.n z.c, .agg p.cells.toArray] w fun e w' => e = .returned (.bool true) ∧ Below w.heap.size w w' := by
 obtain ⟨A, n, c, Sc⟩ := z
 obtain ⟨hr, hle, hcap, hfit⟩ := hz
 simp only at hr hle hcap hfit ⊢
 have HR := Hh hr
 have HF := Hh hfit
 have HLN := Hh (sts_row hr hfit)
 have HPF := Hh hpf
 clear hr hfit hle hcap hrm hpf
 go_enter Try.func5, Try.ntmps5
 go_upto_region 1 with (refine wpList_box_blk (by rfl) 30 (.tmp 2) rfl p.cells rfl ?_; intro w1 hb1 hB1 hs1; clear hs1)
 obtain ⟨g5, hg5⟩ : ∃ g, w.heap.size = g := ⟨_, rfl⟩
 have HW1 := Hh hB1
 have HG5 := Hh (show w.heap.size ≤ g5 by omega)
 rw [hg5] at hb1
 try rw [hg5]
 have H51 := Hh hb1
 clear hb1 hB1 hg5
 go_wp2_with fail
 refine (awake_any w1).mono ?_
 rintro e w2 ⟨rfl, hb⟩
 have HW2 := Hh (bthen HW1.out hb)
 have H52 := Hh (H51.out.on hb)
 clear hb
 by_cases h50 : (50 : Int) < (n : Int)
 ·go_wp2_with fail
  go_ret
  exact ⟨rfl, HW2.out⟩
 have HN50 := Hh (show n ≤ 50 by omega)
 go_wp2_with fail
 refine (fnew_any room w2).mono ?_
 rintro e w3 ⟨f, rfl, hne, hT, hb⟩
 obtain ⟨F0, hF0, hsm, hA0, hn0, hc0⟩ := new10_both f room hne
 obtain ⟨is, his⟩ : ∃ x, f.isSome = x := ⟨_, rfl⟩
 rw [his] at hT hsm
 have HT3 := Hh hT
 have HF0 := Hh hF0
 have HSM0 := Hh hsm
 have HA0 := Hh hA0
 have HN0 := Hh hn0
 have HC0 := Hh hc0
 have HB3 := Hh hb
 have HW3 := Hh (bthen HW2.out hb)
 have H53 := Hh (H52.out.on hb)
 clear hT hne hb his hF0 hsm hA0 hn0 hc0
 go_wp2_with fail
 refine (rnew10_any room w3).mono ?_
 rintro e w4 ⟨rfl, hb⟩
 rw [HF0.out]
 have HB4 := Hh hb
 have HW4 := Hh (bthen HW3.out hb)
 have H54 := Hh (H53.out.on hb)
 clear hb
 go_upto_region 8 with (first
  | (refine wpList_alloc_blk (by rfl) 52 rfl Rf.zero.cells zeroF ?_; intro wa hba hBa hsa)
  | (refine wpList_store_all (by rfl) 52 _ _ rfl w4.heap.size F0.cells rfl rfl 52 _ hba (Rf.size _) rfl (Rf.one _) ?_; intro w5 hb5 hg5 hs5))
 have hbb := bgrown hBa hg5 hBa.size (Nat.le_refl _)
 have hs2 := HW2.out.size
 have hs3 := HB3.out.size
 have hs4 := HB4.out.size
 have hl5 := H52.out.lt
 have hl59 : g5 < w4.heap.size := H54.out.lt
 have hT5 : TwoF w5 w.heap.size [g5, w4.heap.size] f is room 1 (fun _ => []) F0 (fun _ => []) := by
  refine (twoF_new (w0 := w2) (B := w.heap.size) (G := [g5]) HT3.out hs2 (by intro b hb; rw [List.mem_singleton.1 hb]; exact .inl hl5) HA0.out HN0.out HC0.out).more (HB4.out.trans (hbb.mono hs4)) ?_
  intro b hb
  simp only [List.mem_cons, List.not_mem_nil, or_false] at hb ⊢
  omega
 have hW5 := bthen HW4.out hbb
 have H55 := Hh (H54.out.on hbb)
 have hG9 : w.heap.size ≤ w4.heap.size := by omega
 obtain ⟨g9, hg9⟩ : ∃ g, w4.heap.size = g := ⟨_, rfl⟩
 rw [hg9] at hb5 hT5 hG9 hl59
 try rw [hg9]
 have HT5 := Hh hT5
 have HW5 := Hh hW5
 have H95 := Hh hb5
 have HG9 := Hh hG9
 have HN59 := Hh hl59
 clear hba hBa hsa hb5 hg5 hs5 hbb hs2 hs3 hs4 hl5 hl59 hT5 hW5 hG9 hg9
 go_wp2_with fail
 go_loopw [10, 11, 12, 13, 14, 15, 16, 17, 18, 19, 20, 21, 22, 23, 24, 25] (fun i _ _ _ _ _ _ _ _ _ _ _ _ _ _ _ wr => ∃ (k : Nat) (L : Bool → List Itm) (K : Nat) (F : Rf), k ≤ n ∧ i = .int .i64 (k : Nat) ∧ TwoF wr w.heap.size [g5, g9] f is room K L F L ∧ K ≤ 2 * k + 1 ∧ SameP F is room ∧ (∀ b, (L b).length ≤ k) ∧ Blk wr g9 52 F.cells ∧ Blk wr g5 30 p.cells ∧ Below w.heap.size w wr) (fun i _ _ _ _ _ _ _ _ _ _ _ _ _ _ _ _ => n - (intOf i).toNat)
 case atStart => exact ⟨0, _, 1, F0, by omega, rfl, HT5.out, by omega, HSM0.out, fun b => Nat.le_refl _, H95.out, H55.out, HW5.out⟩
 case round =>
  obtain ⟨k, L, K, F, hk, rfl, hT, hK, hsm, hL, h9, h5, hW⟩ := hrel
  have HT := Hh hT
  have HK := Hh hK
  have HSM := Hh hsm
  have HL := Hh hL
  have H9 := Hh h9
  have H5 := Hh h5
  have HW := Hh hW
  clear hT hK hsm hL h9 h5 hW HT5 H95 H55 HW5 HT3 HB4 HW4 HW3 HW2 HB3 HF0 HSM0 HA0 HN0 HC0 H51 H52 H53 H54 HW1
  by_cases hlt : k < n
  ·obtain ⟨s, hs⟩ := get_ex Sc (k := k) (by rw [HLN.out]; exact hlt)
   obtain ⟨bA, oA, rfl, hbA, hcA⟩ := sts_at HR.out HF.out k s hs
   have HSF := Hh (HF.out s (List.mem_of_getElem? hs))
   have HSR := Hh (range_below HW.out hbA hcA)
   have hlt2 : (k : Int) < (n : Int) := by omega
   have hlt3 : (k : Int) + 1 ≤ (n : Int) := by omega
   have hn50 := HN50.out
   clear hbA hcA hs
   go_upto_region 12 with (first
    | (refine wpList_value (by rfl) (exec_load_mid 32 _ rfl bA (oA + k * 20) (by rfl) s.cells _ HSR.out Try.underlying32 rfl (sizeSt _ HSF.out.p.addr)) ?_)
    | (refine wpList_alloc_blk (by rfl) 32 rfl St9.zero.cells zeroSt ?_; intro wa hba hBa hsa)
    | (refine wpList_store_all (by rfl) 32 _ _ rfl wr.heap.size s.cells rfl rfl 32 _ hba (sizeSt _ HSF.out.p.addr) (by rw [St9.cells_length _ HSF.out.p.addr]; rfl) (oneSt _) ?_; intro w5 hb5 hg5 hs5))
   have hbb := bgrown hBa hg5 hBa.size (Nat.le_refl _)
   have hT5 := HT.out.more (G' := [g5, g9, wr.heap.size]) hbb (by intro b hb; simp only [List.mem_cons, List.not_mem_nil, or_false] at hb ⊢; omega)
   have hlt9 := H9.out.lt
   replace H9 := Hh (H9.out.on hbb)
   replace H5 := Hh (H5.out.on hbb)
   replace HW := Hh (bthen HW.out hbb)
   have hgl : ∀ b ∈ [g5, g9, wr.heap.size], b < w5.heap.size := by
    intro b hb
    have e1 := H5.out.lt
    have e2 := H9.out.lt
    have e3 := hb5.lt
    simp only [List.mem_cons, List.not_mem_nil, or_false] at hb
    omega
   obtain ⟨g11, hg11⟩ : ∃ g, wr.heap.size = g := ⟨_, rfl⟩
   rw [hg11] at hb5 hT5 hlt9 hgl
   try rw [hg11]
   replace HT := Hh hT5
   have H11 := Hh hb5
   have HNE := Hh hlt9
   have HGL := Hh hgl
   clear hba hBa hsa hb5 hg5 hs5 hbb hT5 hlt9 hg11 hgl HSR
   obtain ⟨kd, hkd⟩ : ∃ x, s.kind = x := ⟨_, rfl⟩
   have c0 : w5.cell? ⟨g11, 0, none⟩ = some (.int .i64 kd) := (H11.out.cell 0).trans (by rw [← hkd]; rfl)
   have c19 : w5.cell? ⟨g11, 19, none⟩ = some (.int .i64 s.v) := (H11.out.cell 19).trans (st_v HSF.out.p.addr)
   clear hkd
   have hk9 : K ≤ 999990 := by have := HK.out; omega
   have HK9 := Hh hk9
   have HM := Hh (HT.out.hM (fun b => by have := HL.out b; omega))
   clear hk9
   go_upto_block 2 with fail
   go_cut [12, 13, 14, 15, 16, 17] (fun s12 s13 _ _ _ _ wx => ∃ (E : Int) (L2 : Bool → List Itm) (F2 : Rf), s12 = .int .i64 E ∧ s13 = .int .i64 E ∧ TwoF wx w.heap.size [g5, g9, g11] f is room (K + 2) L2 F2 L2 ∧ SameP F2 is room ∧ (∀ b, (L2 b).length ≤ k + 1) ∧ Blk wx g9 52 F2.cells ∧ Blk wx g11 32 s.cells ∧ Blk wx g5 30 p.cells ∧ Below w.heap.size w wx)
   case first =>
    by_cases h0 : kd = 0
    ·subst h0
     go_wp2_with (refine wpList_value (by rfl) (exec_load_mid 30 _ rfl g11 1 (by rfl) s.p.cells _ (st_blk_px H11.out HSF.out.p.addr) Try.underlying30 rfl (sizePx _ HSF.out.p.addr)) ?_)
     refine (twoF_put HT.out HW.out.size HGL.out HK9.out s.p HSF.out.p s.v).mono ?_
     rintro e w6 ⟨rfl, hT, hk⟩
     have HS1 := Hh (HSM.out s.p.six (L s.p.six) s.p s.v)
     obtain ⟨Q, hQ⟩ : ∃ Q, putR is s.p.six room (L s.p.six) s.p s.v = Q := ⟨_, rfl⟩
     have hql : Q.1.length ≤ k + 1 := by rw [← hQ]; exact Nat.le_trans (putR_len _ _ _ _ _ _) (Nat.succ_le_succ (HL.out _))
     rw [hQ] at hT
     rw [hQ]
     have HQ := Hh (show putR F.is (F.s s.p.six) (F.r s.p.six) (L s.p.six) s.p s.v = Q by rw [← hQ]; exact HS1.out.1)
     replace HT := Hh hT
     replace H5 := Hh (hk.blk H5.out (fun h => h.2 (by simp)))
     replace H9 := Hh (hk.blk H9.out (fun h => h.2 (by simp)))
     replace H11 := Hh (hk.blk H11.out (fun h => h.2 (by simp)))
     replace HW := Hh (HW.out.trans (hk.below HW.out.size (fun x h => h.1)))
     have HQL := Hh hql
     have HGL6 := Hh (show ∀ b ∈ [g5, g9, g11], b < w6.heap.size from fun b hb => Nat.lt_of_lt_of_le (HGL.out b hb) hk.size)
     have HM6 := Hh (show ∀ b, (∀ x ∈ L b, x.1.fit) ∧ F.n b ≤ 65536 ∧ F.n b ≤ F.c b from fun b => ⟨fun x hx => ((HM.out b).1 x hx).fit, by have := (HM.out b).2.1; omega, (HM.out b).2.2⟩)
     have HR6 := Hh (fun b => HT.out.row b)
     clear hT hk hQ hql c0 c19
     have c19 : w6.cell? ⟨g11, 19, none⟩ = some (.int .i64 s.v) := (H11.out.cell 19).trans (st_v HSF.out.p.addr)
     go_wp2_with (first | (refine wpList_value (by rfl) (exec_load 52 _ rfl g9 (by rfl) 52 F.cells _ H9.out Try.underlying52 rfl (Rf.size _)) ?_) | (refine wpList_value (by rfl) (exec_load_mid 30 _ rfl g11 1 (by rfl) s.p.cells _ (st_blk_px H11.out HSF.out.p.addr) Try.underlying30 rfl (sizePx _ HSF.out.p.addr)) ?_))
     refine (rput10_any F L w6 HM6.out HR6.out s.p HSF.out.p s.v).mono ?_
     rintro e w7 ⟨A', n', c', rfl, hr, hc, hb, hN⟩
     rw [HQ.out] at hr ⊢
     have HTR := Hh (twoF_row HT.out HGL6.out hb s.p.six hr hc hN)
     obtain ⟨F2, hF2⟩ : ∃ F2, F.set s.p.six A' n' c' = F2 := ⟨_, rfl⟩
     rw [hF2] at HTR
     rw [hF2]
     have HSM2 := Hh (show SameP F2 is room by rw [← hF2]; exact HSM.out.set _ _ _ _)
     replace HT := HTR
     replace H5 := Hh (H5.out.on hb)
     replace H9 := Hh (H9.out.on hb)
     replace H11 := Hh (H11.out.on hb)
     replace HW := Hh (bthen HW.out hb)
     clear hr hc hb hN hF2 HTR c19
     go_upto_region 18 with (first
      | (refine wpList_alloc_blk (by rfl) 52 rfl Rf.zero.cells zeroF ?_; intro wa hba hBa hsa)
      | (refine wpList_store_all (by rfl) 52 _ _ rfl w7.heap.size F2.cells rfl rfl 52 _ hba (Rf.size _) rfl (Rf.one _) ?_; intro w8 hb8 hg8 hs8))
     have hbb := bgrown hBa hg8 hBa.size (Nat.le_refl _)
     replace HT := Hh (HT.out.on hbb)
     replace H5 := Hh (H5.out.on hbb)
     replace H9 := Hh (H9.out.on hbb)
     replace H11 := Hh (H11.out.on hbb)
     replace HW := Hh (bthen HW.out hbb)
     obtain ⟨g14, hg14⟩ : ∃ g, w7.heap.size = g := ⟨_, rfl⟩
     rw [hg14] at hb8
     try rw [hg14]
     have H14 := Hh hb8
     clear hba hBa hsa hb8 hg8 hs8 hbb hg14
     go_upto_region 19 with (first
      | (refine wpList_value (by rfl) (exec_load 52 _ rfl g14 (by rfl) 52 F2.cells _ H14.out Try.underlying52 rfl (Rf.size _)) ?_)
      | (refine wpList_store_all (by rfl) 52 _ _ rfl g9 F2.cells rfl rfl 52 _ H9.out (Rf.size _) rfl (Rf.one _) ?_; intro w9 hb9 hg9 hs9))
     have hk9 : Kept (fun b => b = g9) w8 w9 := Kept.of_grown hg9 (fun k h => by injection h with h; exact h.symm)
     replace HT := Hh (HT.out.store (by simp) hk9)
     replace H9 := Hh hb9
     replace H5 := Hh (hk9.blk H5.out (fun h => by have := HN59.out; omega))
     replace H11 := Hh (hk9.blk H11.out (fun h => by have := HNE.out; omega))
     replace HW := Hh (HW.out.trans (hk9.below HW.out.size (fun x h => by rw [h]; exact HG9.out)))
     clear hb9 hg9 hs9 hk9 H14
     go_wp2_with fail
     go_meet
     exact ⟨_, setL L s.p.six Q.1, F2, rfl, rfl, HT.out, HSM2.out, fun b => by
      unfold setL
      split
      ·exact HQL.out
      exact Nat.le_trans (HL.out b) (Nat.le_succ _), H9.out, H11.out, H5.out, HW.out⟩
    by_cases h1 : kd = 1
    ·subst h1
     clear h0
     go_wp2_with (refine wpList_value (by rfl) (exec_load_mid 30 _ rfl g11 1 (by rfl) s.p.cells _ (st_blk_px H11.out HSF.out.p.addr) Try.underlying30 rfl (sizePx _ HSF.out.p.addr)) ?_)
     refine (twoF_del HT.out HW.out.size HGL.out HK9.out s.p HSF.out.p).mono ?_
     rintro e w6 ⟨rfl, hT, hk⟩
     have HS1 := Hh (HSM.out s.p.six (L s.p.six) s.p s.v)
     obtain ⟨Q, hQ⟩ : ∃ Q, delR is s.p.six (L s.p.six) s.p = Q := ⟨_, rfl⟩
     have hql : Q.1.length ≤ k + 1 := by rw [← hQ]; exact Nat.le_trans (delR_len _ _ _ _) (Nat.le_trans (HL.out _) (Nat.le_succ _))
     rw [hQ] at hT
     rw [hQ]
     have HQ := Hh (show delR F.is (F.s s.p.six) (L s.p.six) s.p = Q by rw [← hQ]; exact HS1.out.2)
     replace HT := Hh hT
     replace H5 := Hh (hk.blk H5.out (fun h => h.2 (by simp)))
     replace H9 := Hh (hk.blk H9.out (fun h => h.2 (by simp)))
     replace H11 := Hh (hk.blk H11.out (fun h => h.2 (by simp)))
     replace HW := Hh (HW.out.trans (hk.below HW.out.size (fun x h => h.1)))
     have HQL := Hh hql
     have HGL6 := Hh (show ∀ b ∈ [g5, g9, g11], b < w6.heap.size from fun b hb => Nat.lt_of_lt_of_le (HGL.out b hb) hk.size)
     have HM6 := Hh (show ∀ b, (∀ x ∈ L b, x.1.fit) ∧ F.n b ≤ 65536 ∧ F.n b ≤ F.c b from fun b => ⟨fun x hx => ((HM.out b).1 x hx).fit, by have := (HM.out b).2.1; omega, (HM.out b).2.2⟩)
     have HR6 := Hh (fun b => HT.out.row b)
     clear hT hk hQ hql c0 c19
     have c19 : True := trivial
     go_wp2_with (first | (refine wpList_value (by rfl) (exec_load 52 _ rfl g9 (by rfl) 52 F.cells _ H9.out Try.underlying52 rfl (Rf.size _)) ?_) | (refine wpList_value (by rfl) (exec_load_mid 30 _ rfl g11 1 (by rfl) s.p.cells _ (st_blk_px H11.out HSF.out.p.addr) Try.underlying30 rfl (sizePx _ HSF.out.p.addr)) ?_))
     refine (rdel10_any F L w6 HM6.out HR6.out s.p HSF.out.p).mono ?_
     rintro e w7 ⟨A', n', c', rfl, hr, hc, hb, hN⟩
     rw [HQ.out] at hr ⊢
     have HTR := Hh (twoF_row HT.out HGL6.out hb s.p.six hr hc hN)
     obtain ⟨F2, hF2⟩ : ∃ F2, F.set s.p.six A' n' c' = F2 := ⟨_, rfl⟩
     rw [hF2] at HTR
     rw [hF2]
     have HSM2 := Hh (show SameP F2 is room by rw [← hF2]; exact HSM.out.set _ _ _ _)
     replace HT := HTR
     replace H5 := Hh (H5.out.on hb)
     replace H9 := Hh (H9.out.on hb)
     replace H11 := Hh (H11.out.on hb)
     replace HW := Hh (bthen HW.out hb)
     clear hr hc hb hN hF2 HTR c19
     go_upto_region 23 with (first
      | (refine wpList_alloc_blk (by rfl) 52 rfl Rf.zero.cells zeroF ?_; intro wa hba hBa hsa)
      | (refine wpList_store_all (by rfl) 52 _ _ rfl w7.heap.size F2.cells rfl rfl 52 _ hba (Rf.size _) rfl (Rf.one _) ?_; intro w8 hb8 hg8 hs8))
     have hbb := bgrown hBa hg8 hBa.size (Nat.le_refl _)
     replace HT := Hh (HT.out.on hbb)
     replace H5 := Hh (H5.out.on hbb)
     replace H9 := Hh (H9.out.on hbb)
     replace H11 := Hh (H11.out.on hbb)
     replace HW := Hh (bthen HW.out hbb)
     obtain ⟨g14, hg14⟩ : ∃ g, w7.heap.size = g := ⟨_, rfl⟩
     rw [hg14] at hb8
     try rw [hg14]
     have H14 := Hh hb8
     clear hba hBa hsa hb8 hg8 hs8 hbb hg14
     go_upto_region 24 with (first
      | (refine wpList_value (by rfl) (exec_load 52 _ rfl g14 (by rfl) 52 F2.cells _ H14.out Try.underlying52 rfl (Rf.size _)) ?_)
      | (refine wpList_store_all (by rfl) 52 _ _ rfl g9 F2.cells rfl rfl 52 _ H9.out (Rf.size _) rfl (Rf.one _) ?_; intro w9 hb9 hg9 hs9))
     have hk9 : Kept (fun b => b = g9) w8 w9 := Kept.of_grown hg9 (fun k h => by injection h with h; exact h.symm)
     replace HT := Hh (HT.out.store (by simp) hk9)
     replace H9 := Hh hb9
     replace H5 := Hh (hk9.blk H5.out (fun h => by have := HN59.out; omega))
     replace H11 := Hh (hk9.blk H11.out (fun h => by have := HNE.out; omega))
     replace HW := Hh (HW.out.trans (hk9.below HW.out.size (fun x h => by rw [h]; exact HG9.out)))
     clear hb9 hg9 hs9 hk9 H14
     go_wp2_with fail
     go_meet
     exact ⟨_, setL L s.p.six Q.1, F2, rfl, rfl, HT.out.upto (by omega), HSM2.out, fun b => by
      unfold setL
      split
      ·exact HQL.out
      exact Nat.le_trans (HL.out b) (Nat.le_succ _), H9.out, H11.out, H5.out, HW.out⟩
    go_wp2_with fail
    go_meet
    exact ⟨0, L, F, rfl, rfl, HT.out.upto (by omega), HSM.out, fun b => Nat.le_trans (HL.out b) (Nat.le_succ _), H9.out, H11.out, H5.out, HW.out⟩
   case rest =>
    obtain ⟨E, L2, F2, rfl, rfl, hT, hsm, hl2, h9, h11, h5, hW⟩ := hcut
    clear HT H9 H11 H5 HW HM c0 c19 HGL
    have HT := Hh hT
    have HSM2 := Hh hsm
    have HL2 := Hh hl2
    have H9 := Hh h9
    have H11 := Hh h11
    have H5 := Hh h5
    have HW := Hh hW
    have HM := Hh (hT.hM (fun b => by have := hl2 b; omega))
    have HKK := Hh (show K + 2 ≤ 100000 by have := HK.out; omega)
    clear hT hsm hl2 h9 h11 h5 hW
    have c1 : wc.cell? ⟨g11, 1, none⟩ = some (.bool s.p.six) := H11.out.cell 1
    obtain ⟨Y, hY⟩ : ∃ x, ansL' (L2 s.p.six) s.p.addr = x := ⟨_, rfl⟩
    have hyf : Y.1.1.fit := by rw [← hY]; exact ansL'_fit (HT.out.lok s.p.six) _
    obtain ⟨y, b⟩ := Y
    have HYF := Hh hyf
    have HY := Hh hY
    clear hyf hY
    obtain ⟨S0, hfb⟩ := HT.out.fb
    go_wp2_with (refine wpList_value (by rfl) (exec_load_mid 23 _ rfl g11 2 (by rfl) (bv s.p.addr) _ (st_blk_ad H11.out HSF.out.p.addr) Try.underlying23 rfl (size16 _ HSF.out.p.addr)) ?_)
    refine (flook_any hfb s.p.six s.p.addr HSF.out.p.addr).mono ?_
    rintro e w11 ⟨rfl, hb⟩
    rw [HY.out]
    replace HT := Hh (HT.out.on hb)
    replace H5 := Hh (H5.out.on hb)
    replace H9 := Hh (H9.out.on hb)
    replace H11 := Hh (H11.out.on hb)
    replace HW := Hh (bthen HW.out hb)
    clear hb hfb S0 c1
    go_upto_region 26 with (first
     | (refine wpList_alloc_blk (by rfl) 35 rfl (itC (Px.zero, 0)) zeroIt ?_; intro wa hba hBa hsa)
     | (refine wpList_store_all (by rfl) 35 _ _ rfl w11.heap.size (itC y) rfl rfl 35 _ hba (sizeIt _ HYF.out.addr) (by rw [itC_length y HYF.out.addr]; rfl) (oneIt _) ?_; intro w12 hb12 hg12 hs12))
    have hbb := bgrown hBa hg12 hBa.size (Nat.le_refl _)
    replace HT := Hh (HT.out.on hbb)
    replace H5 := Hh (H5.out.on hbb)
    replace H9 := Hh (H9.out.on hbb)
    replace H11 := Hh (H11.out.on hbb)
    replace HW := Hh (bthen HW.out hbb)
    obtain ⟨g18, hg18⟩ : ∃ g, w11.heap.size = g := ⟨_, rfl⟩
    rw [hg18] at hb12
    try rw [hg18]
    have H18 := Hh hb12
    clear hba hBa hsa hb12 hg12 hs12 hbb hg18
    have c1 : w12.cell? ⟨g11, 1, none⟩ = some (.bool s.p.six) := H11.out.cell 1
    go_wp2_with (first | (refine wpList_value (by rfl) (exec_load 52 _ rfl g9 (by rfl) 52 F2.cells _ H9.out Try.underlying52 rfl (Rf.size _)) ?_) | (refine wpList_value (by rfl) (exec_load_mid 23 _ rfl g11 2 (by rfl) (bv s.p.addr) _ (st_blk_ad H11.out HSF.out.p.addr) Try.underlying23 rfl (size16 _ HSF.out.p.addr)) ?_))
    refine (rlook10_any F2 L2 w12 (fun b => ⟨(HM.out b).1, by have := (HM.out b).2.1; omega, (HM.out b).2.2⟩) (fun b => HT.out.row b) s.p.six s.p.addr HSF.out.p.addr).mono ?_
    rintro e w13 ⟨rfl, hb⟩
    rw [HY.out]
    replace HT := Hh (HT.out.on hb)
    replace H5 := Hh (H5.out.on hb)
    replace H9 := Hh (H9.out.on hb)
    replace H11 := Hh (H11.out.on hb)
    replace HW := Hh (bthen HW.out hb)
    replace H18 := Hh (H18.out.on hb)
    clear hb c1
    go_upto_region 27 with (first
     | (refine wpList_alloc_blk (by rfl) 57 rfl (itC (Px.zero, 0)) zero57 ?_; intro wa hba hBa hsa)
     | (refine wpList_store_all (by rfl) 57 _ _ rfl w13.heap.size (itC y) rfl rfl 57 _ hba (size57 _ HYF.out.addr) (by rw [itC_length y HYF.out.addr]; rfl) (itC_one _) ?_; intro w14 hb14 hg14 hs14))
    have hbb := bgrown hBa hg14 hBa.size (Nat.le_refl _)
    replace HT := Hh (HT.out.on hbb)
    replace H5 := Hh (H5.out.on hbb)
    replace H9 := Hh (H9.out.on hbb)
    replace H11 := Hh (H11.out.on hbb)
    replace HW := Hh (bthen HW.out hbb)
    replace H18 := Hh (H18.out.on hbb)
    obtain ⟨g20, hg20⟩ : ∃ g, w13.heap.size = g := ⟨_, rfl⟩
    rw [hg20] at hb14
    try rw [hg20]
    have H20 := Hh hb14
    clear hba hBa hsa hb14 hg14 hs14 hbb hg20
    obtain ⟨S0, hfb⟩ := HT.out.fb
    go_wp2_with (refine wpList_value (by rfl) (exec_load_mid 30 _ rfl g11 1 (by rfl) s.p.cells _ (st_blk_px H11.out HSF.out.p.addr) Try.underlying30 rfl (sizePx _ HSF.out.p.addr)) ?_)
    refine (fget_any hfb trivial s.p HSF.out.p).mono ?_
    rintro e w15 ⟨rfl, hb⟩
    replace HT := Hh (HT.out.on hb)
    replace H5 := Hh (H5.out.on hb)
    replace H9 := Hh (H9.out.on hb)
    replace H11 := Hh (H11.out.on hb)
    replace HW := Hh (bthen HW.out hb)
    replace H18 := Hh (H18.out.on hb)
    replace H20 := Hh (H20.out.on hb)
    clear hb hfb S0
    obtain ⟨V, hV⟩ : ∃ x, getC (L2 s.p.six) s.p = x := ⟨_, rfl⟩
    obtain ⟨Q, hQ⟩ : ∃ x, hasC (L2 s.p.six) s.p = x := ⟨_, rfl⟩
    have HV := Hh hV
    have HQ := Hh hQ
    rw [hV, hQ]
    clear hV hQ
    go_wp2_with (first | (refine wpList_value (by rfl) (exec_load 52 _ rfl g9 (by rfl) 52 F2.cells _ H9.out Try.underlying52 rfl (Rf.size _)) ?_) | (refine wpList_value (by rfl) (exec_load_mid 30 _ rfl g11 1 (by rfl) s.p.cells _ (st_blk_px H11.out HSF.out.p.addr) Try.underlying30 rfl (sizePx _ HSF.out.p.addr)) ?_))
    refine (rget10_any F2 L2 w15 (fun b => ⟨fun x hx => ((HM.out b).1 x hx).fit, by have := (HM.out b).2.1; omega, (HM.out b).2.2⟩) (fun b => HT.out.row b) s.p HSF.out.p).mono ?_
    rintro e w16 ⟨rfl, hb⟩
    rw [HV.out, HQ.out]
    replace HT := Hh (HT.out.on hb)
    replace H5 := Hh (H5.out.on hb)
    replace H9 := Hh (H9.out.on hb)
    replace H11 := Hh (H11.out.on hb)
    replace HW := Hh (bthen HW.out hb)
    replace H18 := Hh (H18.out.on hb)
    replace H20 := Hh (H20.out.on hb)
    clear hb
    go_wp2_with fail
    refine wp_region_rel (fun A B => A.grownBy B none) (fun A => grown_refl A _) (fun A B C h k => grown_trans h k) (relAt (eqs [.int .i64 E, .int .i64 E, .bool false, .bool false, .pointer (some ⟨g18, 0, none⟩), .agg y.1.cells.toArray, .pointer (some ⟨g20, 0, none⟩), .agg y.1.cells.toArray, .bool false, .bool false, .bool false, .pointer (some ⟨g18, 18, none⟩), .int .i64 y.2, .pointer (some ⟨g20, 18, none⟩), .int .i64 y.2, .bool false, .bool false, .bool false, .bool b, .bool b, .bool false, .bool false, .bool false, .int .i64 V, .int .i64 V, .bool false, .bool false, .bool false, .bool Q, .bool Q, .bool false, .bool false, .bool false, ptV f, .pointer (some ⟨g11, 19, none⟩), .int .i64 s.v, .int .i64 (((L2 false ++ L2 true).filter fun x => decide (x.2 = s.v)).length : Int), .agg F2.cells.toArray, .pointer (some ⟨g11, 19, none⟩), .int .i64 s.v, .int .i64 (((L2 false ++ L2 true).filter fun x => decide (x.2 = s.v)).length : Int), .bool false, .bool false])) (MonoL.at_ (eqs_mono _)) (by kernel_rfl) (by kernel_rfl) ⟨?_, ?_, ?_, ?_, ?_, ?_, ?_, ?_, ?_, ?_, ?_, ?_, ?_, ?_, ?_, ?_, ?_, ?_, ?_, ?_, ?_, ?_, ?_, ?_, ?_, ?_, ?_, ?_, ?_, ?_, ?_, ?_, ?_, ?_, ?_, ?_, ?_, ?_, ?_, ?_, ?_, ?_, ?_, trivial⟩ ?_
    ·intro a vs W hX hR he hf K hK
     refine wn rfl ?_
     have e12 : a.eval (.tmp 12) = .int .i64 E := hf 12 (by kernel_rfl)
     refine wV hK rfl ?_
     simp only [execOp, e12]
     try go_simp
    ·intro a vs W hX hR he hf K hK
     refine wn rfl ?_
     have e13 : a.eval (.tmp 13) = .int .i64 E := hf 13 (by kernel_rfl)
     refine wV hK rfl ?_
     simp only [execOp, e13]
     try go_simp
    ·intro a vs W hX hR he hf K hK
     refine wn rfl ?_
     have e118 : a.eval (.tmp 118) = .int .i64 E := eH he hR 0 (by kernel_rfl) rfl
     have e119 : a.eval (.tmp 119) = .int .i64 E := eH he hR 1 (by kernel_rfl) rfl
     refine wV hK rfl ?_
     simp only [execOp, e118, e119]
     try go_simp
    ·intro a vs W hX hR he hf K hK
     refine wn rfl ?_
     have e120 : a.eval (.tmp 120) = .bool false := eH he hR 2 (by kernel_rfl) rfl
     refine wV hK rfl ?_
     simp only [execOp, e120]
     try go_simp
    ·intro a vs W hX hR he hf K hK
     have e121 : a.eval (.tmp 121) = .bool false := eH he hR 3 (by kernel_rfl) rfl
     refine gT e121 rfl rfl rfl ?_
     have e18 : a.eval (.tmp 18) = .pointer (some ⟨g18, 0, none⟩) := hf 18 (by kernel_rfl)
     refine wV hK rfl ?_
     simp only [execOp, e18]
     try go_simp
    ·intro a vs W hX hR he hf K hK
     have e121 : a.eval (.tmp 121) = .bool false := eH he hR 3 (by kernel_rfl) rfl
     refine gT e121 rfl rfl rfl ?_
     have e122 : a.eval (.tmp 122) = .pointer (some ⟨g18, 0, none⟩) := eH he hR 4 (by kernel_rfl) rfl
     have hbW := bthen (below_drew _) (grow_below hX)
     exact wp_value (exec_load_mid 30 _ rfl g18 0 e122 y.1.cells _ (it_blk_px (H18.out.on hbW) HYF.out.addr) Try.underlying30 rfl (sizePx _ HYF.out.addr)) (gK hK rfl)
    ·intro a vs W hX hR he hf K hK
     have e121 : a.eval (.tmp 121) = .bool false := eH he hR 3 (by kernel_rfl) rfl
     refine gT e121 rfl rfl rfl ?_
     have e20 : a.eval (.tmp 20) = .pointer (some ⟨g20, 0, none⟩) := hf 20 (by kernel_rfl)
     refine wV hK rfl ?_
     simp only [execOp, e20]
     try go_simp
    ·intro a vs W hX hR he hf K hK
     have e121 : a.eval (.tmp 121) = .bool false := eH he hR 3 (by kernel_rfl) rfl
     refine gT e121 rfl rfl rfl ?_
     have e124 : a.eval (.tmp 124) = .pointer (some ⟨g20, 0, none⟩) := eH he hR 6 (by kernel_rfl) rfl
     have hbW := bthen (below_drew _) (grow_below hX)
     exact wp_value (exec_load_mid 30 _ rfl g20 0 e124 y.1.cells _ (it_blk_px (H20.out.on hbW) HYF.out.addr) Try.underlying30 rfl (sizePx _ HYF.out.addr)) (gK hK rfl)
    ·intro a vs W hX hR he hf K hK
     have e121 : a.eval (.tmp 121) = .bool false := eH he hR 3 (by kernel_rfl) rfl
     refine gT e121 rfl rfl rfl ?_
     have e123 : a.eval (.tmp 123) = .agg y.1.cells.toArray := eH he hR 5 (by kernel_rfl) rfl
     have e125 : a.eval (.tmp 125) = .agg y.1.cells.toArray := eH he hR 7 (by kernel_rfl) rfl
     exact wp_value (exec_nePx _ _ _ rfl y.1 y.1 HYF.out.addr HYF.out.addr true (decide_eq_true rfl) e123 e125) (gK hK rfl)
    ·intro a vs W hX hR he hf K hK
     refine wn rfl ?_
     have e121 : a.eval (.tmp 121) = .bool false := eH he hR 3 (by kernel_rfl) rfl
     have e126 : a.eval (.tmp 126) = .bool false := eH he hR 8 (by kernel_rfl) rfl
     refine wV hK rfl ?_
     simp only [execOp, e121, e126]
     try go_simp
    ·intro a vs W hX hR he hf K hK
     refine wn rfl ?_
     have e127 : a.eval (.tmp 127) = .bool false := eH he hR 9 (by kernel_rfl) rfl
     refine wV hK rfl ?_
     simp only [execOp, e127]
     try go_simp
    ·intro a vs W hX hR he hf K hK
     have e128 : a.eval (.tmp 128) = .bool false := eH he hR 10 (by kernel_rfl) rfl
     refine gT e128 rfl rfl rfl ?_
     have e18 : a.eval (.tmp 18) = .pointer (some ⟨g18, 0, none⟩) := hf 18 (by kernel_rfl)
     refine wV hK rfl ?_
     simp only [execOp, e18]
     try go_simp
    ·intro a vs W hX hR he hf K hK
     have e128 : a.eval (.tmp 128) = .bool false := eH he hR 10 (by kernel_rfl) rfl
     refine gT e128 rfl rfl rfl ?_
     have e129 : a.eval (.tmp 129) = .pointer (some ⟨g18, 18, none⟩) := eH he hR 11 (by kernel_rfl) rfl
     have hbW := bthen (below_drew _) (grow_below hX)
     have hc : W.cell? ⟨g18, 18, none⟩ = some (.int .i64 y.2) := ((H18.out.on hbW).cell 18).trans (it_val y HYF.out.addr)
     refine wV hK rfl ?_
     simp only [execOp, e129]
     try go_simp
    ·intro a vs W hX hR he hf K hK
     have e128 : a.eval (.tmp 128) = .bool false := eH he hR 10 (by kernel_rfl) rfl
     refine gT e128 rfl rfl rfl ?_
     have e20 : a.eval (.tmp 20) = .pointer (some ⟨g20, 0, none⟩) := hf 20 (by kernel_rfl)
     refine wV hK rfl ?_
     simp only [execOp, e20]
     try go_simp
    ·intro a vs W hX hR he hf K hK
     have e128 : a.eval (.tmp 128) = .bool false := eH he hR 10 (by kernel_rfl) rfl
     refine gT e128 rfl rfl rfl ?_
     have e131 : a.eval (.tmp 131) = .pointer (some ⟨g20, 18, none⟩) := eH he hR 13 (by kernel_rfl) rfl
     have hbW := bthen (below_drew _) (grow_below hX)
     have hc : W.cell? ⟨g20, 18, none⟩ = some (.int .i64 y.2) := ((H20.out.on hbW).cell 18).trans (it_val y HYF.out.addr)
     refine wV hK rfl ?_
     simp only [execOp, e131]
     try go_simp
    ·intro a vs W hX hR he hf K hK
     have e128 : a.eval (.tmp 128) = .bool false := eH he hR 10 (by kernel_rfl) rfl
     refine gT e128 rfl rfl rfl ?_
     have e130 : a.eval (.tmp 130) = .int .i64 y.2 := eH he hR 12 (by kernel_rfl) rfl
     have e132 : a.eval (.tmp 132) = .int .i64 y.2 := eH he hR 14 (by kernel_rfl) rfl
     refine wV hK rfl ?_
     simp only [execOp, e130, e132]
     try go_simp
    ·intro a vs W hX hR he hf K hK
     refine wn rfl ?_
     have e128 : a.eval (.tmp 128) = .bool false := eH he hR 10 (by kernel_rfl) rfl
     have e133 : a.eval (.tmp 133) = .bool false := eH he hR 15 (by kernel_rfl) rfl
     refine wV hK rfl ?_
     simp only [execOp, e128, e133]
     try go_simp
    ·intro a vs W hX hR he hf K hK
     refine wn rfl ?_
     have e134 : a.eval (.tmp 134) = .bool false := eH he hR 16 (by kernel_rfl) rfl
     refine wV hK rfl ?_
     simp only [execOp, e134]
     try go_simp
    ·intro a vs W hX hR he hf K hK
     have e135 : a.eval (.tmp 135) = .bool false := eH he hR 17 (by kernel_rfl) rfl
     refine gT e135 rfl rfl rfl ?_
     have e19 : a.eval (.tmp 19) = .bool b := hf 19 (by kernel_rfl)
     refine wV hK rfl ?_
     simp only [execOp, e19]
     try go_simp
    ·intro a vs W hX hR he hf K hK
     have e135 : a.eval (.tmp 135) = .bool false := eH he hR 17 (by kernel_rfl) rfl
     refine gT e135 rfl rfl rfl ?_
     have e21 : a.eval (.tmp 21) = .bool b := hf 21 (by kernel_rfl)
     refine wV hK rfl ?_
     simp only [execOp, e21]
     try go_simp
    ·intro a vs W hX hR he hf K hK
     have e135 : a.eval (.tmp 135) = .bool false := eH he hR 17 (by kernel_rfl) rfl
     refine gT e135 rfl rfl rfl ?_
     have e136 : a.eval (.tmp 136) = .bool b := eH he hR 18 (by kernel_rfl) rfl
     have e137 : a.eval (.tmp 137) = .bool b := eH he hR 19 (by kernel_rfl) rfl
     refine wV hK rfl ?_
     simp only [execOp, e136, e137]
     try go_simp
    ·intro a vs W hX hR he hf K hK
     refine wn rfl ?_
     have e135 : a.eval (.tmp 135) = .bool false := eH he hR 17 (by kernel_rfl) rfl
     have e138 : a.eval (.tmp 138) = .bool false := eH he hR 20 (by kernel_rfl) rfl
     refine wV hK rfl ?_
     simp only [execOp, e135, e138]
     try go_simp
    ·intro a vs W hX hR he hf K hK
     refine wn rfl ?_
     have e139 : a.eval (.tmp 139) = .bool false := eH he hR 21 (by kernel_rfl) rfl
     refine wV hK rfl ?_
     simp only [execOp, e139]
     try go_simp
    ·intro a vs W hX hR he hf K hK
     have e140 : a.eval (.tmp 140) = .bool false := eH he hR 22 (by kernel_rfl) rfl
     refine gT e140 rfl rfl rfl ?_
     have e22 : a.eval (.tmp 22) = .int .i64 V := hf 22 (by kernel_rfl)
     refine wV hK rfl ?_
     simp only [execOp, e22]
     try go_simp
    ·intro a vs W hX hR he hf K hK
     have e140 : a.eval (.tmp 140) = .bool false := eH he hR 22 (by kernel_rfl) rfl
     refine gT e140 rfl rfl rfl ?_
     have e24 : a.eval (.tmp 24) = .int .i64 V := hf 24 (by kernel_rfl)
     refine wV hK rfl ?_
     simp only [execOp, e24]
     try go_simp
    ·intro a vs W hX hR he hf K hK
     have e140 : a.eval (.tmp 140) = .bool false := eH he hR 22 (by kernel_rfl) rfl
     refine gT e140 rfl rfl rfl ?_
     have e141 : a.eval (.tmp 141) = .int .i64 V := eH he hR 23 (by kernel_rfl) rfl
     have e142 : a.eval (.tmp 142) = .int .i64 V := eH he hR 24 (by kernel_rfl) rfl
     refine wV hK rfl ?_
     simp only [execOp, e141, e142]
     try go_simp
    ·intro a vs W hX hR he hf K hK
     refine wn rfl ?_
     have e140 : a.eval (.tmp 140) = .bool false := eH he hR 22 (by kernel_rfl) rfl
     have e143 : a.eval (.tmp 143) = .bool false := eH he hR 25 (by kernel_rfl) rfl
     refine wV hK rfl ?_
     simp only [execOp, e140, e143]
     try go_simp
    ·intro a vs W hX hR he hf K hK
     refine wn rfl ?_
     have e144 : a.eval (.tmp 144) = .bool false := eH he hR 26 (by kernel_rfl) rfl
     refine wV hK rfl ?_
     simp only [execOp, e144]
     try go_simp
    ·intro a vs W hX hR he hf K hK
     have e145 : a.eval (.tmp 145) = .bool false := eH he hR 27 (by kernel_rfl) rfl
     refine gT e145 rfl rfl rfl ?_
     have e23 : a.eval (.tmp 23) = .bool Q := hf 23 (by kernel_rfl)
     refine wV hK rfl ?_
     simp only [execOp, e23]
     try go_simp
    ·intro a vs W hX hR he hf K hK
     have e145 : a.eval (.tmp 145) = .bool false := eH he hR 27 (by kernel_rfl) rfl
     refine gT e145 rfl rfl rfl ?_
     have e25 : a.eval (.tmp 25) = .bool Q := hf 25 (by kernel_rfl)
     refine wV hK rfl ?_
     simp only [execOp, e25]
     try go_simp
    ·intro a vs W hX hR he hf K hK
     have e145 : a.eval (.tmp 145) = .bool false := eH he hR 27 (by kernel_rfl) rfl
     refine gT e145 rfl rfl rfl ?_
     have e146 : a.eval (.tmp 146) = .bool Q := eH he hR 28 (by kernel_rfl) rfl
     have e147 : a.eval (.tmp 147) = .bool Q := eH he hR 29 (by kernel_rfl) rfl
     refine wV hK rfl ?_
     simp only [execOp, e146, e147]
     try go_simp
    ·intro a vs W hX hR he hf K hK
     refine wn rfl ?_
     have e145 : a.eval (.tmp 145) = .bool false := eH he hR 27 (by kernel_rfl) rfl
     have e148 : a.eval (.tmp 148) = .bool false := eH he hR 30 (by kernel_rfl) rfl
     refine wV hK rfl ?_
     simp only [execOp, e145, e148]
     try go_simp
    ·intro a vs W hX hR he hf K hK
     refine wn rfl ?_
     have e149 : a.eval (.tmp 149) = .bool false := eH he hR 31 (by kernel_rfl) rfl
     refine wV hK rfl ?_
     simp only [execOp, e149]
     try go_simp
    ·intro a vs W hX hR he hf K hK
     have e150 : a.eval (.tmp 150) = .bool false := eH he hR 32 (by kernel_rfl) rfl
     refine gT e150 rfl rfl rfl ?_
     have e8 : a.eval (.tmp 8) = ptV f := hf 8 (by kernel_rfl)
     refine wV hK rfl ?_
     simp only [execOp, e8]
     try go_simp
    ·intro a vs W hX hR he hf K hK
     have e150 : a.eval (.tmp 150) = .bool false := eH he hR 32 (by kernel_rfl) rfl
     refine gT e150 rfl rfl rfl ?_
     have e11 : a.eval (.tmp 11) = .pointer (some ⟨g11, 0, none⟩) := hf 11 (by kernel_rfl)
     refine wV hK rfl ?_
     simp only [execOp, e11]
     try go_simp
    ·intro a vs W hX hR he hf K hK
     have e150 : a.eval (.tmp 150) = .bool false := eH he hR 32 (by kernel_rfl) rfl
     refine gT e150 rfl rfl rfl ?_
     have e152 : a.eval (.tmp 152) = .pointer (some ⟨g11, 19, none⟩) := eH he hR 34 (by kernel_rfl) rfl
     have hbW := bthen (below_drew _) (grow_below hX)
     have hc : W.cell? ⟨g11, 19, none⟩ = some (.int .i64 s.v) := ((H11.out.on hbW).cell 19).trans (st_v HSF.out.p.addr)
     refine wV hK rfl ?_
     simp only [execOp, e152]
     try go_simp
    ·intro a vs W hX hR he hf K hK
     have e150 : a.eval (.tmp 150) = .bool false := eH he hR 32 (by kernel_rfl) rfl
     refine gT e150 rfl rfl rfl ?_
     have e151 : a.eval (.tmp 151) = ptV f := eH he hR 33 (by kernel_rfl) rfl
     have e153 : a.eval (.tmp 153) = .int .i64 s.v := eH he hR 35 (by kernel_rfl) rfl
     have hbW := bthen (below_drew _) (grow_below hX)
     obtain ⟨S0, hfb⟩ := (HT.out.on hbW).fb
     refine wp_enter (f := 18) (args := #[ptV f, .int .i64 s.v]) (by simp only [execOp, e151, e153]; go_simp; exact ⟨by simpa [Act.eval] using e151, by simpa [Act.eval] using e153⟩) ((fuses_any hfb HKK.out s.v).mono ?_)
     rintro e w' ⟨rfl, hb⟩
     exact ⟨_, rfl, hK _ _ rfl (below_grow hb _)⟩
    ·intro a vs W hX hR he hf K hK
     have e150 : a.eval (.tmp 150) = .bool false := eH he hR 32 (by kernel_rfl) rfl
     refine gT e150 rfl rfl rfl ?_
     have e9 : a.eval (.tmp 9) = .pointer (some ⟨g9, 0, none⟩) := hf 9 (by kernel_rfl)
     have hbW := bthen (below_drew _) (grow_below hX)
     exact wp_value (exec_load 52 _ rfl g9 e9 52 F2.cells _ (H9.out.on hbW) Try.underlying52 rfl (Rf.size _)) (gK hK rfl)
    ·intro a vs W hX hR he hf K hK
     have e150 : a.eval (.tmp 150) = .bool false := eH he hR 32 (by kernel_rfl) rfl
     refine gT e150 rfl rfl rfl ?_
     have e11 : a.eval (.tmp 11) = .pointer (some ⟨g11, 0, none⟩) := hf 11 (by kernel_rfl)
     refine wV hK rfl ?_
     simp only [execOp, e11]
     try go_simp
    ·intro a vs W hX hR he hf K hK
     have e150 : a.eval (.tmp 150) = .bool false := eH he hR 32 (by kernel_rfl) rfl
     refine gT e150 rfl rfl rfl ?_
     have e156 : a.eval (.tmp 156) = .pointer (some ⟨g11, 19, none⟩) := eH he hR 38 (by kernel_rfl) rfl
     have hbW := bthen (below_drew _) (grow_below hX)
     have hc : W.cell? ⟨g11, 19, none⟩ = some (.int .i64 s.v) := ((H11.out.on hbW).cell 19).trans (st_v HSF.out.p.addr)
     refine wV hK rfl ?_
     simp only [execOp, e156]
     try go_simp
    ·intro a vs W hX hR he hf K hK
     have e150 : a.eval (.tmp 150) = .bool false := eH he hR 32 (by kernel_rfl) rfl
     refine gT e150 rfl rfl rfl ?_
     have e155 : a.eval (.tmp 155) = .agg F2.cells.toArray := eH he hR 37 (by kernel_rfl) rfl
     have e157 : a.eval (.tmp 157) = .int .i64 s.v := eH he hR 39 (by kernel_rfl) rfl
     have hbW := bthen (below_drew _) (grow_below hX)
     refine wp_enter (f := 24) (args := #[.agg F2.cells.toArray, .int .i64 s.v]) (by simp only [execOp, e155, e157]; go_simp; exact ⟨by simpa [Act.eval] using e155, by simpa [Act.eval] using e157⟩) ((ruses10_any F2 L2 W (fun b => by have := (HM.out b).2.1; omega) (fun b x hx => ((HM.out b).1 x hx).fit) (fun b => (HT.out.on hbW).row b) s.v).mono ?_)
     rintro e w' ⟨rfl, hb⟩
     exact ⟨_, rfl, hK _ _ rfl (below_grow hb _)⟩
    ·intro a vs W hX hR he hf K hK
     have e150 : a.eval (.tmp 150) = .bool false := eH he hR 32 (by kernel_rfl) rfl
     refine gT e150 rfl rfl rfl ?_
     have e154 : a.eval (.tmp 154) = .int .i64 (((L2 false ++ L2 true).filter fun x => decide (x.2 = s.v)).length : Int) := eH he hR 36 (by kernel_rfl) rfl
     have e158 : a.eval (.tmp 158) = .int .i64 (((L2 false ++ L2 true).filter fun x => decide (x.2 = s.v)).length : Int) := eH he hR 40 (by kernel_rfl) rfl
     refine wV hK rfl ?_
     obtain ⟨u9, hu9⟩ : ∃ u, ((L2 false ++ L2 true).filter fun x => decide (x.2 = s.v)).length = u := ⟨_, rfl⟩
     rw [hu9] at e154 e158
     simp only [execOp, e154, e158]
     go_simp
    ·intro a vs W hX hR he hf K hK
     refine wn rfl ?_
     have e150 : a.eval (.tmp 150) = .bool false := eH he hR 32 (by kernel_rfl) rfl
     have e159 : a.eval (.tmp 159) = .bool false := eH he hR 41 (by kernel_rfl) rfl
     refine wV hK rfl ?_
     simp only [execOp, e150, e159]
     try go_simp
    intro vs wx hXx hR
    rw [put_eqs hR rfl]
    simp only [putL, Act.put, List.setIfInBounds_toArray, List.set_cons_zero, List.set_cons_succ]
    clear hR
    replace HT := Hh (HT.out.on (bthen (below_drew _) (grow_below hXx)))
    replace H9 := Hh (H9.out.on (bthen (below_drew _) (grow_below hXx)))
    replace H5 := Hh (H5.out.on (bthen (below_drew _) (grow_below hXx)))
    replace HW := Hh (bthen HW.out (bthen (below_drew _) (grow_below hXx)))
    clear hXx
    go_wp2_with fail
    go_roundw
    case rel => exact ⟨k + 1, L2, K + 2, F2, by omega, by simp, HT.out.more (Below.refl _ _) (fun b hb => .inl (by simp only [List.mem_cons, List.not_mem_nil, or_false] at hb ⊢; omega)), by have := HK.out; omega, HSM2.out, HL2.out, H9.out, H5.out, HW.out⟩
    case measure => simp [intOf]; omega
  obtain rfl : k = n := by omega
  have HM := Hh (HT.out.hM (fun b => by have := HL.out b; have := HN50.out; omega))
  have HKK := Hh (show K ≤ 100000 by have := HK.out; have := HN50.out; omega)
  have HL6 := Hh (show ∀ b, (L b).length ≤ 60 from fun b => by have := HL.out b; have := HN50.out; omega)
  have HLK := Hh (fun b => HT.out.lok b)
  go_wp2_with fail
  have HZA := Hh (show ∀ x ∈ L false ++ L true, x.1.fit from fun x hx => (List.mem_append.1 hx).elim (fun hx => ((HLK.out false).good x hx).fit) (fun hx => ((HLK.out true).good x hx).fit))
  have HZAL := Hh (show (L false ++ L true).length ≤ 120 by rw [List.length_append]; have := HL6.out false; have := HL6.out true; omega)
  have HZB := Hh (show ∀ x ∈ aboveF (L p.six) p, x.1.fit from fun x hx => by
   unfold aboveF at hx
   split at hx
   ·exact ((HLK.out p.six).good x (List.mem_filter.1 (List.mem_reverse.1 hx)).1).fit
   cases hx)
  have HZC := Hh (show ∀ x ∈ belowF (L p.six) p, x.1.fit from fun x hx => by
   unfold belowF at hx
   split at hx
   ·exact ((HLK.out p.six).good x (List.mem_filter.1 hx).1).fit
   cases hx)
  have HZBL := Hh (show (aboveF (L p.six) p).length ≤ 60 by
   unfold aboveF
   split
   ·rw [List.length_reverse]; exact Nat.le_trans (List.length_filter_le _ _) (HL6.out _)
   simp)
  have HZCL := Hh (show (belowF (L p.six) p).length ≤ 60 by
   unfold belowF
   split
   ·exact Nat.le_trans (List.length_filter_le _ _) (HL6.out _)
   simp)
  refine wp_region_rel (fun A B => A.grownBy B none) (fun A => grown_refl A _) (fun A B C h k => grown_trans h k) (relAt (List.cons (fun v _ => v = ptV f) (List.cons (RowV (L false ++ L true)) (List.cons (fun v _ => v = .agg F.cells.toArray) (List.cons (RowV (L false ++ L true)) (List.cons (fun v _ => v = .bool true) (List.cons (fun v _ => v = .bool true) (List.cons (fun v _ => v = ptV f) (List.cons (fun v _ => v = .agg p.cells.toArray) (List.cons (RowV (aboveF (L p.six) p)) (List.cons (fun v _ => v = .agg F.cells.toArray) (List.cons (fun v _ => v = .agg p.cells.toArray) (List.cons (RowV (aboveF (L p.six) p)) (List.cons (fun v _ => v = .bool true) (List.cons (fun v _ => v = .bool true) (List.cons (fun v _ => v = .bool true) (List.cons (fun v _ => v = ptV f) (List.cons (fun v _ => v = .agg p.cells.toArray) (List.cons (RowV (belowF (L p.six) p)) (List.cons (fun v _ => v = .agg F.cells.toArray) (List.cons (fun v _ => v = .agg p.cells.toArray) (List.cons (RowV (belowF (L p.six) p)) (List.cons (fun v _ => v = .bool true) (List.cons (fun v _ => v = .bool true) (List.cons (fun v _ => v = .bool true) ([])))))))))))))))))))))))))) (MonoL.at_ (.cons (mono_val _) (.cons (fun _ _ _ h hx => h.on (grow_below hx)) (.cons (mono_val _) (.cons (fun _ _ _ h hx => h.on (grow_below hx)) (.cons (mono_val _) (.cons (mono_val _) (.cons (mono_val _) (.cons (mono_val _) (.cons (fun _ _ _ h hx => h.on (grow_below hx)) (.cons (mono_val _) (.cons (mono_val _) (.cons (fun _ _ _ h hx => h.on (grow_below hx)) (.cons (mono_val _) (.cons (mono_val _) (.cons (mono_val _) (.cons (mono_val _) (.cons (mono_val _) (.cons (fun _ _ _ h hx => h.on (grow_below hx)) (.cons (mono_val _) (.cons (mono_val _) (.cons (fun _ _ _ h hx => h.on (grow_below hx)) (.cons (mono_val _) (.cons (mono_val _) (.cons (mono_val _) .nil))))))))))))))))))))))))) (by kernel_rfl) (by kernel_rfl) ⟨?_, ?_, ?_, ?_, ?_, ?_, ?_, ?_, ?_, ?_, ?_, ?_, ?_, ?_, ?_, ?_, ?_, ?_, ?_, ?_, ?_, ?_, ?_, ?_, trivial⟩ ?_
  ·intro a vs W hX hR he hf K hK
   refine wn rfl ?_
   have e8 : a.eval (.tmp 8) = ptV f := hf 8 (by kernel_rfl)
   refine wV hK rfl ?_
   simp only [execOp, e8]
   try go_simp
  ·intro a vs W hX hR he hf K hK
   refine wn rfl ?_
   have e161 : a.eval (.tmp 161) = ptV f := eH he hR 0 (by kernel_rfl) rfl
   have hbW := bthen (below_drew _) (grow_below hX)
   obtain ⟨S0, hfb⟩ := (HT.out.on hbW).fb
   have hcl := fall_any hfb HKK.out
   refine wp_enter (f := 15) (args := #[ptV f]) (by simp only [execOp, e161]; go_simp; simpa [Act.eval] using e161) (hcl.mono ?_)
   rintro e w' ⟨A', c', rfl, hO, hb⟩
   exact ⟨_, rfl, hK _ _ ⟨A', _, c', rfl, hO.row⟩ (below_grow hb _)⟩
  ·intro a vs W hX hR he hf K hK
   refine wn rfl ?_
   have e9 : a.eval (.tmp 9) = .pointer (some ⟨g9, 0, none⟩) := hf 9 (by kernel_rfl)
   have hbW := bthen (below_drew _) (grow_below hX)
   exact wp_value (exec_load 52 _ rfl g9 e9 52 F.cells _ (H9.out.on hbW) Try.underlying52 rfl (Rf.size _)) (gK hK rfl)
  ·intro a vs W hX hR he hf K hK
   refine wn rfl ?_
   have e163 : a.eval (.tmp 163) = .agg F.cells.toArray := eH he hR 2 (by kernel_rfl) rfl
   have hbW := bthen (below_drew _) (grow_below hX)
   have hcl := rall10_any F L W (fun b => by have := (HM.out b).2.1; omega) (fun b => (HT.out.on hbW).row b)
   refine wp_enter (f := 26) (args := #[.agg F.cells.toArray]) (by simp only [execOp, e163]; go_simp; simpa [Act.eval] using e163) (hcl.mono ?_)
   rintro e w' ⟨A', c', rfl, hO, hb⟩
   exact ⟨_, rfl, hK _ _ ⟨A', _, c', rfl, hO.row⟩ (below_grow hb _)⟩
  ·intro a vs W hX hR he hf K hK
   refine wn rfl ?_
   have e162 := he 1 162 (by kernel_rfl) rfl
   have p162 := hR 1 (by kernel_rfl)
   change (RowV (L false ++ L true)) (vs 1) W at p162
   have e164 := he 3 164 (by kernel_rfl) rfl
   have p164 := hR 3 (by kernel_rfl)
   change (RowV (L false ++ L true)) (vs 3) W at p164
   obtain ⟨A1, n1, c1, v1, hr1⟩ := p162
   obtain ⟨A2, n2, c2, v2, hr2⟩ := p164
   rw [v1] at e162
   rw [v2] at e164
   have hcl := same10_any (L false ++ L true) HZA.out A1 n1 c1 A2 n2 c2 W hr1 hr2 (by have h9 := its_row hr1 HZA.out; have h8 := HZAL.out; omega)
   refine wp_enter (f := 25) (args := #[.slice A1 n1 c1, .slice A2 n2 c2]) (by simp only [execOp, e162, e164]; go_simp; exact ⟨by simpa [Act.eval] using e162, by simpa [Act.eval] using e164⟩) (hcl.mono ?_)
   rintro e w' ⟨rfl, hb⟩
   exact ⟨_, rfl, hK _ _ rfl (below_grow hb _)⟩
  ·intro a vs W hX hR he hf K hK
   refine wn rfl ?_
   have e165 : a.eval (.tmp 165) = .bool true := eH he hR 4 (by kernel_rfl) rfl
   refine wV hK rfl ?_
   simp only [execOp, e165]
   try go_simp
  ·intro a vs W hX hR he hf K hK
   have e166 : a.eval (.tmp 166) = .bool true := eH he hR 5 (by kernel_rfl) rfl
   refine gT e166 rfl rfl rfl ?_
   have e8 : a.eval (.tmp 8) = ptV f := hf 8 (by kernel_rfl)
   refine wV hK rfl ?_
   simp only [execOp, e8]
   try go_simp
  ·intro a vs W hX hR he hf K hK
   have e166 : a.eval (.tmp 166) = .bool true := eH he hR 5 (by kernel_rfl) rfl
   refine gT e166 rfl rfl rfl ?_
   have e5 : a.eval (.tmp 5) = .pointer (some ⟨g5, 0, none⟩) := hf 5 (by kernel_rfl)
   have hbW := bthen (below_drew _) (grow_below hX)
   exact wp_value (exec_load 30 _ rfl g5 e5 30 p.cells _ (H5.out.on hbW) Try.underlying30 rfl (sizePx _ HPF.out.addr)) (gK hK rfl)
  ·intro a vs W hX hR he hf K hK
   have e166 : a.eval (.tmp 166) = .bool true := eH he hR 5 (by kernel_rfl) rfl
   refine gT e166 rfl rfl rfl ?_
   have e167 : a.eval (.tmp 167) = ptV f := eH he hR 6 (by kernel_rfl) rfl
   have e168 : a.eval (.tmp 168) = .agg p.cells.toArray := eH he hR 7 (by kernel_rfl) rfl
   have hbW := bthen (below_drew _) (grow_below hX)
   obtain ⟨S0, hfb⟩ := (HT.out.on hbW).fb
   have hcl := fabove_any hfb HKK.out p (HL6.out _) HPF.out
   refine wp_enter (f := 12) (args := #[ptV f, .agg p.cells.toArray]) (by simp only [execOp, e167, e168]; go_simp; exact ⟨by simpa [Act.eval] using e167, by simpa [Act.eval] using e168⟩) (hcl.mono ?_)
   rintro e w' ⟨A', n', c', rfl, hr, hb⟩
   exact ⟨_, rfl, hK _ _ ⟨A', n', c', rfl, hr⟩ (below_grow hb _)⟩
  ·intro a vs W hX hR he hf K hK
   have e166 : a.eval (.tmp 166) = .bool true := eH he hR 5 (by kernel_rfl) rfl
   refine gT e166 rfl rfl rfl ?_
   have e9 : a.eval (.tmp 9) = .pointer (some ⟨g9, 0, none⟩) := hf 9 (by kernel_rfl)
   have hbW := bthen (below_drew _) (grow_below hX)
   exact wp_value (exec_load 52 _ rfl g9 e9 52 F.cells _ (H9.out.on hbW) Try.underlying52 rfl (Rf.size _)) (gK hK rfl)
  ·intro a vs W hX hR he hf K hK
   have e166 : a.eval (.tmp 166) = .bool true := eH he hR 5 (by kernel_rfl) rfl
   refine gT e166 rfl rfl rfl ?_
   have e5 : a.eval (.tmp 5) = .pointer (some ⟨g5, 0, none⟩) := hf 5 (by kernel_rfl)
   have hbW := bthen (below_drew _) (grow_below hX)
   exact wp_value (exec_load 30 _ rfl g5 e5 30 p.cells _ (H5.out.on hbW) Try.underlying30 rfl (sizePx _ HPF.out.addr)) (gK hK rfl)
  ·intro a vs W hX hR he hf K hK
   have e166 : a.eval (.tmp 166) = .bool true := eH he hR 5 (by kernel_rfl) rfl
   refine gT e166 rfl rfl rfl ?_
   have e170 : a.eval (.tmp 170) = .agg F.cells.toArray := eH he hR 9 (by kernel_rfl) rfl
   have e171 : a.eval (.tmp 171) = .agg p.cells.toArray := eH he hR 10 (by kernel_rfl) rfl
   have hbW := bthen (below_drew _) (grow_below hX)
   have hcl0 := rabove10_any F L W (fun b => (HM.out b).2.1) (fun b => (HM.out b).1) (fun b => (HT.out.on hbW).row b) p HPF.out
   rw [above_same HLK.out p HPF.out] at hcl0
   have hcl := hcl0
   refine wp_enter (f := 27) (args := #[.agg F.cells.toArray, .agg p.cells.toArray]) (by simp only [execOp, e170, e171]; go_simp; exact ⟨by simpa [Act.eval] using e170, by simpa [Act.eval] using e171⟩) (hcl.mono ?_)
   rintro e w' ⟨A', n', c', rfl, hr, hb⟩
   exact ⟨_, rfl, hK _ _ ⟨A', n', c', rfl, hr⟩ (below_grow hb _)⟩
  ·intro a vs W hX hR he hf K hK
   have e166 : a.eval (.tmp 166) = .bool true := eH he hR 5 (by kernel_rfl) rfl
   refine gT e166 rfl rfl rfl ?_
   have e169 := he 8 169 (by kernel_rfl) rfl
   have p169 := hR 8 (by kernel_rfl)
   change (RowV (aboveF (L p.six) p)) (vs 8) W at p169
   have e172 := he 11 172 (by kernel_rfl) rfl
   have p172 := hR 11 (by kernel_rfl)
   change (RowV (aboveF (L p.six) p)) (vs 11) W at p172
   obtain ⟨A1, n1, c1, v1, hr1⟩ := p169
   obtain ⟨A2, n2, c2, v2, hr2⟩ := p172
   rw [v1] at e169
   rw [v2] at e172
   have hcl := same10_any (aboveF (L p.six) p) HZB.out A1 n1 c1 A2 n2 c2 W hr1 hr2 (by have h9 := its_row hr1 HZB.out; have h8 := HZBL.out; omega)
   refine wp_enter (f := 25) (args := #[.slice A1 n1 c1, .slice A2 n2 c2]) (by simp only [execOp, e169, e172]; go_simp; exact ⟨by simpa [Act.eval] using e169, by simpa [Act.eval] using e172⟩) (hcl.mono ?_)
   rintro e w' ⟨rfl, hb⟩
   exact ⟨_, rfl, hK _ _ rfl (below_grow hb _)⟩
  ·intro a vs W hX hR he hf K hK
   refine wn rfl ?_
   have e166 : a.eval (.tmp 166) = .bool true := eH he hR 5 (by kernel_rfl) rfl
   have e173 : a.eval (.tmp 173) = .bool true := eH he hR 12 (by kernel_rfl) rfl
   refine wV hK rfl ?_
   simp only [execOp, e166, e173]
   try go_simp
  ·intro a vs W hX hR he hf K hK
   refine wn rfl ?_
   have e174 : a.eval (.tmp 174) = .bool true := eH he hR 13 (by kernel_rfl) rfl
   refine wV hK rfl ?_
   simp only [execOp, e174]
   try go_simp
  ·intro a vs W hX hR he hf K hK
   have e175 : a.eval (.tmp 175) = .bool true := eH he hR 14 (by kernel_rfl) rfl
   refine gT e175 rfl rfl rfl ?_
   have e8 : a.eval (.tmp 8) = ptV f := hf 8 (by kernel_rfl)
   refine wV hK rfl ?_
   simp only [execOp, e8]
   try go_simp
  ·intro a vs W hX hR he hf K hK
   have e175 : a.eval (.tmp 175) = .bool true := eH he hR 14 (by kernel_rfl) rfl
   refine gT e175 rfl rfl rfl ?_
   have e5 : a.eval (.tmp 5) = .pointer (some ⟨g5, 0, none⟩) := hf 5 (by kernel_rfl)
   have hbW := bthen (below_drew _) (grow_below hX)
   exact wp_value (exec_load 30 _ rfl g5 e5 30 p.cells _ (H5.out.on hbW) Try.underlying30 rfl (sizePx _ HPF.out.addr)) (gK hK rfl)
  ·intro a vs W hX hR he hf K hK
   have e175 : a.eval (.tmp 175) = .bool true := eH he hR 14 (by kernel_rfl) rfl
   refine gT e175 rfl rfl rfl ?_
   have e176 : a.eval (.tmp 176) = ptV f := eH he hR 15 (by kernel_rfl) rfl
   have e177 : a.eval (.tmp 177) = .agg p.cells.toArray := eH he hR 16 (by kernel_rfl) rfl
   have hbW := bthen (below_drew _) (grow_below hX)
   obtain ⟨S0, hfb⟩ := (HT.out.on hbW).fb
   have hcl := fbelow_any hfb HKK.out p HPF.out
   refine wp_enter (f := 14) (args := #[ptV f, .agg p.cells.toArray]) (by simp only [execOp, e176, e177]; go_simp; exact ⟨by simpa [Act.eval] using e176, by simpa [Act.eval] using e177⟩) (hcl.mono ?_)
   rintro e w' ⟨A', n', c', rfl, hr, hb⟩
   exact ⟨_, rfl, hK _ _ ⟨A', n', c', rfl, hr⟩ (below_grow hb _)⟩
  ·intro a vs W hX hR he hf K hK
   have e175 : a.eval (.tmp 175) = .bool true := eH he hR 14 (by kernel_rfl) rfl
   refine gT e175 rfl rfl rfl ?_
   have e9 : a.eval (.tmp 9) = .pointer (some ⟨g9, 0, none⟩) := hf 9 (by kernel_rfl)
   have hbW := bthen (below_drew _) (grow_below hX)
   exact wp_value (exec_load 52 _ rfl g9 e9 52 F.cells _ (H9.out.on hbW) Try.underlying52 rfl (Rf.size _)) (gK hK rfl)
  ·intro a vs W hX hR he hf K hK
   have e175 : a.eval (.tmp 175) = .bool true := eH he hR 14 (by kernel_rfl) rfl
   refine gT e175 rfl rfl rfl ?_
   have e5 : a.eval (.tmp 5) = .pointer (some ⟨g5, 0, none⟩) := hf 5 (by kernel_rfl)
   have hbW := bthen (below_drew _) (grow_below hX)
   exact wp_value (exec_load 30 _ rfl g5 e5 30 p.cells _ (H5.out.on hbW) Try.underlying30 rfl (sizePx _ HPF.out.addr)) (gK hK rfl)
  ·intro a vs W hX hR he hf K hK
   have e175 : a.eval (.tmp 175) = .bool true := eH he hR 14 (by kernel_rfl) rfl
   refine gT e175 rfl rfl rfl ?_
   have e179 : a.eval (.tmp 179) = .agg F.cells.toArray := eH he hR 18 (by kernel_rfl) rfl
   have e180 : a.eval (.tmp 180) = .agg p.cells.toArray := eH he hR 19 (by kernel_rfl) rfl
   have hbW := bthen (below_drew _) (grow_below hX)
   have hcl0 := rbelow10_any F L W (fun b => by have := (HM.out b).2.1; omega) (fun b => (HM.out b).1) (fun b => (HT.out.on hbW).row b) p HPF.out
   rw [below_same HLK.out p] at hcl0
   have hcl := hcl0
   refine wp_enter (f := 28) (args := #[.agg F.cells.toArray, .agg p.cells.toArray]) (by simp only [execOp, e179, e180]; go_simp; exact ⟨by simpa [Act.eval] using e179, by simpa [Act.eval] using e180⟩) (hcl.mono ?_)
   rintro e w' ⟨A', n', c', rfl, hr, hb⟩
   exact ⟨_, rfl, hK _ _ ⟨A', n', c', rfl, hr⟩ (below_grow hb _)⟩
  ·intro a vs W hX hR he hf K hK
   have e175 : a.eval (.tmp 175) = .bool true := eH he hR 14 (by kernel_rfl) rfl
   refine gT e175 rfl rfl rfl ?_
   have e178 := he 17 178 (by kernel_rfl) rfl
   have p178 := hR 17 (by kernel_rfl)
   change (RowV (belowF (L p.six) p)) (vs 17) W at p178
   have e181 := he 20 181 (by kernel_rfl) rfl
   have p181 := hR 20 (by kernel_rfl)
   change (RowV (belowF (L p.six) p)) (vs 20) W at p181
   obtain ⟨A1, n1, c1, v1, hr1⟩ := p178
   obtain ⟨A2, n2, c2, v2, hr2⟩ := p181
   rw [v1] at e178
   rw [v2] at e181
   have hcl := same10_any (belowF (L p.six) p) HZC.out A1 n1 c1 A2 n2 c2 W hr1 hr2 (by have h9 := its_row hr1 HZC.out; have h8 := HZCL.out; omega)
   refine wp_enter (f := 25) (args := #[.slice A1 n1 c1, .slice A2 n2 c2]) (by simp only [execOp, e178, e181]; go_simp; exact ⟨by simpa [Act.eval] using e178, by simpa [Act.eval] using e181⟩) (hcl.mono ?_)
   rintro e w' ⟨rfl, hb⟩
   exact ⟨_, rfl, hK _ _ rfl (below_grow hb _)⟩
  ·intro a vs W hX hR he hf K hK
   refine wn rfl ?_
   have e175 : a.eval (.tmp 175) = .bool true := eH he hR 14 (by kernel_rfl) rfl
   have e182 : a.eval (.tmp 182) = .bool true := eH he hR 21 (by kernel_rfl) rfl
   refine wV hK rfl ?_
   simp only [execOp, e175, e182]
   try go_simp
  ·intro a vs W hX hR he hf K hK
   refine wn rfl ?_
   have e183 : a.eval (.tmp 183) = .bool true := eH he hR 22 (by kernel_rfl) rfl
   refine wV hK rfl ?_
   simp only [execOp, e183]
   try go_simp
  intro vs wx hXx hR
  have q0 : vs 0 = ptV f := hR 0 (by decide)
  have q1 : (RowV (L false ++ L true)) (vs 1) wx := hR 1 (by decide)
  have q2 : vs 2 = .agg F.cells.toArray := hR 2 (by decide)
  have q3 : (RowV (L false ++ L true)) (vs 3) wx := hR 3 (by decide)
  have q4 : vs 4 = .bool true := hR 4 (by decide)
  have q5 : vs 5 = .bool true := hR 5 (by decide)
  have q6 : vs 6 = ptV f := hR 6 (by decide)
  have q7 : vs 7 = .agg p.cells.toArray := hR 7 (by decide)
  have q8 : (RowV (aboveF (L p.six) p)) (vs 8) wx := hR 8 (by decide)
  have q9 : vs 9 = .agg F.cells.toArray := hR 9 (by decide)
  have q10 : vs 10 = .agg p.cells.toArray := hR 10 (by decide)
  have q11 : (RowV (aboveF (L p.six) p)) (vs 11) wx := hR 11 (by decide)
  have q12 : vs 12 = .bool true := hR 12 (by decide)
  have q13 : vs 13 = .bool true := hR 13 (by decide)
  have q14 : vs 14 = .bool true := hR 14 (by decide)
  have q15 : vs 15 = ptV f := hR 15 (by decide)
  have q16 : vs 16 = .agg p.cells.toArray := hR 16 (by decide)
  have q17 : (RowV (belowF (L p.six) p)) (vs 17) wx := hR 17 (by decide)
  have q18 : vs 18 = .agg F.cells.toArray := hR 18 (by decide)
  have q19 : vs 19 = .agg p.cells.toArray := hR 19 (by decide)
  have q20 : (RowV (belowF (L p.six) p)) (vs 20) wx := hR 20 (by decide)
  have q21 : vs 21 = .bool true := hR 21 (by decide)
  have q22 : vs 22 = .bool true := hR 22 (by decide)
  have q23 : vs 23 = .bool true := hR 23 (by decide)
  simp only [putAll, Act.put, List.setIfInBounds_toArray, List.set_cons_zero, List.set_cons_succ, q0, q2, q4, q5, q6, q7, q9, q10, q12, q13, q14, q15, q16, q18, q19, q21, q22, q23]
  clear q0 q2 q4 q5 q6 q7 q9 q10 q12 q13 q14 q15 q16 q18 q19 q21 q22 q23
  clear hR
  have HWz := Hh (bthen HW.out (bthen (below_drew _) (grow_below hXx)))
  clear hXx
  go_wp2_with fail
  go_ret
  exact ⟨rfl, HWz.out⟩
end Go.Proofs.Ytdmgomknamdcfaa

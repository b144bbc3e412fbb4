/- Texts of this claim put together, in build order: each one's own remark stands ahead of it. -/
import Derived.Test.YtdmgomknamdcfaaG28
import Derived.Deep.DeepCutAuto
import Derived.Test.YtdmgomknamdcfaaG27
import Derived.Test.YtdmgomknamdcfaaG01
import Derived.OpenShut
import Derived.ShutString
import Derived.ChangeOld
import Derived.Test.YtdmgomknamdcfaaG22
import Derived.Deep.Slices
import Derived.Deep.Fields
import Derived.ChangeSame
/- What the reference's Of and Covers (layer 8) compute. No condition but sizes. -/
namespace Go.Proofs.Ytdmgomknamdcfaa
open Go.RowKit
set_option linter.unusedVariables false
set_option maxRecDepth 20000
set_option linter.unusedSimpArgs false

theorem set_self9 {α : Type} {l : List α} {k : Nat} {x : α} (h : l[k]? = some x) : l.set k x = l := by
 obtain ⟨hk, rfl⟩ := List.getElem?_eq_some_iff.1 h
 exact List.set_getElem_self hk
theorem mask_succ : ∀ k, k < 8 → ∀ u, u < 256 → maskN u (k + 1) = maskN u k + u / 2 ^ (7 - k) % 2 * (128 / 2 ^ k) := by decide +kernel
theorem mask_room : ∀ k, k < 8 → ∀ u, u < 256 → maskN u k + 128 / 2 ^ k < 256 := by decide +kernel
theorem firstF_succ (l : List UInt8) (i : Nat) (u : UInt8) (hu : l[i / 8]? = some u) : firstF l (i + 1) = (firstF l i).set (i / 8) (UInt8.ofNat (maskN u.toNat (i % 8) + u.toNat / 2 ^ (7 - i % 8) % 2 * (128 / 2 ^ (i % 8)))) := by
 apply List.ext_getElem?
 intro k
 rw [List.getElem?_set]
 by_cases hk : k < l.length
 ·obtain ⟨x, hx⟩ : ∃ x, l[k]? = some x := ⟨_, List.getElem?_eq_getElem hk⟩
  rw [firstF_get l (i + 1) k x hx]
  by_cases he : i / 8 = k
  ·rw [if_pos he, if_pos (by rw [firstF_length]; omega)]
   rw [he] at hu
   rw [hu] at hx
   injection hx with hx
   subst hx
   rw [show min (i + 1 - 8 * k) 8 = i % 8 + 1 by omega, mask_succ (i % 8) (by omega) _ u.toNat_lt]
  ·rw [if_neg he, firstF_get l i k x hx]
   congr 3
   omega
 ·rw [List.getElem?_eq_none (by rw [firstF_length]; omega)]
  by_cases he : i / 8 = k
  ·rw [if_pos he, if_neg (by rw [firstF_length]; omega)]
  ·rw [if_neg he, List.getElem?_eq_none (by rw [firstF_length]; omega)]
theorem firstF_zero16 (l : List UInt8) (h : l.length = 16) : firstF l 0 = zz16 := by
 refine abits_inj _ _ (by rw [firstF_length, h]; rfl) ?_
 rw [abits_first, List.take_zero, h]
 decide +kernel
theorem px_ad {w : World} {g : Nat} {t : TypeId} {p : Px} (h : Blk w g t p.cells) (hp : p.addr.length = 16) : w.rangeAt g 1 (bv p.addr) := by
 have hr := h.range 1 16
 rw [p.drop_addr hp] at hr
 exact hr
theorem exec_buildPx02 {w : World} {o : Oper} {q : Act} (x0 x2 : Operand) (ho : o.op = .build 30 #[(0, x0), (2, x2)]) (b : Bool) (n : Int) (h0 : q.eval x0 = .bool b) (h2 : q.eval x2 = .int .i64 n) :
  (execOp q.eval o).run Try.prog w = .ok (.value (.agg (Px.cells ⟨b, zz16, n⟩).toArray)) w := by
 unfold execOp
 simp only [ho, List.map_toArray, List.map_cons, List.map_nil, h0, h2, Sem.run_bind, show (Instr.build 30 #[(0, .bool b), (2, .int .i64 n)]).run Try.prog w = .ok (.agg (Px.cells ⟨b, zz16, n⟩).toArray) w by kernel_rfl, Result.andThen_ok]
 rfl
set_option maxHeartbeats 4000000 in
theorem rof_any (six : Bool) (ad : List UInt8) (ha : ad.length = 16) (w : World) :
  Calls Try.prog 9 #[.bool six, .agg (bv ad).toArray, .int .i64 128] w fun e w' => e = .returned (.agg (ofF six ad (mostF six)).cells.toArray) ∧ Below w.heap.size w w' := by
 have HAL := Lib.hid ha
 have hm := mostF_le six
 obtain ⟨m, hmm⟩ : ∃ m, mostF six = m := ⟨_, rfl⟩
 have HM := Lib.hid hmm
 rw [hmm] at hm
 rw [hmm]
 clear ha hmm
 go_enter Try.func9, Try.ntmps9
 go_upto_region 1 with (first
  | (refine wpList_box_blk (by rfl) 23 (.tmp 1) rfl (bv ad) rfl ?_; intro w1 hb1 hB1 hs1; clear hs1)
  | (refine wpList_alloc_blk (by rfl) 30 rfl Px.zero.cells zeroPx ?_; intro w2 hb2 hB2 hs2; clear hs2))
 obtain ⟨g4, hg4⟩ : ∃ g, w.heap.size = g := ⟨_, rfl⟩
 obtain ⟨g6, hg6⟩ : ∃ g, w1.heap.size = g := ⟨_, rfl⟩
 have hk4 := hb1.on hB2
 have hl6 : w.heap.size ≤ w1.heap.size := hB1.size
 have HW := Lib.hid (bthen hB1 hB2)
 rw [hg4] at hk4
 rw [hg6] at hb2 hl6
 try rw [hg4]
 try rw [hg6]
 have H4 := Lib.hid hk4
 have H6 := Lib.hid hb2
 have HL6 := Lib.hid hl6
 have hk49 : g4 < w2.heap.size := hk4.lt
 clear hb1 hB1 hb2 hB2 hk4 hg4 hg6 hl6
 have h128 : (m : Int) ≤ 128 := by omega
 have h0 : ¬ (128 : Int) < (m : Int) := by omega
 have hz0 : (0 : Int) ≤ (m : Int) := by omega
 go_upto_region 1 with fail
 apply wp_region_lit
 refine wpList_value (v := .bool six) (w' := w2) (by rfl) (by simp only [execOp]; go_simp) ?_
 simp only [Act.put, List.setIfInBounds_toArray, List.set_cons_zero, List.set_cons_succ]
 refine wpList_value (v := .int .i64 128) (w' := w2) (by rfl) (by simp only [execOp]; go_simp) ?_
 simp only [Act.put, List.setIfInBounds_toArray, List.set_cons_zero, List.set_cons_succ]
 refine wpList_value (v := .int .i64 128) (w' := w2) (by rfl) (by simp only [execOp]; go_simp) ?_
 simp only [Act.put, List.setIfInBounds_toArray, List.set_cons_zero, List.set_cons_succ]
 refine wpList_value (v := .bool six) (w' := w2) (by rfl) (by simp only [execOp]; go_simp) ?_
 simp only [Act.put, List.setIfInBounds_toArray, List.set_cons_zero, List.set_cons_succ]
 refine wpList_callW (by rfl) (f := 32) (args := #[.bool six]) (by simp only [execOp]; go_simp) (rmost_any six w2) ?_
 rintro e w3 ⟨rfl, rfl⟩
 rw [HM.out]
 refine ⟨_, rfl, ?_⟩
 simp only [Act.put, List.setIfInBounds_toArray, List.set_cons_zero, List.set_cons_succ]
 refine wpList_value (v := .int .i64 (m : Int)) (w' := w2) (by rfl) (by simp only [execOp]; go_simp; try omega) ?_
 simp only [Act.put, List.setIfInBounds_toArray, List.set_cons_zero, List.set_cons_succ]
 refine wpList_value (by rfl) (exec_buildPx02 _ _ rfl six (m : Int) rfl rfl) ?_
 simp only [Act.put, List.setIfInBounds_toArray, List.set_cons_zero, List.set_cons_succ]
 refine wpList_alloc_blk (by rfl) 30 rfl Px.zero.cells zeroPx ?_
 intro wa hba hBa hsa
 simp only [Act.put, List.setIfInBounds_toArray, List.set_cons_zero, List.set_cons_succ]
 refine wpList_store_all (by rfl) 30 _ _ rfl w2.heap.size (Px.cells ⟨six, zz16, (m : Int)⟩) rfl rfl 30 _ hba (sizePx _ rfl) (Px.cells_same _ _ rfl rfl) (onePx _) ?_
 intro w5 hb5 hg5 hs5
 simp only [Act.put, List.setIfInBounds_toArray, List.set_cons_zero, List.set_cons_succ]
 apply wpList_nil
 have hbb := bgrown hBa hg5 hBa.size (Nat.le_refl _)
 have hl7 : g6 < w2.heap.size := H6.out.lt
 have hl8 : w.heap.size ≤ w2.heap.size := HW.out.size
 obtain ⟨g7, hg7⟩ : ∃ g, w2.heap.size = g := ⟨_, rfl⟩
 replace HW := Lib.hid (bthen HW.out hbb)
 replace H4 := Lib.hid (H4.out.on hbb)
 replace H6 := Lib.hid (H6.out.on hbb)
 have H47 := Lib.hid (show g4 < g7 by rw [← hg7]; have := hk49; omega)
 rw [hg7] at hb5 hl7 hl8
 try rw [hg7]
 have H7 := Lib.hid hb5
 have HL7 := Lib.hid hl7
 have HL8 := Lib.hid hl8
 clear hba hBa hsa hb5 hg5 hs5 hbb hl7 hl8 hg7 hk49
 go_wp2_with fail
 go_loopw [8] (fun s8 wr => ∃ (i : Nat), i ≤ m ∧ s8 = .int .i64 (i : Nat) ∧ Blk wr g7 30 (Px.cells ⟨six, firstF ad i, (m : Int)⟩) ∧ Blk wr g4 23 (bv ad) ∧ Blk wr g6 30 Px.zero.cells ∧ Below w.heap.size w wr) (fun s8 _ => m - (intOf s8).toNat)
 case atStart => exact ⟨0, Nat.zero_le _, rfl, by rw [firstF_zero16 ad HAL.out]; exact H7.out, H4.out, H6.out, HW.out⟩
 case round =>
  obtain ⟨i, hi, rfl, h7, h4, h6, hW⟩ := hrel
  clear H7 H4 H6 HW
  have H7 := Lib.hid h7
  have H4 := Lib.hid h4
  have H6 := Lib.hid h6
  have HW := Lib.hid hW
  clear h7 h4 h6 hW
  have hfl : (firstF ad i).length = 16 := by rw [firstF_length, HAL.out]
  have HFL := Lib.hid hfl
  have c17 : wr.cell? ⟨g7, 17, none⟩ = some (.int .i64 (m : Int)) := (H7.out.cell 17).trans (Px.get_len ⟨six, firstF ad i, (m : Int)⟩ HFL.out)
  clear hfl
  by_cases hlt : i < m
  ·have hlt2 : (i : Int) < (m : Int) := by omega
   have hlt3 : (i : Int) + 1 ≤ 128 := by omega
   go_wp2_with (refine wpList_value (by rfl) (exec_load 23 _ rfl g4 (by rfl) 23 (bv ad) _ H4.out Try.underlying23 rfl (size16 _ HAL.out)) ?_)
   refine (rbit_any ad HAL.out (i : Int) (by omega) (by omega) wr).mono ?_
   rintro e w6 ⟨rfl, hb⟩
   replace H7 := Lib.hid (H7.out.on hb)
   replace H4 := Lib.hid (H4.out.on hb)
   replace H6 := Lib.hid (H6.out.on hb)
   replace HW := Lib.hid (bthen HW.out hb)
   clear hb c17
   obtain ⟨u, hu⟩ : ∃ u, ad[i / 8]? = some u := ⟨_, List.getElem?_eq_getElem (by have := HAL.out; omega)⟩
   have hbit : bitI ad (i : Int) = ((u.toNat / 2 ^ (7 - i % 8) % 2 : Nat) : Int) := by
    unfold bitI
    rw [if_pos (by omega), Int.toNat_natCast, bitF_eq ad i (by have := HAL.out; omega), List.getD_eq_getElem?_getD, hu]
    have h2 : u.toNat / 2 ^ (7 - i % 8) % 2 < 2 := Nat.mod_lt _ (by decide)
    show (if (u.toNat / 2 ^ (7 - i % 8) % 2 == 1) = true then (1 : Int) else 0) = _
    rcases Nat.lt_or_ge (u.toNat / 2 ^ (7 - i % 8) % 2) 1 with h | h
    ·rw [show u.toNat / 2 ^ (7 - i % 8) % 2 = 0 by omega]; rfl
    ·rw [show u.toNat / 2 ^ (7 - i % 8) % 2 = 1 by omega]; rfl
   rw [hbit]
   have HSU := Lib.hid (firstF_succ ad i u hu)
   have HOLD := Lib.hid (firstF_get ad i (i / 8) u hu)
   obtain ⟨bt, hbt⟩ : ∃ b, u.toNat / 2 ^ (7 - i % 8) % 2 = b := ⟨_, rfl⟩
   rw [hbt] at HSU
   rw [hbt]
   have hb2 : bt < 2 := by rw [← hbt]; exact Nat.mod_lt _ (by decide)
   clear hbit hbt hu
   rcases Nat.lt_or_ge bt 1 with hb | hb
   ·obtain rfl : bt = 0 := by omega
    clear hb hb2
    go_wp2_with fail
    go_roundw
    case rel => exact ⟨i + 1, by omega, by simp, by
     have e1 := HSU.out
     have e2 := HOLD.out
     rw [show min (i - 8 * (i / 8)) 8 = i % 8 by omega] at e2
     rw [e1, Nat.zero_mul, Nat.add_zero, set_self9 e2]
     exact H7.out, H4.out, H6.out, HW.out⟩
    case measure => simp [intOf]; omega
   ·obtain rfl : bt = 1 := by omega
    clear hb hb2
    have e2 := HOLD.out
    rw [show min (i - 8 * (i / 8)) 8 = i % 8 by omega] at e2
    obtain ⟨ob, hob⟩ : ∃ o, maskN u.toNat (i % 8) = o := ⟨_, rfl⟩
    have hob8 : ob < 256 := by rw [← hob]; exact maskN_lt _ _ u.toNat_lt
    rw [hob] at e2 HSU
    have co : w6.cell? ⟨g7, 1 + i / 8, none⟩ = some (.int .u8 (ob : Int)) := by
     refine (H7.out.cell (1 + i / 8)).trans ?_
     rw [Px.get_addr ⟨six, firstF ad i, (m : Int)⟩ HFL.out (i / 8) (by omega)]
     show (bv (firstF ad i))[i / 8]? = _
     unfold bv
     rw [List.getElem?_map, e2]
     show some (Value.int .u8 ((UInt8.ofNat ob).toNat : Int)) = _
     rw [show (UInt8.ofNat ob).toNat = ob from by simp [UInt8.toNat_ofNat']; omega]
    have hsum := mask_room (i % 8) (by omega) u.toNat u.toNat_lt
    rw [hob] at hsum
    have cf := H7.out.frozen (1 + i / 8)
    have HOB := Lib.hid hsum
    clear hob e2 hob8 hsum
    go_wp2_with fail
    go_roundw
    case rel =>
     have hgr := grown_setCells g7 [.int .u8 (((ob : Int) + 128 / 2 ^ (i % 8)) % 256)] (1 + i / 8) w6 w6 (grown_refl w6 _)
     refine ⟨i + 1, by omega, by simp, ?_, H4.out.grown hgr (fun e => by have := H47.out; injection e with e; omega), H6.out.grown hgr (fun e => by have := HL7.out; injection e with e; omega), bgrown HW.out hgr HW.out.size HL8.out⟩
     have e1 := HSU.out
     have e3 := HOB.out
     rw [Nat.one_mul] at e1
     have hs := H7.out.set (1 + i / 8) (.int .u8 (((ob : Int) + 128 / 2 ^ (i % 8)) % 256))
     have hcells : (Px.cells ⟨six, firstF ad i, (m : Int)⟩).set (1 + i / 8) (.int .u8 (((ob : Int) + 128 / 2 ^ (i % 8)) % 256)) = Px.cells ⟨six, firstF ad (i + 1), (m : Int)⟩ := by
      have hv : ((ob : Int) + 128 / 2 ^ (i % 8)) % 256 = (((UInt8.ofNat (ob + 128 / 2 ^ (i % 8))).toNat : Nat) : Int) := by
       have hn : (UInt8.ofNat (ob + 128 / 2 ^ (i % 8))).toNat = ob + 128 / 2 ^ (i % 8) := by
        simp [UInt8.toNat_ofNat']
        omega
       rw [hn]
       have hp : ((128 : Int) / 2 ^ (i % 8)) = ((128 / 2 ^ (i % 8) : Nat) : Int) := div_pow_cast 128 (i % 8)
       rw [hp]
       omega
      rw [e1, hv, Nat.add_comm 1 (i / 8)]
      show Value.bool six :: ((bv (firstF ad i) ++ [Value.int .i64 (m : Int)]).set (i / 8) _) = Value.bool six :: (bv ((firstF ad i).set (i / 8) _) ++ [Value.int .i64 (m : Int)])
      rw [List.set_append_left _ _ (by rw [bv_length, HFL.out]; omega), ← bv_setU]
     rw [hcells] at hs
     exact hs
    case measure => simp [intOf]; omega
  ·obtain rfl : i = m := by omega
   have hge : w.heap.size ≤ g6 := HL6.out
   go_wp2_with (first
    | (refine wpList_value (by rfl) (exec_load 30 _ rfl g7 (by rfl) 30 (Px.cells ⟨six, firstF ad i, (i : Int)⟩) _ H7.out Try.underlying30 rfl (sizePx _ HFL.out)) ?_)
    | (refine wpList_store_all (by rfl) 30 _ _ rfl g6 (Px.cells ⟨six, firstF ad i, (i : Int)⟩) rfl rfl 30 _ H6.out (sizePx _ HFL.out) (Px.cells_same _ _ HFL.out rfl) (onePx _) ?_; intro w7 hb7 hg7 hs7))
   have hB7 : Below w.heap.size w w7 := bgrown HW.out hg7 HW.out.size hge
   exact bodyPost_ret (results_cell1 rfl _ _ g6 _ _ _ rfl hb7 Try.underlying30 rfl (sizePx _ HFL.out)) rfl ⟨rfl, hB7⟩
set_option maxHeartbeats 2000000 in
theorem rcovers_any (p : Px) (hp : p.good) (q : Px) (hq : q.good) (w : World) :
  Calls Try.prog 16 #[.agg p.cells.toArray, .agg q.cells.toArray] w fun e w' => e = .returned (.bool (covP p q)) ∧ Below w.heap.size w w' := by
 have HP := Lib.hid hp
 have HQ := Lib.hid hq
 clear hp hq
 go_enter Try.func16, Try.ntmps16
 go_upto_region 1 with (first
  | (refine wpList_box_blk (by rfl) 30 (.tmp 0) rfl p.cells rfl ?_; intro w1 hb1 hB1 hs1; clear hs1)
  | (refine wpList_box_blk (by rfl) 30 (.tmp 1) rfl q.cells rfl ?_; intro w2 hb2 hB2 hs2; clear hs2))
 obtain ⟨g2, hg2⟩ : ∃ g, w.heap.size = g := ⟨_, rfl⟩
 obtain ⟨g3, hg3⟩ : ∃ g, w1.heap.size = g := ⟨_, rfl⟩
 have hk2 := hb1.on hB2
 have HW := Lib.hid (bthen hB1 hB2)
 rw [hg2] at hk2
 rw [hg3] at hb2
 try rw [hg2]
 try rw [hg3]
 have H2 := Lib.hid hk2
 have H3 := Lib.hid hb2
 clear hb1 hB1 hb2 hB2 hk2 hg2 hg3
 go_wp2_with (first
  | (refine wpList_value (by rfl) (exec_load 30 _ rfl g2 (by rfl) 30 p.cells _ H2.out Try.underlying30 rfl (sizePx _ HP.out.addr)) ?_)
  | (refine wpList_value (by rfl) (exec_load_mid 23 _ rfl g3 1 (by rfl) (bv q.addr) _ (px_ad H3.out HQ.out.addr) Try.underlying23 rfl (size16 _ HQ.out.addr)) ?_))
 refine (rhas_any p HP.out q.addr HQ.out.addr w2).mono ?_
 rintro e w3 ⟨rfl, hb⟩
 have HW3 := Lib.hid (bthen HW.out hb)
 have H23 := Lib.hid (H2.out.on hb)
 have H33 := Lib.hid (H3.out.on hb)
 clear hb
 have c1 : w3.cell? ⟨g2, 0, none⟩ = some (.bool p.six) := H23.out.cell 0
 have c2 : w3.cell? ⟨g3, 0, none⟩ = some (.bool q.six) := H33.out.cell 0
 have c3 : w3.cell? ⟨g2, 17, none⟩ = some (.int .i64 p.len) := (H23.out.cell 17).trans (p.get_len HP.out.addr)
 have c4 : w3.cell? ⟨g3, 17, none⟩ = some (.int .i64 q.len) := (H33.out.cell 17).trans (q.get_len HQ.out.addr)
 obtain ⟨h, hh⟩ : ∃ h, hasA p q.addr = h := ⟨_, rfl⟩
 obtain ⟨s1, hs1⟩ : ∃ h, p.six = h := ⟨_, rfl⟩
 obtain ⟨s2, hs2⟩ : ∃ h, q.six = h := ⟨_, rfl⟩
 have HC := Lib.hid (show covP p q = ((s1 == s2) && (decide (p.len ≤ q.len) && h)) by unfold covP; rw [hs1, hs2, hh])
 rw [hh]
 rw [hs1] at c1
 rw [hs2] at c2
 clear hh hs1 hs2
 by_cases hl : p.len ≤ q.len
 ·have HD := Lib.hid (decide_eq_true hl)
  cases s1 <;> cases s2 <;> cases h
  all_goals
   go_wp2_with fail
   go_ret
   exact ⟨by rw [HC.out, HD.out]; rfl, HW3.out⟩
 ·have HD := Lib.hid (decide_eq_false hl)
  cases s1 <;> cases s2 <;> cases h
  all_goals
   go_wp2_with fail
   go_ret
   exact ⟨by rw [HC.out, HD.out]; rfl, HW3.out⟩
end Go.Proofs.Ytdmgomknamdcfaa

/- Plain laws of the longest prefix that covers, and of what is above and below (layer 10). No condition. -/
namespace Go.Proofs.Ytdmgomknamdcfaa
set_option linter.unusedVariables false
set_option linter.unusedSimpArgs false

theorem has_mem10 {s : Bool} {L : List Itm} (h : Lok s L) {y : Itm} (hy : y ∈ L) : getC L y.1 = y.2 ∧ hasC L y.1 = true := by
 have hg := h.good y hy
 have h6 := h.six y hy
 obtain ⟨h1, h2, h3⟩ := lt_mid h hg h6
 rcases (h3 y).1 hy with e | ⟨e, hv⟩ | e
 ·have := h1 y e; rw [ltB_irrefl] at this; cases this
 ·have h9 := getC_same h hg.fit.addr h6
  rw [h9] at hv
  have h8 := hasC_same h hg.fit.addr h6
  exact ⟨(congrArg (·.2) hv).symm, h8.trans e⟩
 ·have := h2 y e; rw [ltB_irrefl] at this; cases this
/-- two that have an address, of one length, are one -/
theorem same_len {s : Bool} {L : List Itm} (h : Lok s L) {ad : List UInt8} (ha : ad.length = 16) {x y : Itm} (hx : x ∈ L) (hy : y ∈ L) (h1 : hasA x.1 ad = true) (h2 : hasA y.1 ad = true) (hl : x.1.len = y.1.len) : x = y := by
 have gx := h.good x hx
 have gy := h.good y hy
 have b1 := (hasA_iff gx ha).1 h1
 have b2 := (hasA_iff gy ha).1 h2
 have e : x.1.bits = y.1.bits := by
  have l1 := gx.bits_length
  have l2 := gy.bits_length
  exact (List.prefix_of_prefix_length_le b1 b2 (by omega)).eq_of_length (by omega)
 have e1 : x.1 = y.1 := good_eq gx gy (by rw [h.six x hx, h.six y hy]) e
 refine Prod.ext e1 ?_
 have a1 := (has_mem10 h hx).1
 have a2 := (has_mem10 h hy).1
 rw [← a1, ← a2, e1]
theorem ofM_good (six : Bool) (ad : List UInt8) (ha : ad.length = 16) : (ofF six ad (mostF six)).good := ofF_good six ad _ ha (Nat.le_refl _)
theorem ofM_cov {s : Bool} {L : List Itm} (h : Lok s L) {ad : List UInt8} (ha : ad.length = 16) {x : Itm} (hx : x ∈ L) : covP x.1 (ofF s ad (mostF s)) = hasA x.1 ad := by
 have gx := h.good x hx
 have gp := ofM_good s ad ha
 have hle := gx.le
 rw [h.six x hx] at hle
 rw [Bool.eq_iff_iff, cov_iff gx gp, hasA_iff gx ha, ofF_bits s ad _ ha (Nat.le_refl _)]
 have hm := mostF_le s
 constructor
 ·rintro ⟨_, h1⟩
  exact h1.trans (List.take_prefix _ _)
 ·intro h1
  refine ⟨h.six x hx, List.prefix_of_prefix_length_le h1 (List.take_prefix _ _) ?_⟩
  rw [List.length_take, abits_length, ha, gx.bits_length]
  omega
/-- what a look finds: the address alone, if it is there; else the longest that covers it -/
theorem looks_facts {s : Bool} {L : List Itm} (h : Lok s L) {ad : List UInt8} (ha : ad.length = 16) :
  (hasC L (ofF s ad (mostF s)) = true → ansL' L ad = ((ofF s ad (mostF s), getC L (ofF s ad (mostF s))), true)) ∧
  (hasC L (ofF s ad (mostF s)) = false → aboveF L (ofF s ad (mostF s)) = [] → (ansL' L ad).2 = false) ∧
  (hasC L (ofF s ad (mostF s)) = false → ∀ x M, aboveF L (ofF s ad (mostF s)) = x :: M → ansL' L ad = (x, true)) := by
 obtain ⟨p, hp⟩ : ∃ p, ofF s ad (mostF s) = p := ⟨_, rfl⟩
 have gp : p.good := by rw [← hp]; exact ofM_good s ad ha
 have sp : p.six = s := by rw [← hp]; rfl
 have lp : p.len = (mostF s : Int) := by rw [← hp]; rfl
 have hc : ∀ x ∈ L, covP x.1 p = hasA x.1 ad := fun x hx => by rw [← hp]; exact ofM_cov h ha hx
 have hpa : hasA p ad = true := by
  rw [hasA_iff gp ha, ← hp, ofF_bits s ad _ ha (Nat.le_refl _)]
  exact List.take_prefix _ _
 have hm := bestP_max ad L none (by simp)
 rw [hp]
 have hab : aboveF L p = (L.filter (overB p)).reverse := by unfold aboveF; rw [if_pos ((chkP_iff p gp.addr).2 gp)]
 have hnot : hasC L p = false → ∀ x ∈ L, hasA x.1 ad = true → x ∈ L.filter (overB p) := by
  intro hf x hx hxa
  refine List.mem_filter.2 ⟨hx, ?_⟩
  unfold overB
  rw [hc x hx, hxa, Bool.true_and, Bool.not_eq_true', decide_eq_false_iff_not]
  intro e
  have := (has_mem10 h hx).2
  rw [e, hf] at this
  cases this
 refine ⟨fun ht => ?_, fun hf he => ?_, fun hf x M he => ?_⟩
 ·obtain ⟨x, hx, hxp, hg⟩ := hasC_some ht
  have hxm := List.mem_of_getElem? hx
  cases hB : bestP ad L none with
  | none =>
   have := (hm.1 hB).2 x hxm
   rw [hxp, hpa] at this
   cases this
  | some y =>
   obtain ⟨h1, h2, _, h3⟩ := hm.2 y hB
   have hy := bestP_mem hB
   have h4 := h3 x hxm (by rw [hxp]; exact hpa)
   have h5 := (h.good y hy).le
   rw [h.six y hy] at h5
   have e := same_len h ha hxm hy (by rw [hxp]; exact hpa) h2 (by rw [hxp] at h4 ⊢; omega)
   have e2 : ansL' L ad = (y, true) := by unfold ansL'; rw [hB]
   rw [e2, ← e, hg, ← hxp]
 ·rw [hab] at he
  have hnil : L.filter (overB p) = [] := List.reverse_eq_nil_iff.1 he
  cases hB : bestP ad L none with
  | none => unfold ansL'; rw [hB]
  | some y =>
   have h9 := hnot hf y (bestP_mem hB) (hm.2 y hB).2.1
   rw [hnil] at h9
   cases h9
 ·rw [hab] at he
  have hxm : x ∈ L.filter (overB p) := List.mem_reverse.1 (by rw [he]; exact List.mem_cons_self)
  obtain ⟨hxL, hxo⟩ := List.mem_filter.1 hxm
  have hxa : hasA x.1 ad = true := by
   unfold overB at hxo
   rw [Bool.and_eq_true] at hxo
   rw [← hc x hxL]
   exact hxo.1
  have hmax : ∀ z ∈ L.filter (overB p), z.1.len ≤ x.1.len := by
   intro z hz
   have hr := List.pairwise_reverse.2 (over_rise h gp)
   rw [he] at hr
   have hz' : z ∈ x :: M := by rw [← he]; exact List.mem_reverse.2 hz
   rcases List.mem_cons.1 hz' with e | e
   ·rw [e]; exact Int.le_refl _
   ·exact Int.le_of_lt ((List.pairwise_cons.1 hr).1 z e)
  cases hB : bestP ad L none with
  | none =>
   have := (hm.1 hB).2 x hxL
   rw [hxa] at this
   cases this
  | some y =>
   obtain ⟨h1, h2, _, h3⟩ := hm.2 y hB
   have hy := bestP_mem hB
   have h4 := h3 x hxL hxa
   have h5 := hmax y (hnot hf y hy h2)
   have e := same_len h ha hxL hy hxa h2 (by omega)
   unfold ansL'
   rw [hB, e]
/-- a row grows by one at most -/
theorem putR_len (is six : Bool) (room : Int) (L : List Itm) (p : Px) (vl : Int) : (putR is six room L p vl).1.length ≤ L.length + 1 := by
 unfold putR
 split
 ·split
  ·simp
  ·unfold putC
   simp only [List.length_append, List.length_cons, List.length_take, List.length_drop]
   split <;> omega
 ·simp
theorem filter_add {α : Type} (f g r : α → Bool) : ∀ (L : List α), (∀ x ∈ L, r x = (f x || g x)) → (∀ x ∈ L, f x = true → g x = false) → (L.filter r).length = (L.filter f).length + (L.filter g).length
 | [], _, _ => rfl
 | x :: L, h1, h2 => by
  have ih := filter_add f g r L (fun y hy => h1 y (by simp [hy])) (fun y hy => h2 y (by simp [hy]))
  have e1 := h1 x (by simp)
  have e2 := h2 x (by simp)
  cases hf : f x
  ·cases hg : g x
   ·rw [hf, hg] at e1
    rw [List.filter_cons_of_neg (by rw [e1]; decide), List.filter_cons_of_neg (by rw [hf]; decide), List.filter_cons_of_neg (by rw [hg]; decide), ih]
   ·rw [hf, hg] at e1
    rw [List.filter_cons_of_pos (by rw [e1]; rfl), List.filter_cons_of_neg (by rw [hf]; decide), List.filter_cons_of_pos (by rw [hg]), List.length_cons, List.length_cons, ih]
    omega
  ·have hg := e2 hf
   rw [hf, hg] at e1
   rw [List.filter_cons_of_pos (by rw [e1]; rfl), List.filter_cons_of_pos (by rw [hf]), List.filter_cons_of_neg (by rw [hg]; decide), List.length_cons, List.length_cons, ih]
   omega
/-- what has to do with a prefix -/
def relB (p : Px) (x : Itm) : Bool := covP x.1 p || covP p x.1
theorem rel_len {s : Bool} {L : List Itm} (h : Lok s L) {p : Px} (hp : p.good) (hs : p.six = s) : (L.filter (relB p)).length = (aboveF L p).length + (belowF L p).length := by
 have hq : chkP p = 0 := (chkP_iff p hp.addr).2 hp
 have e1 : aboveF L p = (L.filter (overB p)).reverse := by unfold aboveF; rw [if_pos hq]
 have e2 : belowF L p = L.filter (underB p) := by unfold belowF; rw [if_pos hq]
 rw [e1, e2, List.length_reverse]
 refine filter_add _ _ _ L (fun x hx => ?_) (fun x hx ho => ?_)
 ·unfold relB overB underB
  by_cases e : x.1 = p
  ·have : covP p x.1 = true := (cov_iff hp (h.good x hx)).2 ⟨by rw [e], by rw [e]; exact List.prefix_refl _⟩
   rw [this]
   simp
  ·rw [decide_eq_false e]
   simp
 ·unfold overB at ho
  unfold underB
  rw [Bool.and_eq_true, Bool.not_eq_true', decide_eq_false_iff_not] at ho
  cases hu : covP p x.1
  ·rfl
  ·exfalso
   have b1 := (cov_iff (h.good x hx) hp).1 ho.1
   have b2 := (cov_iff hp (h.good x hx)).1 hu
   exact ho.2 (good_eq (h.good x hx) hp b1.1 (b1.2.eq_of_length_le b2.2.length_le))
theorem rel_other {s : Bool} {L : List Itm} (h : Lok s L) {p : Px} (hs : p.six ≠ s) : L.filter (relB p) = [] := by
 refine List.filter_eq_nil_iff.2 fun x hx hr => ?_
 have h6 := h.six x hx
 unfold relB covP at hr
 have e1 : (x.1.six == p.six) = false := by
  rw [beq_eq_false_iff_ne, h6]
  exact fun e => hs e.symm
 have e2 : (p.six == x.1.six) = false := by
  rw [beq_eq_false_iff_ne, h6]
  exact hs
 rw [e1, e2] at hr
 simp at hr
end Go.Proofs.Ytdmgomknamdcfaa

/- How a law's arguments are opened: slices of bytes and of numbers, structs and arrays by value. No condition. -/
namespace Go.Proofs.Ytdmgomknamdcfaa
open Go.ChangeShapes Go.WideShapes Go.ChangeAt Go.RowKit
set_option linter.unusedVariables false
set_option maxRecDepth 20000

section
variable {H : Type} {enc : TypeId × Value → H} {P : Program} {w : World} {base : Nat} {spare : Nat → Bool} {held : Bool}

theorem cell_int {t : TypeId} {k : IntKind} {n : Nat} {cs : List Value} (ht : P.underlying t = some (.int k)) (h : ∃ y, DataW.trod enc P w base spare held n t cs = some y) : ∃ x, cs = [.int k x] ∧ (Lit.int k x).wf = true := by
 obtain ⟨y, h⟩ := h
 obtain ⟨x, h1, _, h2⟩ := DataW.trod_int ht h
 exact ⟨x, h1, h2⟩
theorem cell_bool {t : TypeId} {n : Nat} {cs : List Value} (ht : P.underlying t = some .bool) (h : ∃ y, DataW.trod enc P w base spare held n t cs = some y) : ∃ x, cs = [.bool x] := by
 obtain ⟨y, h⟩ := h
 obtain ⟨x, h1, _⟩ := DataW.trod_bool ht h
 exact ⟨x, h1⟩
end
theorem len_cons {l : List Value} {n : Nat} (h : l.length = n + 1) : ∃ a r, l = a :: r ∧ r.length = n := by
 cases l with
 | nil => simp at h
 | cons a r => exact ⟨a, r, rfl, by simpa using h⟩
theorem bd_u8 {x : Int} (h : (Lit.int .u8 x).wf = true) : 0 ≤ x ∧ x ≤ 255 := by simpa [Lit.wf, IntKind.min, IntKind.max, IntKind.signed, IntKind.bits] using h
theorem bd_i64 {x : Int} (h : (Lit.int .i64 x).wf = true) : -9223372036854775808 ≤ x ∧ x ≤ 9223372036854775807 := by simpa [Lit.wf, IntKind.min, IntKind.max, IntKind.signed, IntKind.bits] using h
end Go.Proofs.Ytdmgomknamdcfaa

/- How an array of bytes among a law's arguments is opened. No condition. -/
namespace Go.Proofs.Ytdmgomknamdcfaa
open Go.ChangeShapes Go.WideShapes Go.ChangeAt Go.RowKit
set_option linter.unusedVariables false
set_option maxRecDepth 20000

section
variable {H : Type} {enc : TypeId × Value → H} {P : Program} {w : World} {base : Nat} {spare : Nat → Bool} {held : Bool}
def byteOf : Value → UInt8 | .int _ x => UInt8.ofNat x.toNat | _ => 0
theorem cell_bytes {t e : TypeId} {k n : Nat} {cs : List Value} (ht : P.underlying t = some (.array k e)) (he : P.underlying e = some (.int .u8)) (hc : P.cellsOf e = 1) (hl : P.cellsOf t = k)
  (h : ∃ y, DataW.trod enc P w base spare held n t cs = some y) : ∃ l : List UInt8, cs = bv l ∧ l.length = k := by
 obtain ⟨y, h⟩ := h
 obtain ⟨xs, m, _, _, hcs, hx, hi⟩ := DataW.trod_array ht h
 rw [hl] at hcs
 refine ⟨cs.map byteOf, ?_, by simp [hcs]⟩
 apply List.ext_getElem (by simp [bv])
 intro i h1 h2
 have hik : i < k := by omega
 have hp := hi i hik
 rw [hc, Nat.mul_one, List.drop_eq_getElem_cons h1, List.take_succ_cons, List.take_zero, List.getElem?_eq_getElem (by omega)] at hp
 obtain ⟨x, hv, hw⟩ := cell_int he ⟨_, hp⟩
 have hv' : cs[i] = .int .u8 x := by simpa using hv
 have hb := bd_u8 hw
 simp only [bv, List.getElem_map, hv', byteOf]
 rw [u8_of x hb.1 hb.2]
end
end Go.Proofs.Ytdmgomknamdcfaa

/- How prefixes, addresses and scripts of prefixes among a law's arguments are opened. No condition. -/
namespace Go.Proofs.Ytdmgomknamdcfaa
open Go.ChangeShapes Go.WideShapes Go.ChangeAt Go.RowKit Go.Deep
set_option linter.unusedVariables false
set_option maxRecDepth 20000

theorem cell_px {H : Type} {enc : TypeId × Value → H} {w : World} {base : Nat} {spare : Nat → Bool} {held : Bool} {n : Nat} {cs : List Value} (h : ∃ y, DataW.trod enc Try.prog w base spare held n 30 cs = some y) (hl : cs.length = 18) : ∃ p : Px, cs = p.cells ∧ p.fit := by
 obtain ⟨⟨d, ps⟩, h⟩ := h
 obtain ⟨ys, n', hn', hy, hlen, hyl, hf⟩ := DataW.trod_struct Try.underlying30 h
 have k8 : Try.prog.cellsOf 5 = 1 := by kernel_rfl
 have k3 : Try.prog.cellsOf 3 = 1 := by kernel_rfl
 have kb : Try.prog.cellsOf 4 = 1 := by kernel_rfl
 have k16 : Try.prog.cellsOf 23 = 16 := by kernel_rfl
 have hys : ∀ j, j < 3 → ∃ y, ys[j]? = some y := fun j hj => ⟨_, List.getElem?_eq_getElem (by have h9 : ys.length = 3 := hyl; omega)⟩
 have part : ∀ (j : Nat) f, (#[{ name := "Six", type := 4, offset := 0, embedded := false, tag := "", pkgPath := "", byteOffset := 0 }] : Array Field)[j]? = some f → True := fun _ _ _ => trivial
 obtain ⟨y0, hy0⟩ := hys 0 (by omega)
 obtain ⟨y1, hy1⟩ := hys 1 (by omega)
 obtain ⟨y2, hy2⟩ := hys 2 (by omega)
 have t0 := (hf 0 _ rfl).trans hy0
 have t1 := (hf 1 _ rfl).trans hy1
 have t2 := (hf 2 _ rfl).trans hy2
 obtain ⟨c0, r0, rfl, g1⟩ := len_cons hl
 obtain ⟨x0, e0⟩ := cell_bool Try.underlying4 ⟨_, t0⟩
 obtain ⟨s, e1, l1⟩ := cell_bytes Try.underlying23 Try.underlying5 k8 k16 ⟨_, t1⟩
 obtain ⟨x2, e2, q2⟩ := cell_int Try.underlying3 ⟨_, t2⟩
 obtain rfl : c0 = .bool x0 := by simpa [kb] using e0
 have e1' : r0.take 16 = bv s := by simpa [k16] using e1
 have e2' : (r0.drop 16).take 1 = [.int .i64 x2] := by simpa [k3] using e2
 have hr : r0 = bv s ++ [.int .i64 x2] := by
  have h5 : r0.drop 16 = [.int .i64 x2] := by rw [← e2']; exact (List.take_of_length_le (by simp; omega)).symm
  rw [← e1', ← h5, List.take_append_drop]
 subst hr
 exact ⟨⟨x0, s, x2⟩, rfl, ⟨l1, bd_i64 q2⟩⟩
theorem open_px {H : Type} {enc : TypeId × Value → H} {w : World} {base : Nat} {spare : Nat → Bool} {held : Bool} {r : Reach} {b0 : Nat} {v : Value} {d : DataW H} {ps : List MemPlace}
  (hv : Value.okWide Try.prog w r b0 30 v) (h : DataW.Trod enc Try.prog w base spare held 30 v d ps) : ∃ p : Px, v = .agg p.cells.toArray ∧ p.fit := by
 simp only [Value.okWide, Try.underlying30] at hv
 obtain ⟨cs, rfl, hz, _⟩ := hv
 obtain ⟨fuel, hf⟩ := h
 have hl : cs.size = 18 := by simpa [show Try.prog.cellsOf 30 = 18 by kernel_rfl] using hz
 obtain ⟨p, h1, h2⟩ := cell_px (cs := cs.toList) ⟨_, hf⟩ (by simpa using hl)
 refine ⟨p, ?_, h2⟩
 rw [← h1]
theorem open_a16 {H : Type} {enc : TypeId × Value → H} {w : World} {base : Nat} {spare : Nat → Bool} {held : Bool} {r : Reach} {b0 : Nat} {v : Value} {d : DataW H} {ps : List MemPlace}
  (hv : Value.okWide Try.prog w r b0 23 v) (h : DataW.Trod enc Try.prog w base spare held 23 v d ps) : ∃ l : List UInt8, v = .agg (bv l).toArray ∧ l.length = 16 := by
 simp only [Value.okWide, Try.underlying23] at hv
 obtain ⟨cs, rfl, _⟩ := hv
 obtain ⟨fuel, hf⟩ := h
 obtain ⟨l, h1, h2⟩ := cell_bytes Try.underlying23 Try.underlying5 (by kernel_rfl) (by kernel_rfl) ⟨_, hf⟩
 refine ⟨l, ?_, h2⟩
 rw [← h1]
 simp [Value.cells]
end Go.Proofs.Ytdmgomknamdcfaa

/- How a script of prefixes among a law's arguments is opened. No condition. -/
namespace Go.Proofs.Ytdmgomknamdcfaa
open Go.ChangeShapes Go.WideShapes Go.ChangeAt Go.RowKit Go.Deep
set_option linter.unusedVariables false
set_option maxRecDepth 20000

/-- a step of a script -/
structure St9 where
 kind : Int
 p : Px
 v : Int
def St9.cells (s : St9) : List Value := .int .i64 s.kind :: (s.p.cells ++ [.int .i64 s.v])
structure St9.fit (s : St9) : Prop where
 p : s.p.fit
 kind : -9223372036854775808 ≤ s.kind ∧ s.kind ≤ 9223372036854775807
 v : -9223372036854775808 ≤ s.v ∧ s.v ≤ 9223372036854775807
def sts (L : List St9) : List Value := L.flatMap St9.cells
theorem St9.cells_length (s : St9) (h : s.p.addr.length = 16) : s.cells.length = 20 := by simp [St9.cells, Px.cells_length s.p h]
theorem sts_length (L : List St9) (h : ∀ x ∈ L, x.fit) : (sts L).length = L.length * 20 := by
 induction L with
 | nil => rfl
 | cons x L ih =>
  show (x.cells ++ sts L).length = _
  rw [List.length_append, x.cells_length (h x (by simp)).p.addr, ih (fun y hy => h y (by simp [hy])), List.length_cons]
  omega
theorem sts_cell (L : List St9) (h : ∀ x ∈ L, x.fit) (i : Nat) (x : St9) (hi : L[i]? = some x) (j : Nat) (hj : j < 20) : (sts L)[i * 20 + j]? = x.cells[j]? := by
 induction L generalizing i with
 | nil => simp at hi
 | cons y L ih =>
  have hy := y.cells_length (h y (by simp)).p.addr
  show (y.cells ++ sts L)[i * 20 + j]? = _
  cases i with
  | zero =>
   simp at hi
   subst hi
   rw [Nat.zero_mul, Nat.zero_add, List.getElem?_append_left (by omega)]
  | succ i =>
   rw [List.getElem?_append_right (by omega), hy, show (i + 1) * 20 + j - 20 = i * 20 + j by omega]
   exact ih (fun z hz => h z (by simp [hz])) i (by simpa using hi)
theorem sts_row {w : World} {B n : Nat} {A : Option Addr} {L : List St9} (h : Row w B 20 A n (sts L)) (hL : ∀ x ∈ L, x.fit) : L.length = n := by
 have h1 := h.1
 rw [sts_length L hL] at h1
 omega
/-- where a step lies -/
theorem sts_at {w : World} {B n : Nat} {A : Option Addr} {L : List St9} (h : Row w B 20 A n (sts L)) (hL : ∀ x ∈ L, x.fit) (i : Nat) (x : St9) (hi : L[i]? = some x) :
  ∃ b o, A = some ⟨b, o, none⟩ ∧ b < B ∧ w.rangeAt b (o + i * 20) x.cells := by
 have hn := sts_row h hL
 have hx := hL x (List.mem_of_getElem? hi)
 have hlt := (List.getElem?_eq_some_iff.1 hi).1
 obtain ⟨b, o, rfl, hb, hc⟩ := h.2 (by omega)
 refine ⟨b, o, rfl, hb, fun j v hv => ?_⟩
 have hj : j < 20 := by
  have := (List.getElem?_eq_some_iff.1 hv).1
  rw [x.cells_length hx.p.addr] at this
  exact this
 rw [Nat.add_assoc]
 refine hc _ v ?_
 rw [sts_cell L hL i x hi j hj]
 exact hv
theorem st_px {w : World} {b o : Nat} {x : St9} (h : w.rangeAt b o x.cells) : w.rangeAt b (o + 1) x.p.cells := fun j v hv => by
 rw [Nat.add_assoc]
 refine h (1 + j) v ?_
 unfold St9.cells
 rw [Nat.add_comm, List.getElem?_cons_succ, List.getElem?_append_left (List.getElem?_eq_some_iff.1 hv).1]
 exact hv
theorem st_v {x : St9} (h : x.p.addr.length = 16) : x.cells[19]? = some (.int .i64 x.v) := by
 unfold St9.cells
 rw [List.getElem?_cons_succ, List.getElem?_append_right (by rw [x.p.cells_length h]; omega), x.p.cells_length h]
 rfl
theorem sts_back (L : List St9) (h : ∀ x ∈ L, x.fit) (j : Nat) (u : Value) (hu : (sts L)[j]? = some u) : ∃ i r x, j = i * 20 + r ∧ r < 20 ∧ L[i]? = some x ∧ x.cells[r]? = some u := by
 have hj : j < L.length * 20 := by
  have := (List.getElem?_eq_some_iff.1 hu).1
  rw [sts_length L h] at this
  exact this
 obtain ⟨x, hx⟩ := get_ex L (k := j / 20) (by omega)
 refine ⟨j / 20, j % 20, x, by omega, by omega, hx, ?_⟩
 rw [← sts_cell L h (j / 20) x hx (j % 20) (by omega), ← hu]
 congr 1
 omega
theorem cell_st {H : Type} {enc : TypeId × Value → H} {w : World} {base : Nat} {spare : Nat → Bool} {held : Bool} {n : Nat} {cs : List Value} (h : ∃ y, DataW.trod enc Try.prog w base spare held n 32 cs = some y) (hl : cs.length = 20) : ∃ s : St9, cs = s.cells ∧ s.fit := by
 obtain ⟨⟨d, ps⟩, h⟩ := h
 obtain ⟨ys, n', hn', hy, hlen, hyl, hf⟩ := DataW.trod_struct Try.underlying32 h
 have k3 : Try.prog.cellsOf 3 = 1 := by kernel_rfl
 have kp : Try.prog.cellsOf 30 = 18 := by kernel_rfl
 have hys : ∀ j, j < 3 → ∃ y, ys[j]? = some y := fun j hj => ⟨_, List.getElem?_eq_getElem (by have h9 : ys.length = 3 := hyl; omega)⟩
 obtain ⟨y0, hy0⟩ := hys 0 (by omega)
 obtain ⟨y1, hy1⟩ := hys 1 (by omega)
 obtain ⟨y2, hy2⟩ := hys 2 (by omega)
 have t0 := (hf 0 _ rfl).trans hy0
 have t1 := (hf 1 _ rfl).trans hy1
 have t2 := (hf 2 _ rfl).trans hy2
 obtain ⟨c0, r0, rfl, g1⟩ := len_cons hl
 obtain ⟨x0, e0, q0⟩ := cell_int Try.underlying3 ⟨_, t0⟩
 obtain ⟨x2, e2, q2⟩ := cell_int Try.underlying3 ⟨_, t2⟩
 obtain rfl : c0 = .int .i64 x0 := by simpa [k3] using e0
 have t1' : DataW.trod enc Try.prog w base spare held n' 30 (r0.take 18) = some y1 := by simpa [kp] using t1
 obtain ⟨p, e1, hp⟩ := cell_px ⟨_, t1'⟩ (by simp; omega)
 have e2' : (r0.drop 18).take 1 = [.int .i64 x2] := by simpa [k3] using e2
 have hr : r0 = p.cells ++ [.int .i64 x2] := by
  have h5 : r0.drop 18 = [.int .i64 x2] := by rw [← e2']; exact (List.take_of_length_le (by simp; omega)).symm
  rw [← e1, ← h5, List.take_append_drop]
 subst hr
 exact ⟨⟨x0, p, x2⟩, rfl, ⟨hp, bd_i64 q0, bd_i64 q2⟩⟩
/-- a script as a slice -/
structure Sl9 where
 A : Option Addr
 n : Nat
 c : Nat
 L : List St9
structure Sl9.ok (w : World) (z : Sl9) : Prop where
 row : Row w w.heap.size 20 z.A z.n (sts z.L)
 le : z.n ≤ z.c
 cap : z.c ≤ maxLen
 fit : ∀ x ∈ z.L, x.fit
theorem open_steps {H : Type} {enc : TypeId × Value → H} {w : World} {base : Nat} {spare : Nat → Bool} {held : Bool} {r : Reach} {b0 : Nat} {v : Value} {d : DataW H} {ps : List MemPlace}
  (hv : Value.okWide Try.prog w r b0 22 v) (h : DataW.Trod enc Try.prog w base spare held 22 v d ps) :
  ∃ z : Sl9, v = .slice z.A z.n z.c ∧ z.ok w := by
 obtain ⟨a0, len0, cap0, rfl⟩ := okWide_slice Try.underlying22 hv
 obtain ⟨fuel, hf⟩ := h
 rcases open_slice Try.underlying22 hf with h0 | ⟨a, len, cap, m, n, D, Pl, hcs, hb, hl, hm, hmm, hx, hi⟩
 ·have hcs := h0.1
  simp [Value.cells] at hcs
  obtain ⟨rfl, rfl, rfl⟩ := hcs
  exact ⟨⟨none, 0, 0, []⟩, rfl, ⟨Row.nil _ _ _ _, Nat.le_refl _, Nat.zero_le _, by simp⟩⟩
 ·simp [Value.cells] at hcs
  obtain ⟨rfl, rfl, rfl⟩ := hcs
  have one : ∀ i, i < len0 → ∃ x : St9, x.fit ∧ ∀ j u, x.cells[j]? = some u → w.cell? (a.add (i * 20 + j)) = some u := by
   intro i hil
   have him : i < m := by rw [hmm]; split <;> omega
   obtain ⟨cs', hc, ht'⟩ := hi i him
   rw [show Try.prog.cellsOf 32 = 20 by kernel_rfl] at hc
   obtain ⟨_, hcl, hat⟩ := World.cells?_some hc
   obtain ⟨x, hxc, hxf⟩ := cell_st ⟨_, ht'⟩ (by simpa using hcl)
   refine ⟨x, hxf, fun j u hu => ?_⟩
   have hj : j < 20 := by
    have := (List.getElem?_eq_some_iff.1 hu).1
    rw [x.cells_length hxf.p.addr] at this
    exact this
   rw [← Go.Deep.add_add, hat j hj]
   rw [hxc]; exact hu
  have all : ∀ k, k ≤ len0 → ∃ l : List St9, l.length = k ∧ (∀ x ∈ l, x.fit) ∧ ∀ i x, l[i]? = some x → ∀ j u, x.cells[j]? = some u → w.cell? (a.add (i * 20 + j)) = some u := by
   intro k
   induction k with
   | zero => exact fun _ => ⟨[], rfl, by simp, by simp⟩
   | succ k ih =>
    intro hk
    obtain ⟨l, h1, h2, h3⟩ := ih (by omega)
    obtain ⟨x, hx, hc⟩ := one k (by omega)
    refine ⟨l ++ [x], by simp [h1], ?_, fun i y hy => ?_⟩
    ·intro y hy
     rcases List.mem_append.1 hy with h | h
     ·exact h2 y h
     ·obtain rfl := List.mem_singleton.1 h
      exact hx
    ·rcases Nat.lt_or_ge i l.length with hlt | hge
     ·rw [List.getElem?_append_left hlt] at hy
      exact h3 i y hy
     ·rw [List.getElem?_append_right hge] at hy
      have hi0 : i - l.length = 0 := by
       have := (List.getElem?_eq_some_iff.1 hy).1
       simp at this
       omega
      rw [hi0] at hy
      obtain rfl : x = y := by simpa using hy
      have : i = k := by omega
      subst this
      exact hc
  obtain ⟨L, h1, h2, h3⟩ := all len0 (Nat.le_refl _)
  refine ⟨⟨some a, len0, cap0, L⟩, rfl, ⟨⟨by rw [sts_length L h2, h1], fun hn => ?_⟩, hl, hm, h2⟩⟩
  obtain ⟨b, off, spot⟩ := a
  obtain ⟨x, hx⟩ := get_ex L (k := 0) (by have h9 : 0 < len0 := hn; omega)
  have hc0 := h3 0 x hx 0 _ rfl
  have hspot : spot = none := by simpa [Addr.add] using World.cell?_spot hc0
  subst hspot
  refine ⟨b, off, rfl, World.block_lt_of_cell? w _ (by rw [← hc0]), fun j u hu => ?_⟩
  obtain ⟨i, r, y, rfl, hr, hy, hu'⟩ := sts_back L h2 j u hu
  rw [show (⟨b, off + (i * 20 + r), none⟩ : Addr) = (⟨b, off, none⟩ : Addr).add (i * 20 + r) by unfold Addr.add; split <;> simp_all]
  exact h3 i y hy r u hu'
end Go.Proofs.Ytdmgomknamdcfaa


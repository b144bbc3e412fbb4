/- What is put and deleted again leaves a table as it was; so does what is refused (LpmAgain). No condition but sizes. -/
import Derived.Test.YtbemhcihmlijaaaLaw09u
import Derived.Deep.DeepCutAuto
namespace Go.Proofs.Ytbemhcihmlijaaa
open Go.RowKit
set_option linter.unusedVariables false
set_option maxRecDepth 20000
set_option linter.unusedSimpArgs false

theorem st_at19 {w : World} {b o : Nat} {x : St9} (h : w.rangeAt b o x.cells) (hx : x.p.addr.length = 16) : w.cell? ⟨b, o + 19, none⟩ = some (.int .i64 x.v) := h 19 _ (st_v hx)
theorem chk_bad {p : Px} (h : p.addr.length = 16) (hg : ¬ p.good) : chkP p = 1 := by
 have h0 : ¬ chkP p = 0 := fun e => hg ((chkP_iff p h).1 e)
 unfold chkP at h0 ⊢
 split
 ·rfl
 ·split
  ·rfl
  ·split
   ·rename_i h1 h2 h3
    rw [if_neg h1, if_neg h2, if_pos h3] at h0
    exact absurd rfl h0
   ·rfl
set_option maxHeartbeats 4000000 in
theorem walk_LpmAgain (w : World) (z : Sl9) (hz : z.ok w) (p : Px) (hpf : p.fit) (vl : Int) (hv : -9223372036854775808 ≤ vl ∧ vl ≤ 9223372036854775807) :
  Calls Try.prog 6 #[.slice z.A z.n z.c, .agg p.cells.toArray, .int .i64 vl] w fun e w' => e = .returned (.bool true) ∧ Below w.heap.size w w' := by
 obtain ⟨A, n, c, Sc⟩ := z
 obtain ⟨hr, hle, hcap, hfit⟩ := hz
 simp only at hr hle hcap hfit ⊢
 have HR := Lib.hid hr
 have HF := Lib.hid hfit
 have HLN := Lib.hid (sts_row hr hfit)
 have HPF := Lib.hid hpf
 clear hr hfit hle hcap hpf hv
 go_enter Try.func6, Try.ntmps6
 go_upto_region 1 with (refine wpList_box_blk (by rfl) 30 (.tmp 1) rfl p.cells rfl ?_; intro w1 hb1 hB1 hs1)
 obtain ⟨g4, hg4⟩ : ∃ g, w.heap.size = g := ⟨_, rfl⟩
 have HW1 := Lib.hid hB1
 have h4B : g4 < w1.heap.size := by omega
 have hWB : w.heap.size ≤ w1.heap.size := by omega
 have HWG := Lib.hid (show w.heap.size ≤ g4 by omega)
 rw [hg4] at hb1
 try rw [hg4]
 have H41 := Lib.hid hb1
 obtain ⟨B, hBe⟩ : ∃ g, w1.heap.size = g := ⟨_, rfl⟩
 rw [hBe] at h4B hWB
 have H4B := Lib.hid h4B
 have HWB := Lib.hid hWB
 have HB1 := Lib.hid (show B ≤ w1.heap.size by omega)
 clear hb1 hB1 hs1 hg4 h4B hWB hBe
 go_wp2_with fail
 refine (awake_any w1).mono ?_
 rintro e w2 ⟨rfl, hb⟩
 have HW2 := Lib.hid (bthen HW1.out hb)
 have H42 := Lib.hid (H41.out.on hb)
 have HB2 := Lib.hid (Nat.le_trans HB1.out hb.size)
 clear hb
 by_cases h40 : (40 : Int) < (n : Int)
 ·go_wp2_with fail
  go_ret
  exact ⟨rfl, HW2.out⟩
 ·have HN40 := Lib.hid (show n ≤ 40 by omega)
  have c0 : w2.cell? ⟨g4, 0, none⟩ = some (.bool p.six) := H42.out.cell 0
  go_wp2_with fail
  refine (tnew_O p.six 30 w2).mono ?_
  rintro e w3 ⟨o, rfl, hne, hT, hb⟩
  have i1 : (!o.isNone) = true := by
   cases o with
   | none => exact absurd (hne.1 rfl) (by decide)
   | some g => rfl
  rw [i1] at hT
  have HT3 := Lib.hid hT
  have HB3 := Lib.hid hb
  have HW3 := Lib.hid (bthen HW2.out hb)
  have H43 := Lib.hid (H42.out.on hb)
  clear hT hne hb i1 c0
  have c0 : w3.cell? ⟨g4, 0, none⟩ = some (.bool p.six) := H43.out.cell 0
  go_wp2_with fail
  refine (rnew_any p.six 30 w3).mono ?_
  rintro e w4 ⟨rfl, hb⟩
  rw [show newR p.six 30 = tC true p.six 30 (.slice none 0 0) by unfold newR; rw [if_neg (by decide)]]
  have HT4 := Lib.hid hb
  have HW4 := Lib.hid (bthen HW3.out hb)
  have H44 := Lib.hid (H43.out.on hb)
  clear hb c0
  go_upto_region 8 with (first
   | (refine wpList_alloc_blk (by rfl) 47 rfl tZ zeroT ?_; intro wa hba hBa hsa)
   | (refine wpList_store_all (by rfl) 47 _ _ rfl w4.heap.size (tC true p.six 30 (.slice none 0 0)) rfl rfl 47 _ hba (sizeT _ _ _ _) rfl (oneTs _ _ _ _ _ _) ?_; intro w5 hb5 hg5 hs5))
  have hbb := bgrown hBa hg5 hBa.size (Nat.le_refl _)
  have hs2 := HB2.out
  have hs3 := HB3.out.size
  have hs4 := HT4.out.size
  have hT5 : Two w5 B [w4.heap.size] o true p.six 30 1 [] [] none 0 0 := by
   refine (two_new (w0 := w2) (B := B) (G := []) HT3.out hs2 (by simp)).more (HT4.out.trans (hbb.mono hs4)) ?_
   intro b hb
   rw [List.mem_singleton.1 hb]
   exact .inr hs4
  have hW5 := bthen HW4.out hbb
  have hG9 : B ≤ w4.heap.size := by omega
  have hsb := hbb.size
  have hB5 : B ≤ w5.heap.size := by omega
  obtain ⟨g9, hg9⟩ : ∃ g, w4.heap.size = g := ⟨_, rfl⟩
  rw [hg9] at hb5 hT5 hG9
  try rw [hg9]
  have HT5 := Lib.hid hT5
  have HW5 := Lib.hid hW5
  have H95 := Lib.hid hb5
  have H45 := Lib.hid (H44.out.on hbb)
  have HG9 := Lib.hid hG9
  have HB5 := Lib.hid hB5
  clear hba hBa hsa hb5 hg5 hs5 hbb hs2 hs3 hs4 hT5 hW5 hG9 hsb hB5 hg9
  go_wp2_with fail
  go_loopw [10, 11, 12] (fun i _ _ wr => ∃ (k : Nat) (L : List Itm) (K : Nat) (rA : Option Addr) (rn rc : Nat), k ≤ n ∧ i = .int .i64 (k : Nat) ∧ Two wr B [g9] o true p.six 30 K L L rA rn rc ∧ K ≤ 2 * k + 1 ∧ Blk wr g9 47 (tC true p.six 30 (.slice rA rn rc)) ∧ Blk wr g4 30 p.cells ∧ Below w.heap.size w wr ∧ B ≤ wr.heap.size) (fun i _ _ _ => n - (intOf i).toNat)
  case atStart => exact ⟨0, [], 1, none, 0, 0, by omega, rfl, HT5.out, by omega, H95.out, H45.out, HW5.out, HB5.out⟩
  case round =>
   obtain ⟨k, L, K, rA, rn, rc, hk, rfl, hT, hK, h9, h4, hW, hB⟩ := hrel
   have HT := Lib.hid hT
   have HK := Lib.hid hK
   have H9 := Lib.hid h9
   have H4 := Lib.hid h4
   have HW := Lib.hid hW
   have HB := Lib.hid hB
   clear hT hK h9 h4 hW hB HT5 H95 H45 HW5 HB5 HT3 HT4 HW4 HW3 HW2 HB3 HB2 HW1 H41 H42 H43 H44 HB1
   have HLK := Lib.hid HT.out.lok
   have HLF := Lib.hid (show ∀ x ∈ L, x.1.fit from fun x hx => (HLK.out.good x hx).fit)
   by_cases hlt : k < n
   ·obtain ⟨s, hs⟩ := get_ex Sc (k := k) (by rw [HLN.out]; exact hlt)
    obtain ⟨bA, oA, rfl, hbA, hcA⟩ := sts_at HR.out HF.out k s hs
    have HSF := Lib.hid (HF.out s (List.mem_of_getElem? hs))
    have HBW := Lib.hid hbA
    have HCW := Lib.hid hcA
    have HSR := Lib.hid (range_below HW.out hbA hcA)
    have HBA := Lib.hid (show bA < wr.heap.size from Nat.lt_of_lt_of_le hbA HW.out.size)
    have hlt2 : (k : Int) < (n : Int) := by omega
    have hlt3 : (k : Int) + 1 ≤ (n : Int) := by omega
    have hn40 := HN40.out
    have hk9 : K ≤ 999990 := by have := HK.out; omega
    have HK9 := Lib.hid hk9
    have HRN := Lib.hid (show rn ≤ 65536 by
     have h8 := HT.out.rlen HLF.out
     have h7 := HT.out.len
     have h6 := HK.out
     omega)
    clear hbA hcA hs hk9
    obtain ⟨D, hD⟩ : ∃ x, putR true p.six 30 L s.p s.v = x := ⟨_, rfl⟩
    obtain ⟨L2, E⟩ := D
    have HD := Lib.hid hD
    clear hD
    go_wp2_with fail
    refine wp_region_last 11 (fun A B => A.grownBy B none) (fun A => grown_refl A _) (fun A B C h k => grown_trans h k) (relAt (List.cons (fun v _ => v = ptV o) (List.cons (fun v _ => v = .slice (some ⟨bA, oA, none⟩) n c) (List.cons (fun v _ => v = .int .i64 (k : Nat)) (List.cons (fun v _ => v = .pointer (some ⟨bA, oA + k * 20, none⟩)) (List.cons (fun v _ => v = .pointer (some ⟨bA, oA + k * 20 + 1, none⟩)) (List.cons (fun v _ => v = .agg s.p.cells.toArray) (List.cons (fun v _ => v = .slice (some ⟨bA, oA, none⟩) n c) (List.cons (fun v _ => v = .int .i64 (k : Nat)) (List.cons (fun v _ => v = .pointer (some ⟨bA, oA + k * 20, none⟩)) (List.cons (fun v _ => v = .pointer (some ⟨bA, oA + k * 20 + 19, none⟩)) (List.cons (fun v _ => v = .int .i64 s.v) ([]))))))))))))) (MonoL.at_ (.cons (mono_val _) (.cons (mono_val _) (.cons (mono_val _) (.cons (mono_val _) (.cons (mono_val _) (.cons (mono_val _) (.cons (mono_val _) (.cons (mono_val _) (.cons (mono_val _) (.cons (mono_val _) (.cons (mono_val _) .nil)))))))))))) (by kernel_rfl) (by kernel_rfl) rfl (by kernel_rfl) _ rfl rfl ⟨?_, ?_, ?_, ?_, ?_, ?_, ?_, ?_, ?_, ?_, ?_, trivial⟩ ?_
    ·intro a vs W hX hR he hf K hK
     rw [if_pos (wanted_none rfl)]
     have e8 : a.eval (.tmp 8) = ptV o := hf 8 (by kernel_rfl)
     refine wp_value (v := ptV o) ?_ (hK _ _ rfl (grown_refl W _))
     simp only [execOp, e8]
     try go_simp
    ·intro a vs W hX hR he hf K hK
     rw [if_pos (wanted_none rfl)]
     have e0 : a.eval (.tmp 0) = .slice (some ⟨bA, oA, none⟩) n c := hf 0 (by kernel_rfl)
     refine wp_value (v := .slice (some ⟨bA, oA, none⟩) n c) ?_ (hK _ _ rfl (grown_refl W _))
     simp only [execOp, e0]
     try go_simp
    ·intro a vs W hX hR he hf K hK
     rw [if_pos (wanted_none rfl)]
     have e10 : a.eval (.tmp 10) = .int .i64 (k : Nat) := hf 10 (by kernel_rfl)
     refine wp_value (v := .int .i64 (k : Nat)) ?_ (hK _ _ rfl (grown_refl W _))
     simp only [execOp, e10]
     try go_simp
    ·intro a vs W hX hR he hf K hK
     rw [if_pos (wanted_none rfl)]
     have e39 : a.eval (.tmp 39) = .slice (some ⟨bA, oA, none⟩) n c := (he 1 39 (by kernel_rfl) rfl).trans (hR 1 (by kernel_rfl))
     have e40 : a.eval (.tmp 40) = .int .i64 (k : Nat) := (he 2 40 (by kernel_rfl) rfl).trans (hR 2 (by kernel_rfl))
     refine wp_value (v := .pointer (some ⟨bA, oA + k * 20, none⟩)) ?_ (hK _ _ rfl (grown_refl W _))
     simp only [execOp, e39, e40]
     go_simp
    ·intro a vs W hX hR he hf K hK
     rw [if_pos (wanted_none rfl)]
     have e41 : a.eval (.tmp 41) = .pointer (some ⟨bA, oA + k * 20, none⟩) := (he 3 41 (by kernel_rfl) rfl).trans (hR 3 (by kernel_rfl))
     refine wp_value (v := .pointer (some ⟨bA, oA + k * 20 + 1, none⟩)) ?_ (hK _ _ rfl (grown_refl W _))
     simp only [execOp, e41]
     try go_simp
    ·intro a vs W hX hR he hf K hK
     rw [if_pos (wanted_none rfl)]
     have e42 : a.eval (.tmp 42) = .pointer (some ⟨bA, oA + k * 20 + 1, none⟩) := (he 4 42 (by kernel_rfl) rfl).trans (hR 4 (by kernel_rfl))
     have hbW := bthen (below_drew _) (grow_below hX)
     exact wp_value (exec_load_mid 30 _ rfl bA (oA + k * 20 + 1) e42 s.p.cells _ (range_below hbW HBA.out (st_px HSR.out)) Try.underlying30 rfl (sizePx _ HSF.out.p.addr)) (hK _ _ rfl (grown_refl W _))
    ·intro a vs W hX hR he hf K hK
     rw [if_pos (wanted_none rfl)]
     have e0 : a.eval (.tmp 0) = .slice (some ⟨bA, oA, none⟩) n c := hf 0 (by kernel_rfl)
     refine wp_value (v := .slice (some ⟨bA, oA, none⟩) n c) ?_ (hK _ _ rfl (grown_refl W _))
     simp only [execOp, e0]
     try go_simp
    ·intro a vs W hX hR he hf K hK
     rw [if_pos (wanted_none rfl)]
     have e10 : a.eval (.tmp 10) = .int .i64 (k : Nat) := hf 10 (by kernel_rfl)
     refine wp_value (v := .int .i64 (k : Nat)) ?_ (hK _ _ rfl (grown_refl W _))
     simp only [execOp, e10]
     try go_simp
    ·intro a vs W hX hR he hf K hK
     rw [if_pos (wanted_none rfl)]
     have e44 : a.eval (.tmp 44) = .slice (some ⟨bA, oA, none⟩) n c := (he 6 44 (by kernel_rfl) rfl).trans (hR 6 (by kernel_rfl))
     have e45 : a.eval (.tmp 45) = .int .i64 (k : Nat) := (he 7 45 (by kernel_rfl) rfl).trans (hR 7 (by kernel_rfl))
     refine wp_value (v := .pointer (some ⟨bA, oA + k * 20, none⟩)) ?_ (hK _ _ rfl (grown_refl W _))
     simp only [execOp, e44, e45]
     go_simp
    ·intro a vs W hX hR he hf K hK
     rw [if_pos (wanted_none rfl)]
     have e46 : a.eval (.tmp 46) = .pointer (some ⟨bA, oA + k * 20, none⟩) := (he 8 46 (by kernel_rfl) rfl).trans (hR 8 (by kernel_rfl))
     refine wp_value (v := .pointer (some ⟨bA, oA + k * 20 + 19, none⟩)) ?_ (hK _ _ rfl (grown_refl W _))
     simp only [execOp, e46]
     try go_simp
    ·intro a vs W hX hR he hf K hK
     rw [if_pos (wanted_none rfl)]
     have e47 : a.eval (.tmp 47) = .pointer (some ⟨bA, oA + k * 20 + 19, none⟩) := (he 9 47 (by kernel_rfl) rfl).trans (hR 9 (by kernel_rfl))
     have hbW := bthen (below_drew _) (grow_below hX)
     have hc : W.cell? ⟨bA, oA + k * 20 + 19, none⟩ = some (.int .i64 s.v) := st_at19 (range_below hbW HBA.out HSR.out) HSF.out.p.addr
     refine wp_value (v := _) ?_ (hK _ _ rfl (grown_refl W _))
     simp only [execOp, e47]
     try go_simp
    ·intro vs wx hXx hR
     have q0 := hR 0 (by decide)
     have q1 := hR 1 (by decide)
     have q2 := hR 2 (by decide)
     have q3 := hR 3 (by decide)
     have q4 := hR 4 (by decide)
     have q5 := hR 5 (by decide)
     have q6 := hR 6 (by decide)
     have q7 := hR 7 (by decide)
     have q8 := hR 8 (by decide)
     have q9 := hR 9 (by decide)
     have q10 := hR 10 (by decide)
     change vs 0 = ptV o at q0
     change vs 1 = .slice (some ⟨bA, oA, none⟩) n c at q1
     change vs 2 = .int .i64 (k : Nat) at q2
     change vs 3 = .pointer (some ⟨bA, oA + k * 20, none⟩) at q3
     change vs 4 = .pointer (some ⟨bA, oA + k * 20 + 1, none⟩) at q4
     change vs 5 = .agg s.p.cells.toArray at q5
     change vs 6 = .slice (some ⟨bA, oA, none⟩) n c at q6
     change vs 7 = .int .i64 (k : Nat) at q7
     change vs 8 = .pointer (some ⟨bA, oA + k * 20, none⟩) at q8
     change vs 9 = .pointer (some ⟨bA, oA + k * 20 + 19, none⟩) at q9
     change vs 10 = .int .i64 s.v at q10
     simp only [putAll, Act.put, List.setIfInBounds_toArray, List.set_cons_zero, List.set_cons_succ, List.take_succ_cons, List.take_zero, q0, q1, q2, q3, q4, q5, q6, q7, q8, q9, q10]
     clear q0 q1 q2 q3 q4 q5 q6 q7 q8 q9 q10
     clear hR
     have hbW := bthen (below_drew _) (grow_below hXx)
     have hT9 := two_put (HT.out.on hbW) (Nat.le_trans HB.out hbW.size) (lt_one (Nat.lt_of_lt_of_le H9.out.lt hbW.size)) HK9.out s.p HSF.out.p s.v
     refine wp_enter (f := 11) (args := #[ptV o, .agg s.p.cells.toArray, .int .i64 s.v]) (by simp only [execOp]; go_simp) (hT9.mono ?_)
     rintro e wy ⟨rfl, hTy, hkp⟩
     refine ⟨_, rfl, ?_⟩
     clear hT9
     rw [HD.out] at hTy
     replace HT := Lib.hid hTy
     replace H9 := Lib.hid (hkp.blk (H9.out.on hbW) (fun h => h.2 List.mem_cons_self))
     replace H4 := Lib.hid (hkp.blk (H4.out.on hbW) (fun h => absurd h.1 (Nat.not_le.2 H4B.out)))
     replace HW := Lib.hid ((bthen HW.out hbW).trans (hkp.below (Nat.le_trans HW.out.size hbW.size) (fun x h => Nat.le_trans HWB.out h.1)))
     replace HB := Lib.hid (Nat.le_trans (Nat.le_trans HB.out hbW.size) hkp.size)
     replace HSR := Lib.hid (range_below HW.out HBW.out HCW.out)
     replace HBA := Lib.hid (show bA < wy.heap.size from Nat.lt_of_lt_of_le HBW.out HW.out.size)
     clear hbW hkp hXx hTy
     try simp only [List.getElem_toArray, List.getElem_cons_succ, List.getElem_cons_zero, Act.put, List.setIfInBounds_toArray, List.set_cons_zero, List.set_cons_succ]
     go_wp2_with fail
     refine wp_region_rel2 (ExtG wy.heap.size wy (rA, rn, true, p.six, 30, L2)) (ExtG.refl wy.heap.size wy (rA, rn, true, p.six, 30, L2)) (fun A B C h k => h.trans k) (List.cons (.one (fun v _ => v = .agg (tC true p.six 30 (.slice rA rn rc)).toArray)) (List.cons (.one (fun v _ => v = .slice (some ⟨bA, oA, none⟩) n c)) (List.cons (.one (fun v _ => v = .int .i64 (k : Nat))) (List.cons (.one (fun v _ => v = .pointer (some ⟨bA, oA + k * 20, none⟩))) (List.cons (.one (fun v _ => v = .pointer (some ⟨bA, oA + k * 20 + 1, none⟩))) (List.cons (.one (fun v _ => v = .agg s.p.cells.toArray)) (List.cons (.one (fun v _ => v = .slice (some ⟨bA, oA, none⟩) n c)) (List.cons (.one (fun v _ => v = .int .i64 (k : Nat))) (List.cons (.one (fun v _ => v = .pointer (some ⟨bA, oA + k * 20, none⟩))) (List.cons (.one (fun v _ => v = .pointer (some ⟨bA, oA + k * 20 + 19, none⟩))) (List.cons (.one (fun v _ => v = .int .i64 s.v)) (List.cons (.one (Told4 wy (rA, rn, true, p.six, 30, L2) E)) (List.cons (.one (Told4 wy (rA, rn, true, p.six, 30, L2) E)) (List.cons (.one (Cells4 wy (rA, rn, true, p.six, 30, L2))) (List.cons (.one (fun v _ => v = .int .i64 E)) (List.cons (.one (Room4 wy.heap.size)) (List.cons (.two 15 (fun u _ W => Full4 wy (rA, rn, true, p.six, 30, L2) u W)) (List.cons (.one (fun v _ => v = .int .i64 E)) ([]))))))))))))))))))) ((.cons (fun _ _ _ h _ => h) (.cons (fun _ _ _ h _ => h) (.cons (fun _ _ _ h _ => h) (.cons (fun _ _ _ h _ => h) (.cons (fun _ _ _ h _ => h) (.cons (fun _ _ _ h _ => h) (.cons (fun _ _ _ h _ => h) (.cons (fun _ _ _ h _ => h) (.cons (fun _ _ _ h _ => h) (.cons (fun _ _ _ h _ => h) (.cons (fun _ _ _ h _ => h) (.cons (fun _ _ _ h hx => h.on hx) (.cons (fun _ _ _ h hx => h.on hx) (.cons (fun _ _ _ h hx => h.on hx) (.cons (fun _ _ _ h _ => h) (.cons (fun _ _ _ h hx => h.on hx) (.cons (fun _ _ _ _ h hx => h.on hx) (.cons (fun _ _ _ h _ => h) .nil))))))))))))))))))) (by kernel_rfl) (by kernel_rfl) (by kernel_rfl) ⟨?_, ?_, ?_, ?_, ?_, ?_, ?_, ?_, ?_, ?_, ?_, ?_, ?_, ?_, ?_, ?_, ?_, ?_, trivial⟩ ?_
     ·intro a vs W hX hR he hf K hK
      rw [if_pos (wanted_none rfl)]
      have e9 : a.eval (.tmp 9) = .pointer (some ⟨g9, 0, none⟩) := hf 9 (by kernel_rfl)
      have hbW := bthen (below_drew _) hX.below
      exact wp_value (exec_load 47 _ rfl g9 e9 47 (tC true p.six 30 (.slice rA rn rc)) _ (H9.out.on hbW) Try.underlying47 rfl (sizeT _ _ _ _)) (hK _ _ rfl (ExtG.refl _ _ _ W))
     ·intro a vs W hX hR he hf K hK
      rw [if_pos (wanted_none rfl)]
      have e0 : a.eval (.tmp 0) = .slice (some ⟨bA, oA, none⟩) n c := hf 0 (by kernel_rfl)
      refine wp_value (v := .slice (some ⟨bA, oA, none⟩) n c) ?_ (hK _ _ rfl (ExtG.refl _ _ _ W))
      simp only [execOp, e0]
      try go_simp
     ·intro a vs W hX hR he hf K hK
      rw [if_pos (wanted_none rfl)]
      have e10 : a.eval (.tmp 10) = .int .i64 (k : Nat) := hf 10 (by kernel_rfl)
      refine wp_value (v := .int .i64 (k : Nat)) ?_ (hK _ _ rfl (ExtG.refl _ _ _ W))
      simp only [execOp, e10]
      try go_simp
     ·intro a vs W hX hR he hf K hK
      rw [if_pos (wanted_none rfl)]
      have e52 : a.eval (.tmp 52) = .slice (some ⟨bA, oA, none⟩) n c := (he 1 52 (by kernel_rfl) rfl).trans (hR 1 (by kernel_rfl))
      have e53 : a.eval (.tmp 53) = .int .i64 (k : Nat) := (he 2 53 (by kernel_rfl) rfl).trans (hR 2 (by kernel_rfl))
      refine wp_value (v := .pointer (some ⟨bA, oA + k * 20, none⟩)) ?_ (hK _ _ rfl (ExtG.refl _ _ _ W))
      simp only [execOp, e52, e53]
      go_simp
     ·intro a vs W hX hR he hf K hK
      rw [if_pos (wanted_none rfl)]
      have e54 : a.eval (.tmp 54) = .pointer (some ⟨bA, oA + k * 20, none⟩) := (he 3 54 (by kernel_rfl) rfl).trans (hR 3 (by kernel_rfl))
      refine wp_value (v := .pointer (some ⟨bA, oA + k * 20 + 1, none⟩)) ?_ (hK _ _ rfl (ExtG.refl _ _ _ W))
      simp only [execOp, e54]
      try go_simp
     ·intro a vs W hX hR he hf K hK
      rw [if_pos (wanted_none rfl)]
      have e55 : a.eval (.tmp 55) = .pointer (some ⟨bA, oA + k * 20 + 1, none⟩) := (he 4 55 (by kernel_rfl) rfl).trans (hR 4 (by kernel_rfl))
      have hbW := bthen (below_drew _) hX.below
      exact wp_value (exec_load_mid 30 _ rfl bA (oA + k * 20 + 1) e55 s.p.cells _ (range_below hbW HBA.out (st_px HSR.out)) Try.underlying30 rfl (sizePx _ HSF.out.p.addr)) (hK _ _ rfl (ExtG.refl _ _ _ W))
     ·intro a vs W hX hR he hf K hK
      rw [if_pos (wanted_none rfl)]
      have e0 : a.eval (.tmp 0) = .slice (some ⟨bA, oA, none⟩) n c := hf 0 (by kernel_rfl)
      refine wp_value (v := .slice (some ⟨bA, oA, none⟩) n c) ?_ (hK _ _ rfl (ExtG.refl _ _ _ W))
      simp only [execOp, e0]
      try go_simp
     ·intro a vs W hX hR he hf K hK
      rw [if_pos (wanted_none rfl)]
      have e10 : a.eval (.tmp 10) = .int .i64 (k : Nat) := hf 10 (by kernel_rfl)
      refine wp_value (v := .int .i64 (k : Nat)) ?_ (hK _ _ rfl (ExtG.refl _ _ _ W))
      simp only [execOp, e10]
      try go_simp
     ·intro a vs W hX hR he hf K hK
      rw [if_pos (wanted_none rfl)]
      have e57 : a.eval (.tmp 57) = .slice (some ⟨bA, oA, none⟩) n c := (he 6 57 (by kernel_rfl) rfl).trans (hR 6 (by kernel_rfl))
      have e58 : a.eval (.tmp 58) = .int .i64 (k : Nat) := (he 7 58 (by kernel_rfl) rfl).trans (hR 7 (by kernel_rfl))
      refine wp_value (v := .pointer (some ⟨bA, oA + k * 20, none⟩)) ?_ (hK _ _ rfl (ExtG.refl _ _ _ W))
      simp only [execOp, e57, e58]
      go_simp
     ·intro a vs W hX hR he hf K hK
      rw [if_pos (wanted_none rfl)]
      have e59 : a.eval (.tmp 59) = .pointer (some ⟨bA, oA + k * 20, none⟩) := (he 8 59 (by kernel_rfl) rfl).trans (hR 8 (by kernel_rfl))
      refine wp_value (v := .pointer (some ⟨bA, oA + k * 20 + 19, none⟩)) ?_ (hK _ _ rfl (ExtG.refl _ _ _ W))
      simp only [execOp, e59]
      try go_simp
     ·intro a vs W hX hR he hf K hK
      rw [if_pos (wanted_none rfl)]
      have e60 : a.eval (.tmp 60) = .pointer (some ⟨bA, oA + k * 20 + 19, none⟩) := (he 9 60 (by kernel_rfl) rfl).trans (hR 9 (by kernel_rfl))
      have hbW := bthen (below_drew _) hX.below
      have hc : W.cell? ⟨bA, oA + k * 20 + 19, none⟩ = some (.int .i64 s.v) := st_at19 (range_below hbW HBA.out HSR.out) HSF.out.p.addr
      refine wp_value (v := _) ?_ (hK _ _ rfl (ExtG.refl _ _ _ W))
      simp only [execOp, e60]
      try go_simp
     ·intro a vs W hX hR he hf K hK
      rw [if_pos (wanted_none rfl)]
      have e51 : a.eval (.tmp 51) = .agg (tC true p.six 30 (.slice rA rn rc)).toArray := (he 0 51 (by kernel_rfl) rfl).trans (hR 0 (by kernel_rfl))
      have e56 : a.eval (.tmp 56) = .agg s.p.cells.toArray := (he 5 56 (by kernel_rfl) rfl).trans (hR 5 (by kernel_rfl))
      have e61 : a.eval (.tmp 61) = .int .i64 s.v := (he 10 61 (by kernel_rfl) rfl).trans (hR 10 (by kernel_rfl))
      have hbW := bthen (below_drew _) hX.below
      have hrw := (HT.out.on hbW).row
      refine wp_enter (f := 23) (args := #[.agg (tC true p.six 30 (.slice rA rn rc)).toArray, .agg s.p.cells.toArray, .int .i64 s.v]) (by simp only [execOp, e51, e56, e61]; go_simp; exact ⟨by simpa [Act.eval] using e51, by simpa [Act.eval] using e56, by simpa [Act.eval] using e61⟩) ((rput_any true p.six 30 L HLF.out rA rn rc HRN.out HT.out.cap s.p s.v HSF.out.p W hrw).mono ?_)
      rintro e w' ⟨A', n', c', rfl, hr', hc', hb', hN'⟩
      rw [HD.out] at hr' ⊢
      exact ⟨_, rfl, hK _ _ ⟨_, rfl, A', n', c', rfl, hr', hc', hN'.back hbW.size⟩ (ExtG.of hX.below.size hb')⟩
     ·intro a vs W hX hR he hf K hK
      rw [if_pos (wanted_none rfl)]
      have e62 := he 11 62 (by kernel_rfl) rfl
      have p62 := hR 11 (by kernel_rfl)
      change (Told4 wy (rA, rn, true, p.six, 30, L2) E) (vs 11) W at p62
      refine wp_value (v := _) ?_ (hK _ _ p62 (ExtG.refl _ _ _ W))
      simp only [execOp, e62]
      try go_simp
     ·intro a vs W hX hR he hf K hK
      rw [if_pos (wanted_none rfl)]
      have e50 := he 12 50 (by kernel_rfl) rfl
      have p50 := hR 12 (by kernel_rfl)
      change (Told4 wy (rA, rn, true, p.six, 30, L2) E) (vs 12) W at p50
      obtain ⟨cs, h1, h2⟩ := p50
      rw [h1] at e50
      refine wp_value (v := .agg cs.toArray) ?_ (hK _ _ ⟨cs, rfl, h2⟩ (ExtG.refl _ _ _ W))
      simp only [execOp, e50]
      go_simp
     ·intro a vs W hX hR he hf K hK
      rw [if_pos (wanted_none rfl)]
      have e50 := he 12 50 (by kernel_rfl) rfl
      have p50 := hR 12 (by kernel_rfl)
      change (Told4 wy (rA, rn, true, p.six, 30, L2) E) (vs 12) W at p50
      obtain ⟨cs, h1, h2⟩ := p50
      rw [h1] at e50
      refine wp_value (v := .int .i64 E) ?_ (hK _ _ rfl (ExtG.refl _ _ _ W))
      simp only [execOp, e50]
      go_simp
     ·intro a vs W hX hR he hf K hK
      rw [if_pos (wanted_none rfl)]
      refine wp_alloc_blk 47 rfl tZ zeroT ?_
      intro g w' hbg hb' hs' hgs
      exact hK _ _ ⟨g, rfl, by rw [hgs]; exact hX.below.size, tZ, hbg, rfl⟩ (ExtG.of hX.below.size hb')
     ·intro a vs W hX hR he hf K hK
      rw [if_pos (wanted_none rfl)]
      have e11 := he 15 11 (by kernel_rfl) rfl
      have p11 := hR 15 (by kernel_rfl)
      change (Room4 wy.heap.size) (vs 15) W at p11
      have e63 := he 13 63 (by kernel_rfl) rfl
      have p63 := hR 13 (by kernel_rfl)
      change (Cells4 wy (rA, rn, true, p.six, 30, L2)) (vs 13) W at p63
      obtain ⟨g, hg1, hg2, cs0, hg3, hg4⟩ := p11
      obtain ⟨cs, h1, h2⟩ := p63
      rw [hg1] at e11
      rw [h1] at e63
      refine wp_store_all 47 _ _ rfl g cs e11 e63 47 cs0 hg3 h2.info (by rw [h2.len, hg4]) h2.one ?_
      intro w' hb' hg' hs'
      have h9 := fill4 hg2 hX.below.size hg3 hg4 hb' hg' h2
      exact hK _ _ ⟨g, hg1, cs, hb', h9.1⟩ h9.2
     ·intro a vs W hX hR he hf K hK
      rw [if_pos (wanted_none rfl)]
      have e64 : a.eval (.tmp 64) = .int .i64 E := (he 14 64 (by kernel_rfl) rfl).trans (hR 14 (by kernel_rfl))
      refine wp_value (v := .int .i64 E) ?_ (hK _ _ rfl (ExtG.refl _ _ _ W))
      simp only [execOp, e64]
      try go_simp
     ·intro vs wx hXx hR
      have q0 := hR 0 (by decide)
      have q1 := hR 1 (by decide)
      have q2 := hR 2 (by decide)
      have q3 := hR 3 (by decide)
      have q4 := hR 4 (by decide)
      have q5 := hR 5 (by decide)
      have q6 := hR 6 (by decide)
      have q7 := hR 7 (by decide)
      have q8 := hR 8 (by decide)
      have q9 := hR 9 (by decide)
      have q10 := hR 10 (by decide)
      have q11 := hR 11 (by decide)
      have q12 := hR 12 (by decide)
      have q13 := hR 13 (by decide)
      have q14 := hR 14 (by decide)
      have q15 := hR 15 (by decide)
      have q16 := hR 16 (by decide)
      have q17 := hR 17 (by decide)
      change vs 0 = .agg (tC true p.six 30 (.slice rA rn rc)).toArray at q0
      change vs 1 = .slice (some ⟨bA, oA, none⟩) n c at q1
      change vs 2 = .int .i64 (k : Nat) at q2
      change vs 3 = .pointer (some ⟨bA, oA + k * 20, none⟩) at q3
      change vs 4 = .pointer (some ⟨bA, oA + k * 20 + 1, none⟩) at q4
      change vs 5 = .agg s.p.cells.toArray at q5
      change vs 6 = .slice (some ⟨bA, oA, none⟩) n c at q6
      change vs 7 = .int .i64 (k : Nat) at q7
      change vs 8 = .pointer (some ⟨bA, oA + k * 20, none⟩) at q8
      change vs 9 = .pointer (some ⟨bA, oA + k * 20 + 19, none⟩) at q9
      change vs 10 = .int .i64 s.v at q10
      change (Told4 wy (rA, rn, true, p.six, 30, L2) E) (vs 11) wx at q11
      change (Told4 wy (rA, rn, true, p.six, 30, L2) E) (vs 12) wx at q12
      change (Cells4 wy (rA, rn, true, p.six, 30, L2)) (vs 13) wx at q13
      change vs 14 = .int .i64 E at q14
      change (Room4 wy.heap.size) (vs 15) wx at q15
      change (fun u _ W => Full4 wy (rA, rn, true, p.six, 30, L2) u W) (vs 15) (vs 16) wx at q16
      change vs 17 = .int .i64 E at q17
      simp only [putAll, Act.put, List.setIfInBounds_toArray, List.set_cons_zero, List.set_cons_succ, q0, q1, q2, q3, q4, q5, q6, q7, q8, q9, q10, q14, q17]
      clear q0 q1 q2 q3 q4 q5 q6 q7 q8 q9 q10 q14 q17
      clear hR
      have hbW := bthen (below_drew _) hXx.below
      obtain ⟨g11, hq1, cs, hq2, A2, n2, c2, hq3, hq4, hq5, hq6⟩ := q16
      rw [hq1]
      simp only at hq3 hq4 hq6
      subst hq3
      have hTx := two_row HT.out (lt_one H9.out.lt) hbW hq4 hq5 hq6
      replace HT := Lib.hid hTx
      replace H9 := Lib.hid (H9.out.on hbW)
      replace H4 := Lib.hid (H4.out.on hbW)
      replace HW := Lib.hid (bthen HW.out hbW)
      replace HB := Lib.hid (Nat.le_trans HB.out hbW.size)
      have H11 := Lib.hid hq2
      clear hTx hq1 hq2 hq4 hq5 hq6 q15 q11 q12 q13 hXx hbW
      go_upto_region 10 with (first
       | (refine wpList_value (by rfl) (exec_load 47 _ rfl g11 (by rfl) 47 (tC true p.six 30 (.slice A2 n2 c2)) _ H11.out Try.underlying47 rfl (sizeT _ _ _ _)) ?_)
       | (refine wpList_store_all (by rfl) 47 _ _ rfl g9 (tC true p.six 30 (.slice A2 n2 c2)) rfl rfl 47 _ H9.out (sizeT _ _ _ _) rfl (oneTs _ _ _ _ _ _) ?_; intro w8 hb8 hg8 hs8))
      have hk8 : Kept (fun b => b = g9) wx w8 := Kept.of_grown hg8 (fun k h => by injection h with h; exact h.symm)
      replace HT := Lib.hid (HT.out.store List.mem_cons_self hk8)
      replace H9 := Lib.hid hb8
      replace H4 := Lib.hid (hk8.blk H4.out (fun h => by have := HG9.out; have := H4B.out; omega))
      replace HW := Lib.hid (HW.out.trans (hk8.below HW.out.size (fun x h => by rw [h]; exact Nat.le_trans HWB.out HG9.out)))
      replace HB := Lib.hid (Nat.le_trans HB.out hk8.size)
      clear hb8 hg8 hs8 hk8 H11
      go_wp2_with fail
      go_roundw
      case rel => exact ⟨k + 1, L2, K + 2, A2, n2, c2, by omega, by simp, HT.out, by have := HK.out; omega, H9.out, H4.out, HW.out, HB.out⟩
      case measure => simp [intOf]; omega
   ·obtain rfl : k = n := by omega
    have hk9 : K ≤ 999990 := by have := HK.out; have := HN40.out; omega
    have HK9 := Lib.hid hk9
    have h1000 : (L.length : Int) ≤ 1000 := by have := HT.out.len; have := HK.out; have := HN40.out; omega
    have HL1 := Lib.hid h1000
    clear hk9 h1000
    go_wp2_with (refine wpList_value (by rfl) (exec_load 30 _ rfl g4 (by rfl) 30 p.cells _ H4.out Try.underlying30 rfl (sizePx _ HPF.out.addr)) ?_)
    refine (two_get HT.out p HPF.out).mono ?_
    rintro e w6 ⟨rfl, hb⟩
    replace HT := Lib.hid (HT.out.on hb)
    replace H9 := Lib.hid (H9.out.on hb)
    replace H4 := Lib.hid (H4.out.on hb)
    replace HW := Lib.hid (bthen HW.out hb)
    replace HB := Lib.hid (Nat.le_trans HB.out hb.size)
    clear hb
    cases hh : hasC L p
    ·have HH := Lib.hid hh
     clear hh
     go_wp2_with (refine wpList_value (by rfl) (exec_load 30 _ rfl g4 (by rfl) 30 p.cells _ H4.out Try.underlying30 rfl (sizePx _ HPF.out.addr)) ?_)
     refine (two_put HT.out HB.out (lt_one H9.out.lt) HK9.out p HPF.out vl).mono ?_
     rintro e w7 ⟨rfl, hT, hkp⟩
     replace H9 := Lib.hid (hkp.blk H9.out (fun h => h.2 List.mem_cons_self))
     replace H4 := Lib.hid (hkp.blk H4.out (fun h => absurd h.1 (Nat.not_le.2 H4B.out)))
     replace HW := Lib.hid (HW.out.trans (hkp.below HW.out.size (fun x h => Nat.le_trans HWB.out h.1)))
     replace HB := Lib.hid (Nat.le_trans HB.out hkp.size)
     clear hkp
     by_cases hg : p.good
     ·have hg6 : p.good ∧ p.six = p.six := ⟨hg, rfl⟩
      have hp0 : hasP L p = false := by rw [← hasC_same HLK.out HPF.out.addr rfl]; exact HH.out
      by_cases hfull : (L.length : Int) = 30
      ·rw [show putR true p.six 30 L p vl = (L, 30) by unfold putR; rw [if_pos ((okR_iff HPF.out.addr).2 hg6), if_pos ⟨HH.out, hfull⟩]] at hT ⊢
       replace HT := Lib.hid hT
       have HFU := Lib.hid hfull
       clear hT hg hg6 hp0 hfull
       go_wp2_with (refine wpList_value (by rfl) (exec_load 47 _ rfl g9 (by rfl) 47 (tC true p.six 30 (.slice rA rn rc)) _ H9.out Try.underlying47 rfl (sizeT _ _ _ _)) ?_)
       refine (two_same HT.out (by have := HK9.out; have := HK.out; have := HN40.out; omega) true p.six 30).mono ?_
       rintro e w8 ⟨rfl, hb⟩
       replace HT := Lib.hid (HT.out.on hb)
       replace H9 := Lib.hid (H9.out.on hb)
       replace H4 := Lib.hid (H4.out.on hb)
       replace HW := Lib.hid (bthen HW.out hb)
       replace HB := Lib.hid (Nat.le_trans HB.out hb.size)
       clear hb
       go_wp2_with fail
       refine (two_len HT.out).mono ?_
       rintro e w9 ⟨rfl, rfl⟩
       rw [HFU.out]
       go_wp2_with fail
       go_ret
       exact ⟨rfl, HW.out⟩
      ·obtain ⟨k1, k2, k3, k4⟩ := del_put HLK.out hg rfl hp0 vl
       rw [put_good HLK.out hfull hg6 vl] at hT ⊢
       replace HT := Lib.hid hT
       have e1 : getC (putP L p vl) p = vl ∧ hasC (putP L p vl) p = true := by
        have h9 := getC_same k1 HPF.out.addr rfl
        rw [h9] at k3
        exact ⟨k3, (hasC_same k1 HPF.out.addr rfl).trans k2⟩
       have e2 : delR true p.six (putP L p vl) p = (L, 0) := by
        unfold delR
        rw [if_pos ((okR_iff HPF.out.addr).2 hg6), e1.2, if_pos rfl, delC_same k1 HPF.out.addr rfl, k4]
       have e3 : delR true p.six L p = (L, 31) := by
        unfold delR
        rw [if_pos ((okR_iff HPF.out.addr).2 hg6), HH.out, if_neg (by simp)]
       have E1 := Lib.hid e1
       have E2 := Lib.hid e2
       have E3 := Lib.hid e3
       clear hT hg hg6 hp0 hfull k1 k2 k3 k4 e1 e2 e3
       obtain ⟨M, hM⟩ : ∃ M, putP L p vl = M := ⟨_, rfl⟩
       rw [hM] at HT E1 E2
       clear hM
       go_wp2_with (refine wpList_value (by rfl) (exec_load 30 _ rfl g4 (by rfl) 30 p.cells _ H4.out Try.underlying30 rfl (sizePx _ HPF.out.addr)) ?_)
       refine (two_get HT.out p HPF.out).mono ?_
       rintro e w8 ⟨rfl, hb⟩
       rw [E1.out.1, E1.out.2]
       replace HT := Lib.hid (HT.out.on hb)
       replace H9 := Lib.hid (H9.out.on hb)
       replace H4 := Lib.hid (H4.out.on hb)
       replace HW := Lib.hid (bthen HW.out hb)
       replace HB := Lib.hid (Nat.le_trans HB.out hb.size)
       clear hb
       go_wp2_with (refine wpList_value (by rfl) (exec_load 30 _ rfl g4 (by rfl) 30 p.cells _ H4.out Try.underlying30 rfl (sizePx _ HPF.out.addr)) ?_)
       refine (two_del HT.out HB.out (lt_one H9.out.lt) (by have := HK9.out; have := HK.out; have := HN40.out; omega) p HPF.out).mono ?_
       rintro e w9 ⟨rfl, hT, hkp⟩
       rw [E2.out] at hT ⊢
       replace HT := Lib.hid hT
       replace H9 := Lib.hid (hkp.blk H9.out (fun h => h.2 List.mem_cons_self))
       replace H4 := Lib.hid (hkp.blk H4.out (fun h => absurd h.1 (Nat.not_le.2 H4B.out)))
       replace HW := Lib.hid (HW.out.trans (hkp.below HW.out.size (fun x h => Nat.le_trans HWB.out h.1)))
       replace HB := Lib.hid (Nat.le_trans HB.out hkp.size)
       clear hkp hT
       go_wp2_with (refine wpList_value (by rfl) (exec_load 30 _ rfl g4 (by rfl) 30 p.cells _ H4.out Try.underlying30 rfl (sizePx _ HPF.out.addr)) ?_)
       refine (two_del HT.out HB.out (lt_one H9.out.lt) (by have := HK9.out; have := HK.out; have := HN40.out; omega) p HPF.out).mono ?_
       rintro e w10 ⟨rfl, hT, hkp⟩
       rw [E3.out] at hT ⊢
       replace HT := Lib.hid hT
       replace H9 := Lib.hid (hkp.blk H9.out (fun h => h.2 List.mem_cons_self))
       replace H4 := Lib.hid (hkp.blk H4.out (fun h => absurd h.1 (Nat.not_le.2 H4B.out)))
       replace HW := Lib.hid (HW.out.trans (hkp.below HW.out.size (fun x h => Nat.le_trans HWB.out h.1)))
       replace HB := Lib.hid (Nat.le_trans HB.out hkp.size)
       clear hkp hT
       go_wp2_with (refine wpList_value (by rfl) (exec_load 47 _ rfl g9 (by rfl) 47 (tC true p.six 30 (.slice rA rn rc)) _ H9.out Try.underlying47 rfl (sizeT _ _ _ _)) ?_)
       refine (two_same HT.out (by have := HK9.out; have := HK.out; have := HN40.out; omega) true p.six 30).mono ?_
       rintro e w11 ⟨rfl, hb⟩
       replace HT := Lib.hid (HT.out.on hb)
       replace H9 := Lib.hid (H9.out.on hb)
       replace H4 := Lib.hid (H4.out.on hb)
       replace HW := Lib.hid (bthen HW.out hb)
       replace HB := Lib.hid (Nat.le_trans HB.out hb.size)
       clear hb
       go_wp2_with fail
       go_ret
       exact ⟨rfl, HW.out⟩
     ·rw [put_bad HPF.out.addr (fun e => hg e.1) vl] at hT ⊢
      replace HT := Lib.hid hT
      have HCH := Lib.hid (chk_bad HPF.out.addr hg)
      clear hT hg
      go_wp2_with (refine wpList_value (by rfl) (exec_load 47 _ rfl g9 (by rfl) 47 (tC true p.six 30 (.slice rA rn rc)) _ H9.out Try.underlying47 rfl (sizeT _ _ _ _)) ?_)
      refine (two_same HT.out (by have := HK9.out; have := HK.out; have := HN40.out; omega) true p.six 30).mono ?_
      rintro e w8 ⟨rfl, hb⟩
      replace HT := Lib.hid (HT.out.on hb)
      replace H9 := Lib.hid (H9.out.on hb)
      replace H4 := Lib.hid (H4.out.on hb)
      replace HW := Lib.hid (bthen HW.out hb)
      replace HB := Lib.hid (Nat.le_trans HB.out hb.size)
      clear hb
      go_wp2_with (refine wpList_value (by rfl) (exec_load 30 _ rfl g4 (by rfl) 30 p.cells _ H4.out Try.underlying30 rfl (sizePx _ HPF.out.addr)) ?_)
      refine (rcheck_any p HPF.out w8).mono ?_
      rintro e w9 ⟨rfl, hb⟩
      rw [HCH.out]
      replace HW := Lib.hid (bthen HW.out hb)
      clear hb
      go_wp2_with fail
      go_ret
      exact ⟨rfl, HW.out⟩
    ·clear hh
     go_wp2_with (refine wpList_value (by rfl) (exec_load 47 _ rfl g9 (by rfl) 47 (tC true p.six 30 (.slice rA rn rc)) _ H9.out Try.underlying47 rfl (sizeT _ _ _ _)) ?_)
     refine (two_same HT.out HK9.out true p.six 30).mono ?_
     rintro e w7 ⟨rfl, hb⟩
     replace HW := Lib.hid (bthen HW.out hb)
     clear hb
     go_wp2_with fail
     go_ret
     exact ⟨rfl, HW.out⟩
end Go.Proofs.Ytbemhcihmlijaaa

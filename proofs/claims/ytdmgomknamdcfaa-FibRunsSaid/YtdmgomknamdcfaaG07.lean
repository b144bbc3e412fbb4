/- Texts of this claim put together, in build order: each one's own remark stands ahead of it. -/
import Derived.Test.YtdmgomknamdcfaaG02
import Derived.Test.YtdmgomknamdcfaaG06
import Derived.Stop.BytesEq
import Derived.Laws.StructEq
/- What prefix.Has, Check, Of and Covers (layer 8) compute. No condition but sizes. -/
namespace Go.Proofs.Ytdmgomknamdcfaa
open Go.RowKit
set_option linter.unusedVariables false
set_option maxRecDepth 20000
set_option linter.unusedSimpArgs false

theorem exec_eqA16 {w : World} {o : Oper} {c : Act} (x y : Operand) (ty : TypeId) (ho : o.op = .binOp .eql 23 x y ty) (s t : List UInt8) (hs : s.length = 16) (ht : t.length = 16) (r : Bool) (hr : (s == t) = r) (hx : c.eval x = .agg (bv s).toArray) (hy : c.eval y = .agg (bv t).toArray) : (execOp c.eval o).run Try.prog w = .ok (.value (.bool r)) w := by
 have h1 := run_equalIn_bytes (P := Try.prog) w 9998 23 5 16 Try.underlying23 Try.underlying5 (fun w => by kernel_rfl) s t hs ht
 have h2 : (Op.equalIn 10000 23 (.agg (bv s).toArray) (.agg (bv t).toArray)).run Try.prog w = .ok r w := by rw [← hr]; exact h1
 unfold execOp
 simp only [ho, hx, hy, Sem.run_bind, run_eqGuard_agg w .eql 23 x y _ _ (show Try.prog.eqGuardType Try.prog.depth 23 = false by kernel_rfl), run_eql_struct, h2, Result.andThen_ok]
 rfl
theorem exec_neA16 {w : World} {o : Oper} {c : Act} (x y : Operand) (ty : TypeId) (ho : o.op = .binOp .neq 23 x y ty) (s t : List UInt8) (hs : s.length = 16) (ht : t.length = 16) (r : Bool) (hr : (s == t) = r) (hx : c.eval x = .agg (bv s).toArray) (hy : c.eval y = .agg (bv t).toArray) : (execOp c.eval o).run Try.prog w = .ok (.value (.bool (!r))) w := by
 have h1 := run_equalIn_bytes (P := Try.prog) w 9998 23 5 16 Try.underlying23 Try.underlying5 (fun w => by kernel_rfl) s t hs ht
 have h2 : (Op.equalIn 10000 23 (.agg (bv s).toArray) (.agg (bv t).toArray)).run Try.prog w = .ok r w := by rw [← hr]; exact h1
 unfold execOp
 simp only [ho, hx, hy, Sem.run_bind, run_eqGuard_agg w .neq 23 x y _ _ (show Try.prog.eqGuardType Try.prog.depth 23 = false by kernel_rfl), run_neq_struct, h2, Result.andThen_ok]
 rfl
theorem Px.get_len (p : Px) (h : p.addr.length = 16) : p.cells[17]? = some (.int .i64 p.len) := by
 unfold Px.cells
 rw [show (17 : Nat) = 16 + 1 from rfl, List.getElem?_cons_succ, List.getElem?_append_right (by rw [bv_length, h]; omega), bv_length, h]
 rfl
theorem Px.drop_addr (p : Px) (h : p.addr.length = 16) : (p.cells.drop 1).take 16 = bv p.addr := by
 unfold Px.cells
 rw [List.drop_succ_cons, List.drop_zero]
 exact List.take_left' (by rw [bv_length, h])
theorem Px.cells_length (p : Px) (h : p.addr.length = 16) : p.cells.length = 18 := by simp [Px.cells, bv_length, h]
theorem sizePx (p : Px) (h : p.addr.length = 16) : (Try.prog.info? 30).map (·.size) = some p.cells.length := by rw [p.cells_length h]; kernel_rfl
theorem onePx (p : Px) : ∀ v ∈ p.cells, v.oneCell' = true := by
 intro v hv
 unfold Px.cells at hv
 rcases List.mem_cons.1 hv with rfl | hv
 ·rfl
 rcases List.mem_append.1 hv with hv | hv
 ·exact bv_one _ v hv
 obtain rfl := List.mem_singleton.1 hv
 rfl
/-- a prefix as it lies in memory: sixteen bytes, a length of a machine's -/
structure Px.fit (p : Px) : Prop where
 addr : p.addr.length = 16
 len : -9223372036854775808 ≤ p.len ∧ p.len ≤ 9223372036854775807
theorem hasA_beq (p : Px) (a : List UInt8) : (firstF p.addr p.len.toNat == firstF a p.len.toNat) = hasA p a := by
 unfold hasA
 by_cases h : firstF p.addr p.len.toNat = firstF a p.len.toNat
 ·rw [decide_eq_true h]; simpa using h
 rw [decide_eq_false h]; simpa using h
set_option maxHeartbeats 1000000 in
theorem has_any (p : Px) (hf : p.fit) (ad : List UInt8) (ha : ad.length = 16) (w : World) :
  Calls Try.prog 56 #[.agg p.cells.toArray, .agg (bv ad).toArray] w fun e w' => e = .returned (.bool (hasA p ad)) ∧ Below w.heap.size w w' := by
 have HF := Hh hf
 have HAL := Hh ha
 clear hf ha
 go_enter Try.func56, Try.ntmps56
 go_upto_region 1 with (first
  | (refine wpList_box_blk (by rfl) 30 (.tmp 0) rfl p.cells rfl ?_; intro w1 hb1 hB1 hs1; clear hs1)
  | (refine wpList_box_blk (by rfl) 23 (.tmp 1) rfl (bv ad) rfl ?_; intro w2 hb2 hB2 hs2; clear hs2))
 obtain ⟨g0, hg0⟩ : ∃ g, w.heap.size = g := ⟨_, rfl⟩
 obtain ⟨g1, hg1⟩ : ∃ g, w1.heap.size = g := ⟨_, rfl⟩
 have hk0 := hb1.on hB2
 rw [hg0] at hk0
 rw [hg1] at hb2
 try rw [hg0]
 try rw [hg1]
 have HP := Hh hk0
 have HA := Hh hb2
 have HW := Hh (bthen hB1 hB2)
 clear hb1 hB1 hb2 hB2 hk0 hg0 hg1
 refine wp_region_rel (fun A B => A.grownBy B none) (fun A => grown_refl A _) (fun A B C h k => grown_trans h k) (relAt (eqs [.pointer (some ⟨g0, 1, none⟩), .agg (bv p.addr).toArray, .pointer (some ⟨g0, 17, none⟩), .int .i64 p.len, .agg (bv (firstF p.addr p.len.toNat)).toArray, .agg (bv ad).toArray, .pointer (some ⟨g0, 17, none⟩), .int .i64 p.len, .agg (bv (firstF ad p.len.toNat)).toArray, .bool (hasA p ad), .bool (hasA p ad)])) (MonoL.at_ (eqs_mono _)) (by kernel_rfl) (by kernel_rfl) ⟨?_, ?_, ?_, ?_, ?_, ?_, ?_, ?_, ?_, ?_, ?_, trivial⟩ ?_
 ·intro a vs W hX hR he hf K hK
  refine wn rfl ?_
  have e2 : a.eval (.tmp 2) = .pointer (some ⟨g0, 0, none⟩) := hf 2 (by kernel_rfl)
  refine wV hK rfl ?_
  simp only [execOp, e2]
  try go_simp
 ·intro a vs W hX hR he hf K hK
  refine wn rfl ?_
  have e5 : a.eval (.tmp 5) = .pointer (some ⟨g0, 1, none⟩) := eH he hR 0 (by kernel_rfl) rfl
  have hbW := bthen (below_drew _) (grow_below hX)
  have hr := (HP.out.on hbW).range 1 16
  rw [p.drop_addr HF.out.addr] at hr
  exact wp_value (exec_load_mid 23 _ rfl g0 1 e5 _ _ hr Try.underlying23 rfl (size16 _ HF.out.addr)) (gK hK rfl)
 ·intro a vs W hX hR he hf K hK
  refine wn rfl ?_
  have e2 : a.eval (.tmp 2) = .pointer (some ⟨g0, 0, none⟩) := hf 2 (by kernel_rfl)
  refine wV hK rfl ?_
  simp only [execOp, e2]
  try go_simp
 ·intro a vs W hX hR he hf K hK
  refine wn rfl ?_
  have e7 : a.eval (.tmp 7) = .pointer (some ⟨g0, 17, none⟩) := eH he hR 2 (by kernel_rfl) rfl
  have hbW := bthen (below_drew _) (grow_below hX)
  have hc : W.cell? ⟨g0, 17, none⟩ = some (.int .i64 p.len) := ((HP.out.on hbW).cell 17).trans (p.get_len HF.out.addr)
  refine wV hK rfl ?_
  simp only [execOp, e7]
  try go_simp
 ·intro a vs W hX hR he hf K hK
  refine wn rfl ?_
  have e6 : a.eval (.tmp 6) = .agg (bv p.addr).toArray := eH he hR 1 (by kernel_rfl) rfl
  have e8 : a.eval (.tmp 8) = .int .i64 p.len := eH he hR 3 (by kernel_rfl) rfl
  refine wp_enter (f := 60) (args := #[.agg (bv p.addr).toArray, .int .i64 p.len]) (by simp only [execOp, e6, e8]; go_simp; exact ⟨by simpa [Act.eval] using e6, by simpa [Act.eval] using e8⟩) ((first_any p.addr HF.out.addr p.len HF.out.len.1 HF.out.len.2 W).mono ?_)
  rintro e w' ⟨rfl, hb⟩
  exact ⟨_, rfl, hK _ _ rfl (below_grow hb _)⟩
 ·intro a vs W hX hR he hf K hK
  refine wn rfl ?_
  have e3 : a.eval (.tmp 3) = .pointer (some ⟨g1, 0, none⟩) := hf 3 (by kernel_rfl)
  have hbW := bthen (below_drew _) (grow_below hX)
  exact wp_value (exec_load 23 _ rfl g1 e3 23 (bv ad) _ (HA.out.on hbW) Try.underlying23 rfl (size16 _ HAL.out)) (gK hK rfl)
 ·intro a vs W hX hR he hf K hK
  refine wn rfl ?_
  have e2 : a.eval (.tmp 2) = .pointer (some ⟨g0, 0, none⟩) := hf 2 (by kernel_rfl)
  refine wV hK rfl ?_
  simp only [execOp, e2]
  try go_simp
 ·intro a vs W hX hR he hf K hK
  refine wn rfl ?_
  have e11 : a.eval (.tmp 11) = .pointer (some ⟨g0, 17, none⟩) := eH he hR 6 (by kernel_rfl) rfl
  have hbW := bthen (below_drew _) (grow_below hX)
  have hc : W.cell? ⟨g0, 17, none⟩ = some (.int .i64 p.len) := ((HP.out.on hbW).cell 17).trans (p.get_len HF.out.addr)
  refine wV hK rfl ?_
  simp only [execOp, e11]
  try go_simp
 ·intro a vs W hX hR he hf K hK
  refine wn rfl ?_
  have e10 : a.eval (.tmp 10) = .agg (bv ad).toArray := eH he hR 5 (by kernel_rfl) rfl
  have e12 : a.eval (.tmp 12) = .int .i64 p.len := eH he hR 7 (by kernel_rfl) rfl
  refine wp_enter (f := 60) (args := #[.agg (bv ad).toArray, .int .i64 p.len]) (by simp only [execOp, e10, e12]; go_simp; exact ⟨by simpa [Act.eval] using e10, by simpa [Act.eval] using e12⟩) ((first_any ad HAL.out p.len HF.out.len.1 HF.out.len.2 W).mono ?_)
  rintro e w' ⟨rfl, hb⟩
  exact ⟨_, rfl, hK _ _ rfl (below_grow hb _)⟩
 ·intro a vs W hX hR he hf K hK
  refine wn rfl ?_
  have e9 : a.eval (.tmp 9) = .agg (bv (firstF p.addr p.len.toNat)).toArray := eH he hR 4 (by kernel_rfl) rfl
  have e13 : a.eval (.tmp 13) = .agg (bv (firstF ad p.len.toNat)).toArray := eH he hR 8 (by kernel_rfl) rfl
  exact wp_value (exec_eqA16 _ _ _ rfl _ _ (by rw [firstF_length]; exact HF.out.addr) (by rw [firstF_length]; exact HAL.out) _ (hasA_beq p ad) e9 e13) (gK hK rfl)
 ·intro a vs W hX hR he hf K hK
  refine wn rfl ?_
  have e14 : a.eval (.tmp 14) = .bool (hasA p ad) := eH he hR 9 (by kernel_rfl) rfl
  refine wV hK rfl ?_
  simp only [execOp, e14]
  try go_simp
 intro vs wx hXx hR
 rw [put_eqs hR rfl]
 simp only [putL, Act.put, List.setIfInBounds_toArray, List.set_cons_zero, List.set_cons_succ]
 clear hR
 have hbx := bthen HW.out (bthen (below_drew _) (grow_below hXx))
 clear hXx
 go_wp2_with fail
 go_ret
 exact ⟨rfl, hbx⟩
/-- whether a prefix may be -/
def chkP (p : Px) : Int := if p.len < 0 then 1 else if (mostF p.six : Int) < p.len then 1 else if firstF p.addr p.len.toNat = p.addr then 0 else 1
theorem chkP_iff (p : Px) (h : p.addr.length = 16) : chkP p = 0 ↔ p.good := by
 unfold chkP
 constructor
 ·intro e
  split at e
  ·cases e
  split at e
  ·cases e
  split at e
  ·rename_i h1 h2 h3
   exact ⟨h, by omega, by omega, h3⟩
  cases e
 intro g
 have h1 := g.ge
 have h2 := g.le
 rw [if_neg (by omega), if_neg (by omega), if_pos g.zero]
set_option maxHeartbeats 1000000 in
theorem check_any (p : Px) (hf : p.fit) (w : World) :
  Calls Try.prog 36 #[.agg p.cells.toArray] w fun e w' => e = .returned (.int .i64 (chkP p)) ∧ Below w.heap.size w w' := by
 have HF := Hh hf
 clear hf
 by_cases h1 : p.len < 0
 ·have HC := Hh (show chkP p = 1 by unfold chkP; rw [if_pos h1])
  go_enter Try.func36, Try.ntmps36
  go_upto_region 1 with (refine wpList_box_blk (by rfl) 30 (.tmp 0) rfl p.cells rfl ?_; intro w1 hb1 hB1 hs1; clear hs1)
  obtain ⟨g0, hg0⟩ : ∃ g, w.heap.size = g := ⟨_, rfl⟩
  rw [hg0] at hb1
  try rw [hg0]
  have HP := Hh hb1
  have HW := Hh hB1
  clear hb1 hB1 hg0
  refine wp_region_rel (fun A B => A.grownBy B none) (fun A => grown_refl A _) (fun A B C h k => grown_trans h k) (relAt (eqs [.pointer (some ⟨g0, 17, none⟩), .int .i64 p.len, .bool true, .bool true, undef, undef, undef, undef, undef, undef, .bool true, .bool true, undef, undef, undef, undef, undef, undef, undef, undef, .bool true])) (MonoL.at_ (eqs_mono _)) (by kernel_rfl) (by kernel_rfl) ⟨?_, ?_, ?_, ?_, ?_, ?_, ?_, ?_, ?_, ?_, ?_, ?_, ?_, ?_, ?_, ?_, ?_, ?_, ?_, ?_, ?_, trivial⟩ ?_
  ·intro a vs W hX hR he hf K hK
   refine wn rfl ?_
   have e1 : a.eval (.tmp 1) = .pointer (some ⟨g0, 0, none⟩) := hf 1 (by kernel_rfl)
   refine wV hK rfl ?_
   simp only [execOp, e1]
   try go_simp
  ·intro a vs W hX hR he hf K hK
   refine wn rfl ?_
   have e3 : a.eval (.tmp 3) = .pointer (some ⟨g0, 17, none⟩) := eH he hR 0 (by kernel_rfl) rfl
   have hbW := bthen (below_drew _) (grow_below hX)
   have hc : W.cell? ⟨g0, 17, none⟩ = some (.int .i64 p.len) := ((HP.out.on hbW).cell 17).trans (p.get_len HF.out.addr)
   refine wV hK rfl ?_
   simp only [execOp, e3]
   try go_simp
  ·intro a vs W hX hR he hf K hK
   refine wn rfl ?_
   have e4 : a.eval (.tmp 4) = .int .i64 p.len := eH he hR 1 (by kernel_rfl) rfl
   refine wV hK rfl ?_
   simp only [execOp, e4]
   try go_simp
  ·intro a vs W hX hR he hf K hK
   refine wn rfl ?_
   have e5 : a.eval (.tmp 5) = .bool true := eH he hR 2 (by kernel_rfl) rfl
   refine wV hK rfl ?_
   simp only [execOp, e5]
   try go_simp
  ·intro a vs W hX hR he hf K hK
   have e6 : a.eval (.tmp 6) = .bool true := eH he hR 3 (by kernel_rfl) rfl
   exact gN e6 rfl rfl rfl (gK hK rfl)
  ·intro a vs W hX hR he hf K hK
   have e6 : a.eval (.tmp 6) = .bool true := eH he hR 3 (by kernel_rfl) rfl
   exact gN e6 rfl rfl rfl (gK hK rfl)
  ·intro a vs W hX hR he hf K hK
   have e6 : a.eval (.tmp 6) = .bool true := eH he hR 3 (by kernel_rfl) rfl
   exact gN e6 rfl rfl rfl (gK hK rfl)
  ·intro a vs W hX hR he hf K hK
   have e6 : a.eval (.tmp 6) = .bool true := eH he hR 3 (by kernel_rfl) rfl
   exact gN e6 rfl rfl rfl (gK hK rfl)
  ·intro a vs W hX hR he hf K hK
   have e6 : a.eval (.tmp 6) = .bool true := eH he hR 3 (by kernel_rfl) rfl
   exact gN e6 rfl rfl rfl (gK hK rfl)
  ·intro a vs W hX hR he hf K hK
   have e6 : a.eval (.tmp 6) = .bool true := eH he hR 3 (by kernel_rfl) rfl
   exact gN e6 rfl rfl rfl (gK hK rfl)
  ·intro a vs W hX hR he hf K hK
   refine wn rfl ?_
   have e6 : a.eval (.tmp 6) = .bool true := eH he hR 3 (by kernel_rfl) rfl
   have e12 : a.eval (.tmp 12) = undef := eH he hR 9 (by kernel_rfl) rfl
   refine wV hK rfl ?_
   simp only [execOp, e6, e12]
   try go_simp
  ·intro a vs W hX hR he hf K hK
   refine wn rfl ?_
   have e13 : a.eval (.tmp 13) = .bool true := eH he hR 10 (by kernel_rfl) rfl
   refine wV hK rfl ?_
   simp only [execOp, e13]
   try go_simp
  ·intro a vs W hX hR he hf K hK
   have e14 : a.eval (.tmp 14) = .bool true := eH he hR 11 (by kernel_rfl) rfl
   exact gN e14 rfl rfl rfl (gK hK rfl)
  ·intro a vs W hX hR he hf K hK
   have e14 : a.eval (.tmp 14) = .bool true := eH he hR 11 (by kernel_rfl) rfl
   exact gN e14 rfl rfl rfl (gK hK rfl)
  ·intro a vs W hX hR he hf K hK
   have e14 : a.eval (.tmp 14) = .bool true := eH he hR 11 (by kernel_rfl) rfl
   exact gN e14 rfl rfl rfl (gK hK rfl)
  ·intro a vs W hX hR he hf K hK
   have e14 : a.eval (.tmp 14) = .bool true := eH he hR 11 (by kernel_rfl) rfl
   exact gN e14 rfl rfl rfl (gK hK rfl)
  ·intro a vs W hX hR he hf K hK
   have e14 : a.eval (.tmp 14) = .bool true := eH he hR 11 (by kernel_rfl) rfl
   exact gN e14 rfl rfl rfl (gK hK rfl)
  ·intro a vs W hX hR he hf K hK
   have e14 : a.eval (.tmp 14) = .bool true := eH he hR 11 (by kernel_rfl) rfl
   exact gN e14 rfl rfl rfl (gK hK rfl)
  ·intro a vs W hX hR he hf K hK
   have e14 : a.eval (.tmp 14) = .bool true := eH he hR 11 (by kernel_rfl) rfl
   exact gN e14 rfl rfl rfl (gK hK rfl)
  ·intro a vs W hX hR he hf K hK
   have e14 : a.eval (.tmp 14) = .bool true := eH he hR 11 (by kernel_rfl) rfl
   exact gN e14 rfl rfl rfl (gK hK rfl)
  ·intro a vs W hX hR he hf K hK
   refine wn rfl ?_
   have e14 : a.eval (.tmp 14) = .bool true := eH he hR 11 (by kernel_rfl) rfl
   have e22 : a.eval (.tmp 22) = undef := eH he hR 19 (by kernel_rfl) rfl
   refine wV hK rfl ?_
   simp only [execOp, e14, e22]
   try go_simp
  intro vs wx hXx hR
  rw [put_eqs hR rfl]
  simp only [putL, Act.put, List.setIfInBounds_toArray, List.set_cons_zero, List.set_cons_succ]
  clear hR
  have hbx := bthen HW.out (bthen (below_drew _) (grow_below hXx))
  clear hXx
  go_wp2_with fail
  go_ret
  exact ⟨by rw [HC.out]; rfl, hbx⟩
 by_cases h2 : (mostF p.six : Int) < p.len
 ·have HC := Hh (show chkP p = 1 by unfold chkP; rw [if_neg h1, if_pos h2])
  go_enter Try.func36, Try.ntmps36
  go_upto_region 1 with (refine wpList_box_blk (by rfl) 30 (.tmp 0) rfl p.cells rfl ?_; intro w1 hb1 hB1 hs1; clear hs1)
  obtain ⟨g0, hg0⟩ : ∃ g, w.heap.size = g := ⟨_, rfl⟩
  rw [hg0] at hb1
  try rw [hg0]
  have HP := Hh hb1
  have HW := Hh hB1
  clear hb1 hB1 hg0
  refine wp_region_rel (fun A B => A.grownBy B none) (fun A => grown_refl A _) (fun A B C h k => grown_trans h k) (relAt (eqs [.pointer (some ⟨g0, 17, none⟩), .int .i64 p.len, .bool false, .bool false, .pointer (some ⟨g0, 17, none⟩), .int .i64 p.len, .pointer (some ⟨g0, 0, none⟩), .bool p.six, .int .i64 ((mostF p.six : Nat) : Int), .bool true, .bool true, .bool true, undef, undef, undef, undef, undef, undef, undef, undef, .bool true])) (MonoL.at_ (eqs_mono _)) (by kernel_rfl) (by kernel_rfl) ⟨?_, ?_, ?_, ?_, ?_, ?_, ?_, ?_, ?_, ?_, ?_, ?_, ?_, ?_, ?_, ?_, ?_, ?_, ?_, ?_, ?_, trivial⟩ ?_
  ·intro a vs W hX hR he hf K hK
   refine wn rfl ?_
   have e1 : a.eval (.tmp 1) = .pointer (some ⟨g0, 0, none⟩) := hf 1 (by kernel_rfl)
   refine wV hK rfl ?_
   simp only [execOp, e1]
   try go_simp
  ·intro a vs W hX hR he hf K hK
   refine wn rfl ?_
   have e3 : a.eval (.tmp 3) = .pointer (some ⟨g0, 17, none⟩) := eH he hR 0 (by kernel_rfl) rfl
   have hbW := bthen (below_drew _) (grow_below hX)
   have hc : W.cell? ⟨g0, 17, none⟩ = some (.int .i64 p.len) := ((HP.out.on hbW).cell 17).trans (p.get_len HF.out.addr)
   refine wV hK rfl ?_
   simp only [execOp, e3]
   try go_simp
  ·intro a vs W hX hR he hf K hK
   refine wn rfl ?_
   have e4 : a.eval (.tmp 4) = .int .i64 p.len := eH he hR 1 (by kernel_rfl) rfl
   refine wV hK rfl ?_
   simp only [execOp, e4]
   try go_simp
  ·intro a vs W hX hR he hf K hK
   refine wn rfl ?_
   have e5 : a.eval (.tmp 5) = .bool false := eH he hR 2 (by kernel_rfl) rfl
   refine wV hK rfl ?_
   simp only [execOp, e5]
   try go_simp
  ·intro a vs W hX hR he hf K hK
   have e6 : a.eval (.tmp 6) = .bool false := eH he hR 3 (by kernel_rfl) rfl
   refine gT e6 rfl rfl rfl ?_
   have e1 : a.eval (.tmp 1) = .pointer (some ⟨g0, 0, none⟩) := hf 1 (by kernel_rfl)
   refine wV hK rfl ?_
   simp only [execOp, e1]
   try go_simp
  ·intro a vs W hX hR he hf K hK
   have e6 : a.eval (.tmp 6) = .bool false := eH he hR 3 (by kernel_rfl) rfl
   refine gT e6 rfl rfl rfl ?_
   have e7 : a.eval (.tmp 7) = .pointer (some ⟨g0, 17, none⟩) := eH he hR 4 (by kernel_rfl) rfl
   have hbW := bthen (below_drew _) (grow_below hX)
   have hc : W.cell? ⟨g0, 17, none⟩ = some (.int .i64 p.len) := ((HP.out.on hbW).cell 17).trans (p.get_len HF.out.addr)
   refine wV hK rfl ?_
   simp only [execOp, e7]
   try go_simp
  ·intro a vs W hX hR he hf K hK
   have e6 : a.eval (.tmp 6) = .bool false := eH he hR 3 (by kernel_rfl) rfl
   refine gT e6 rfl rfl rfl ?_
   have e1 : a.eval (.tmp 1) = .pointer (some ⟨g0, 0, none⟩) := hf 1 (by kernel_rfl)
   refine wV hK rfl ?_
   simp only [execOp, e1]
   try go_simp
  ·intro a vs W hX hR he hf K hK
   have e6 : a.eval (.tmp 6) = .bool false := eH he hR 3 (by kernel_rfl) rfl
   refine gT e6 rfl rfl rfl ?_
   have e9 : a.eval (.tmp 9) = .pointer (some ⟨g0, 0, none⟩) := eH he hR 6 (by kernel_rfl) rfl
   have hbW := bthen (below_drew _) (grow_below hX)
   have hc : W.cell? ⟨g0, 0, none⟩ = some (.bool p.six) := ((HP.out.on hbW).cell 0).trans (rfl : p.cells[0]? = some (.bool p.six))
   refine wV hK rfl ?_
   simp only [execOp, e9]
   try go_simp
  ·intro a vs W hX hR he hf K hK
   have e6 : a.eval (.tmp 6) = .bool false := eH he hR 3 (by kernel_rfl) rfl
   refine gT e6 rfl rfl rfl ?_
   have e10 : a.eval (.tmp 10) = .bool p.six := eH he hR 7 (by kernel_rfl) rfl
   refine wp_enter (f := 59) (args := #[.bool p.six]) (by simp only [execOp, e10]; go_simp; simpa [Act.eval] using e10) ((most_any p.six W).mono ?_)
   rintro e w' ⟨rfl, rfl⟩
   exact ⟨_, rfl, hK _ _ rfl (grown_refl W _)⟩
  ·intro a vs W hX hR he hf K hK
   have e6 : a.eval (.tmp 6) = .bool false := eH he hR 3 (by kernel_rfl) rfl
   refine gT e6 rfl rfl rfl ?_
   have e8 : a.eval (.tmp 8) = .int .i64 p.len := eH he hR 5 (by kernel_rfl) rfl
   have e11 : a.eval (.tmp 11) = .int .i64 ((mostF p.six : Nat) : Int) := eH he hR 8 (by kernel_rfl) rfl
   refine wV hK rfl ?_
   simp only [execOp, e8, e11]
   try go_simp
  ·intro a vs W hX hR he hf K hK
   refine wn rfl ?_
   have e6 : a.eval (.tmp 6) = .bool false := eH he hR 3 (by kernel_rfl) rfl
   have e12 : a.eval (.tmp 12) = .bool true := eH he hR 9 (by kernel_rfl) rfl
   refine wV hK rfl ?_
   simp only [execOp, e6, e12]
   try go_simp
  ·intro a vs W hX hR he hf K hK
   refine wn rfl ?_
   have e13 : a.eval (.tmp 13) = .bool true := eH he hR 10 (by kernel_rfl) rfl
   refine wV hK rfl ?_
   simp only [execOp, e13]
   try go_simp
  ·intro a vs W hX hR he hf K hK
   have e14 : a.eval (.tmp 14) = .bool true := eH he hR 11 (by kernel_rfl) rfl
   exact gN e14 rfl rfl rfl (gK hK rfl)
  ·intro a vs W hX hR he hf K hK
   have e14 : a.eval (.tmp 14) = .bool true := eH he hR 11 (by kernel_rfl) rfl
   exact gN e14 rfl rfl rfl (gK hK rfl)
  ·intro a vs W hX hR he hf K hK
   have e14 : a.eval (.tmp 14) = .bool true := eH he hR 11 (by kernel_rfl) rfl
   exact gN e14 rfl rfl rfl (gK hK rfl)
  ·intro a vs W hX hR he hf K hK
   have e14 : a.eval (.tmp 14) = .bool true := eH he hR 11 (by kernel_rfl) rfl
   exact gN e14 rfl rfl rfl (gK hK rfl)
  ·intro a vs W hX hR he hf K hK
   have e14 : a.eval (.tmp 14) = .bool true := eH he hR 11 (by kernel_rfl) rfl
   exact gN e14 rfl rfl rfl (gK hK rfl)
  ·intro a vs W hX hR he hf K hK
   have e14 : a.eval (.tmp 14) = .bool true := eH he hR 11 (by kernel_rfl) rfl
   exact gN e14 rfl rfl rfl (gK hK rfl)
  ·intro a vs W hX hR he hf K hK
   have e14 : a.eval (.tmp 14) = .bool true := eH he hR 11 (by kernel_rfl) rfl
   exact gN e14 rfl rfl rfl (gK hK rfl)
  ·intro a vs W hX hR he hf K hK
   have e14 : a.eval (.tmp 14) = .bool true := eH he hR 11 (by kernel_rfl) rfl
   exact gN e14 rfl rfl rfl (gK hK rfl)
  ·intro a vs W hX hR he hf K hK
   refine wn rfl ?_
   have e14 : a.eval (.tmp 14) = .bool true := eH he hR 11 (by kernel_rfl) rfl
   have e22 : a.eval (.tmp 22) = undef := eH he hR 19 (by kernel_rfl) rfl
   refine wV hK rfl ?_
   simp only [execOp, e14, e22]
   try go_simp
  intro vs wx hXx hR
  rw [put_eqs hR rfl]
  simp only [putL, Act.put, List.setIfInBounds_toArray, List.set_cons_zero, List.set_cons_succ]
  clear hR
  have hbx := bthen HW.out (bthen (below_drew _) (grow_below hXx))
  clear hXx
  go_wp2_with fail
  go_ret
  exact ⟨by rw [HC.out]; rfl, hbx⟩
 by_cases h3 : firstF p.addr p.len.toNat = p.addr
 ·have HC := Hh (show chkP p = 0 by unfold chkP; rw [if_neg h1, if_neg h2, if_pos h3])
  have HQ := Hh (show (firstF p.addr p.len.toNat == p.addr) = true by simpa using h3)
  clear h3
  go_enter Try.func36, Try.ntmps36
  go_upto_region 1 with (refine wpList_box_blk (by rfl) 30 (.tmp 0) rfl p.cells rfl ?_; intro w1 hb1 hB1 hs1; clear hs1)
  obtain ⟨g0, hg0⟩ : ∃ g, w.heap.size = g := ⟨_, rfl⟩
  rw [hg0] at hb1
  try rw [hg0]
  have HP := Hh hb1
  have HW := Hh hB1
  clear hb1 hB1 hg0
  refine wp_region_rel (fun A B => A.grownBy B none) (fun A => grown_refl A _) (fun A B C h k => grown_trans h k) (relAt (eqs [.pointer (some ⟨g0, 17, none⟩), .int .i64 p.len, .bool false, .bool false, .pointer (some ⟨g0, 17, none⟩), .int .i64 p.len, .pointer (some ⟨g0, 0, none⟩), .bool p.six, .int .i64 ((mostF p.six : Nat) : Int), .bool false, .bool false, .bool false, .pointer (some ⟨g0, 1, none⟩), .agg (bv p.addr).toArray, .pointer (some ⟨g0, 17, none⟩), .int .i64 p.len, .agg (bv (firstF p.addr p.len.toNat)).toArray, .pointer (some ⟨g0, 1, none⟩), .agg (bv p.addr).toArray, .bool false, .bool false])) (MonoL.at_ (eqs_mono _)) (by kernel_rfl) (by kernel_rfl) ⟨?_, ?_, ?_, ?_, ?_, ?_, ?_, ?_, ?_, ?_, ?_, ?_, ?_, ?_, ?_, ?_, ?_, ?_, ?_, ?_, ?_, trivial⟩ ?_
  ·intro a vs W hX hR he hf K hK
   refine wn rfl ?_
   have e1 : a.eval (.tmp 1) = .pointer (some ⟨g0, 0, none⟩) := hf 1 (by kernel_rfl)
   refine wV hK rfl ?_
   simp only [execOp, e1]
   try go_simp
  ·intro a vs W hX hR he hf K hK
   refine wn rfl ?_
   have e3 : a.eval (.tmp 3) = .pointer (some ⟨g0, 17, none⟩) := eH he hR 0 (by kernel_rfl) rfl
   have hbW := bthen (below_drew _) (grow_below hX)
   have hc : W.cell? ⟨g0, 17, none⟩ = some (.int .i64 p.len) := ((HP.out.on hbW).cell 17).trans (p.get_len HF.out.addr)
   refine wV hK rfl ?_
   simp only [execOp, e3]
   try go_simp
  ·intro a vs W hX hR he hf K hK
   refine wn rfl ?_
   have e4 : a.eval (.tmp 4) = .int .i64 p.len := eH he hR 1 (by kernel_rfl) rfl
   refine wV hK rfl ?_
   simp only [execOp, e4]
   try go_simp
  ·intro a vs W hX hR he hf K hK
   refine wn rfl ?_
   have e5 : a.eval (.tmp 5) = .bool false := eH he hR 2 (by kernel_rfl) rfl
   refine wV hK rfl ?_
   simp only [execOp, e5]
   try go_simp
  ·intro a vs W hX hR he hf K hK
   have e6 : a.eval (.tmp 6) = .bool false := eH he hR 3 (by kernel_rfl) rfl
   refine gT e6 rfl rfl rfl ?_
   have e1 : a.eval (.tmp 1) = .pointer (some ⟨g0, 0, none⟩) := hf 1 (by kernel_rfl)
   refine wV hK rfl ?_
   simp only [execOp, e1]
   try go_simp
  ·intro a vs W hX hR he hf K hK
   have e6 : a.eval (.tmp 6) = .bool false := eH he hR 3 (by kernel_rfl) rfl
   refine gT e6 rfl rfl rfl ?_
   have e7 : a.eval (.tmp 7) = .pointer (some ⟨g0, 17, none⟩) := eH he hR 4 (by kernel_rfl) rfl
   have hbW := bthen (below_drew _) (grow_below hX)
   have hc : W.cell? ⟨g0, 17, none⟩ = some (.int .i64 p.len) := ((HP.out.on hbW).cell 17).trans (p.get_len HF.out.addr)
   refine wV hK rfl ?_
   simp only [execOp, e7]
   try go_simp
  ·intro a vs W hX hR he hf K hK
   have e6 : a.eval (.tmp 6) = .bool false := eH he hR 3 (by kernel_rfl) rfl
   refine gT e6 rfl rfl rfl ?_
   have e1 : a.eval (.tmp 1) = .pointer (some ⟨g0, 0, none⟩) := hf 1 (by kernel_rfl)
   refine wV hK rfl ?_
   simp only [execOp, e1]
   try go_simp
  ·intro a vs W hX hR he hf K hK
   have e6 : a.eval (.tmp 6) = .bool false := eH he hR 3 (by kernel_rfl) rfl
   refine gT e6 rfl rfl rfl ?_
   have e9 : a.eval (.tmp 9) = .pointer (some ⟨g0, 0, none⟩) := eH he hR 6 (by kernel_rfl) rfl
   have hbW := bthen (below_drew _) (grow_below hX)
   have hc : W.cell? ⟨g0, 0, none⟩ = some (.bool p.six) := ((HP.out.on hbW).cell 0).trans (rfl : p.cells[0]? = some (.bool p.six))
   refine wV hK rfl ?_
   simp only [execOp, e9]
   try go_simp
  ·intro a vs W hX hR he hf K hK
   have e6 : a.eval (.tmp 6) = .bool false := eH he hR 3 (by kernel_rfl) rfl
   refine gT e6 rfl rfl rfl ?_
   have e10 : a.eval (.tmp 10) = .bool p.six := eH he hR 7 (by kernel_rfl) rfl
   refine wp_enter (f := 59) (args := #[.bool p.six]) (by simp only [execOp, e10]; go_simp; simpa [Act.eval] using e10) ((most_any p.six W).mono ?_)
   rintro e w' ⟨rfl, rfl⟩
   exact ⟨_, rfl, hK _ _ rfl (grown_refl W _)⟩
  ·intro a vs W hX hR he hf K hK
   have e6 : a.eval (.tmp 6) = .bool false := eH he hR 3 (by kernel_rfl) rfl
   refine gT e6 rfl rfl rfl ?_
   have e8 : a.eval (.tmp 8) = .int .i64 p.len := eH he hR 5 (by kernel_rfl) rfl
   have e11 : a.eval (.tmp 11) = .int .i64 ((mostF p.six : Nat) : Int) := eH he hR 8 (by kernel_rfl) rfl
   refine wV hK rfl ?_
   simp only [execOp, e8, e11]
   try go_simp
  ·intro a vs W hX hR he hf K hK
   refine wn rfl ?_
   have e6 : a.eval (.tmp 6) = .bool false := eH he hR 3 (by kernel_rfl) rfl
   have e12 : a.eval (.tmp 12) = .bool false := eH he hR 9 (by kernel_rfl) rfl
   refine wV hK rfl ?_
   simp only [execOp, e6, e12]
   try go_simp
  ·intro a vs W hX hR he hf K hK
   refine wn rfl ?_
   have e13 : a.eval (.tmp 13) = .bool false := eH he hR 10 (by kernel_rfl) rfl
   refine wV hK rfl ?_
   simp only [execOp, e13]
   try go_simp
  ·intro a vs W hX hR he hf K hK
   have e14 : a.eval (.tmp 14) = .bool false := eH he hR 11 (by kernel_rfl) rfl
   refine gT e14 rfl rfl rfl ?_
   have e1 : a.eval (.tmp 1) = .pointer (some ⟨g0, 0, none⟩) := hf 1 (by kernel_rfl)
   refine wV hK rfl ?_
   simp only [execOp, e1]
   try go_simp
  ·intro a vs W hX hR he hf K hK
   have e14 : a.eval (.tmp 14) = .bool false := eH he hR 11 (by kernel_rfl) rfl
   refine gT e14 rfl rfl rfl ?_
   have e15 : a.eval (.tmp 15) = .pointer (some ⟨g0, 1, none⟩) := eH he hR 12 (by kernel_rfl) rfl
   have hbW := bthen (below_drew _) (grow_below hX)
   have hr := (HP.out.on hbW).range 1 16
   rw [p.drop_addr HF.out.addr] at hr
   exact wp_value (exec_load_mid 23 _ rfl g0 1 e15 _ _ hr Try.underlying23 rfl (size16 _ HF.out.addr)) (gK hK rfl)
  ·intro a vs W hX hR he hf K hK
   have e14 : a.eval (.tmp 14) = .bool false := eH he hR 11 (by kernel_rfl) rfl
   refine gT e14 rfl rfl rfl ?_
   have e1 : a.eval (.tmp 1) = .pointer (some ⟨g0, 0, none⟩) := hf 1 (by kernel_rfl)
   refine wV hK rfl ?_
   simp only [execOp, e1]
   try go_simp
  ·intro a vs W hX hR he hf K hK
   have e14 : a.eval (.tmp 14) = .bool false := eH he hR 11 (by kernel_rfl) rfl
   refine gT e14 rfl rfl rfl ?_
   have e17 : a.eval (.tmp 17) = .pointer (some ⟨g0, 17, none⟩) := eH he hR 14 (by kernel_rfl) rfl
   have hbW := bthen (below_drew _) (grow_below hX)
   have hc : W.cell? ⟨g0, 17, none⟩ = some (.int .i64 p.len) := ((HP.out.on hbW).cell 17).trans (p.get_len HF.out.addr)
   refine wV hK rfl ?_
   simp only [execOp, e17]
   try go_simp
  ·intro a vs W hX hR he hf K hK
   have e14 : a.eval (.tmp 14) = .bool false := eH he hR 11 (by kernel_rfl) rfl
   refine gT e14 rfl rfl rfl ?_
   have e16 : a.eval (.tmp 16) = .agg (bv p.addr).toArray := eH he hR 13 (by kernel_rfl) rfl
   have e18 : a.eval (.tmp 18) = .int .i64 p.len := eH he hR 15 (by kernel_rfl) rfl
   refine wp_enter (f := 60) (args := #[.agg (bv p.addr).toArray, .int .i64 p.len]) (by simp only [execOp, e16, e18]; go_simp; exact ⟨by simpa [Act.eval] using e16, by simpa [Act.eval] using e18⟩) ((first_any p.addr HF.out.addr p.len HF.out.len.1 HF.out.len.2 W).mono ?_)
   rintro e w' ⟨rfl, hb⟩
   exact ⟨_, rfl, hK _ _ rfl (below_grow hb _)⟩
  ·intro a vs W hX hR he hf K hK
   have e14 : a.eval (.tmp 14) = .bool false := eH he hR 11 (by kernel_rfl) rfl
   refine gT e14 rfl rfl rfl ?_
   have e1 : a.eval (.tmp 1) = .pointer (some ⟨g0, 0, none⟩) := hf 1 (by kernel_rfl)
   refine wV hK rfl ?_
   simp only [execOp, e1]
   try go_simp
  ·intro a vs W hX hR he hf K hK
   have e14 : a.eval (.tmp 14) = .bool false := eH he hR 11 (by kernel_rfl) rfl
   refine gT e14 rfl rfl rfl ?_
   have e20 : a.eval (.tmp 20) = .pointer (some ⟨g0, 1, none⟩) := eH he hR 17 (by kernel_rfl) rfl
   have hbW := bthen (below_drew _) (grow_below hX)
   have hr := (HP.out.on hbW).range 1 16
   rw [p.drop_addr HF.out.addr] at hr
   exact wp_value (exec_load_mid 23 _ rfl g0 1 e20 _ _ hr Try.underlying23 rfl (size16 _ HF.out.addr)) (gK hK rfl)
  ·intro a vs W hX hR he hf K hK
   have e14 : a.eval (.tmp 14) = .bool false := eH he hR 11 (by kernel_rfl) rfl
   refine gT e14 rfl rfl rfl ?_
   have e19 : a.eval (.tmp 19) = .agg (bv (firstF p.addr p.len.toNat)).toArray := eH he hR 16 (by kernel_rfl) rfl
   have e21 : a.eval (.tmp 21) = .agg (bv p.addr).toArray := eH he hR 18 (by kernel_rfl) rfl
   exact wp_value (exec_neA16 _ _ _ rfl _ _ (by rw [firstF_length]; exact HF.out.addr) HF.out.addr true HQ.out e19 e21) (gK hK rfl)
  ·intro a vs W hX hR he hf K hK
   refine wn rfl ?_
   have e14 : a.eval (.tmp 14) = .bool false := eH he hR 11 (by kernel_rfl) rfl
   have e22 : a.eval (.tmp 22) = .bool false := eH he hR 19 (by kernel_rfl) rfl
   refine wV hK rfl ?_
   simp only [execOp, e14, e22]
   try go_simp
  intro vs wx hXx hR
  rw [put_eqs hR rfl]
  simp only [putL, Act.put, List.setIfInBounds_toArray, List.set_cons_zero, List.set_cons_succ]
  clear hR
  have hbx := bthen HW.out (bthen (below_drew _) (grow_below hXx))
  clear hXx
  go_wp2_with fail
  go_ret
  exact ⟨by rw [HC.out]; rfl, hbx⟩
 have HC := Hh (show chkP p = 1 by unfold chkP; rw [if_neg h1, if_neg h2, if_neg h3])
 have HQ := Hh (show (firstF p.addr p.len.toNat == p.addr) = false by simpa using h3)
 clear h3
 go_enter Try.func36, Try.ntmps36
 go_upto_region 1 with (refine wpList_box_blk (by rfl) 30 (.tmp 0) rfl p.cells rfl ?_; intro w1 hb1 hB1 hs1; clear hs1)
 obtain ⟨g0, hg0⟩ : ∃ g, w.heap.size = g := ⟨_, rfl⟩
 rw [hg0] at hb1
 try rw [hg0]
 have HP := Hh hb1
 have HW := Hh hB1
 clear hb1 hB1 hg0
 refine wp_region_rel (fun A B => A.grownBy B none) (fun A => grown_refl A _) (fun A B C h k => grown_trans h k) (relAt (eqs [.pointer (some ⟨g0, 17, none⟩), .int .i64 p.len, .bool false, .bool false, .pointer (some ⟨g0, 17, none⟩), .int .i64 p.len, .pointer (some ⟨g0, 0, none⟩), .bool p.six, .int .i64 ((mostF p.six : Nat) : Int), .bool false, .bool false, .bool false, .pointer (some ⟨g0, 1, none⟩), .agg (bv p.addr).toArray, .pointer (some ⟨g0, 17, none⟩), .int .i64 p.len, .agg (bv (firstF p.addr p.len.toNat)).toArray, .pointer (some ⟨g0, 1, none⟩), .agg (bv p.addr).toArray, .bool true, .bool true])) (MonoL.at_ (eqs_mono _)) (by kernel_rfl) (by kernel_rfl) ⟨?_, ?_, ?_, ?_, ?_, ?_, ?_, ?_, ?_, ?_, ?_, ?_, ?_, ?_, ?_, ?_, ?_, ?_, ?_, ?_, ?_, trivial⟩ ?_
 ·intro a vs W hX hR he hf K hK
  refine wn rfl ?_
  have e1 : a.eval (.tmp 1) = .pointer (some ⟨g0, 0, none⟩) := hf 1 (by kernel_rfl)
  refine wV hK rfl ?_
  simp only [execOp, e1]
  try go_simp
 ·intro a vs W hX hR he hf K hK
  refine wn rfl ?_
  have e3 : a.eval (.tmp 3) = .pointer (some ⟨g0, 17, none⟩) := eH he hR 0 (by kernel_rfl) rfl
  have hbW := bthen (below_drew _) (grow_below hX)
  have hc : W.cell? ⟨g0, 17, none⟩ = some (.int .i64 p.len) := ((HP.out.on hbW).cell 17).trans (p.get_len HF.out.addr)
  refine wV hK rfl ?_
  simp only [execOp, e3]
  try go_simp
 ·intro a vs W hX hR he hf K hK
  refine wn rfl ?_
  have e4 : a.eval (.tmp 4) = .int .i64 p.len := eH he hR 1 (by kernel_rfl) rfl
  refine wV hK rfl ?_
  simp only [execOp, e4]
  try go_simp
 ·intro a vs W hX hR he hf K hK
  refine wn rfl ?_
  have e5 : a.eval (.tmp 5) = .bool false := eH he hR 2 (by kernel_rfl) rfl
  refine wV hK rfl ?_
  simp only [execOp, e5]
  try go_simp
 ·intro a vs W hX hR he hf K hK
  have e6 : a.eval (.tmp 6) = .bool false := eH he hR 3 (by kernel_rfl) rfl
  refine gT e6 rfl rfl rfl ?_
  have e1 : a.eval (.tmp 1) = .pointer (some ⟨g0, 0, none⟩) := hf 1 (by kernel_rfl)
  refine wV hK rfl ?_
  simp only [execOp, e1]
  try go_simp
 ·intro a vs W hX hR he hf K hK
  have e6 : a.eval (.tmp 6) = .bool false := eH he hR 3 (by kernel_rfl) rfl
  refine gT e6 rfl rfl rfl ?_
  have e7 : a.eval (.tmp 7) = .pointer (some ⟨g0, 17, none⟩) := eH he hR 4 (by kernel_rfl) rfl
  have hbW := bthen (below_drew _) (grow_below hX)
  have hc : W.cell? ⟨g0, 17, none⟩ = some (.int .i64 p.len) := ((HP.out.on hbW).cell 17).trans (p.get_len HF.out.addr)
  refine wV hK rfl ?_
  simp only [execOp, e7]
  try go_simp
 ·intro a vs W hX hR he hf K hK
  have e6 : a.eval (.tmp 6) = .bool false := eH he hR 3 (by kernel_rfl) rfl
  refine gT e6 rfl rfl rfl ?_
  have e1 : a.eval (.tmp 1) = .pointer (some ⟨g0, 0, none⟩) := hf 1 (by kernel_rfl)
  refine wV hK rfl ?_
  simp only [execOp, e1]
  try go_simp
 ·intro a vs W hX hR he hf K hK
  have e6 : a.eval (.tmp 6) = .bool false := eH he hR 3 (by kernel_rfl) rfl
  refine gT e6 rfl rfl rfl ?_
  have e9 : a.eval (.tmp 9) = .pointer (some ⟨g0, 0, none⟩) := eH he hR 6 (by kernel_rfl) rfl
  have hbW := bthen (below_drew _) (grow_below hX)
  have hc : W.cell? ⟨g0, 0, none⟩ = some (.bool p.six) := ((HP.out.on hbW).cell 0).trans (rfl : p.cells[0]? = some (.bool p.six))
  refine wV hK rfl ?_
  simp only [execOp, e9]
  try go_simp
 ·intro a vs W hX hR he hf K hK
  have e6 : a.eval (.tmp 6) = .bool false := eH he hR 3 (by kernel_rfl) rfl
  refine gT e6 rfl rfl rfl ?_
  have e10 : a.eval (.tmp 10) = .bool p.six := eH he hR 7 (by kernel_rfl) rfl
  refine wp_enter (f := 59) (args := #[.bool p.six]) (by simp only [execOp, e10]; go_simp; simpa [Act.eval] using e10) ((most_any p.six W).mono ?_)
  rintro e w' ⟨rfl, rfl⟩
  exact ⟨_, rfl, hK _ _ rfl (grown_refl W _)⟩
 ·intro a vs W hX hR he hf K hK
  have e6 : a.eval (.tmp 6) = .bool false := eH he hR 3 (by kernel_rfl) rfl
  refine gT e6 rfl rfl rfl ?_
  have e8 : a.eval (.tmp 8) = .int .i64 p.len := eH he hR 5 (by kernel_rfl) rfl
  have e11 : a.eval (.tmp 11) = .int .i64 ((mostF p.six : Nat) : Int) := eH he hR 8 (by kernel_rfl) rfl
  refine wV hK rfl ?_
  simp only [execOp, e8, e11]
  try go_simp
 ·intro a vs W hX hR he hf K hK
  refine wn rfl ?_
  have e6 : a.eval (.tmp 6) = .bool false := eH he hR 3 (by kernel_rfl) rfl
  have e12 : a.eval (.tmp 12) = .bool false := eH he hR 9 (by kernel_rfl) rfl
  refine wV hK rfl ?_
  simp only [execOp, e6, e12]
  try go_simp
 ·intro a vs W hX hR he hf K hK
  refine wn rfl ?_
  have e13 : a.eval (.tmp 13) = .bool false := eH he hR 10 (by kernel_rfl) rfl
  refine wV hK rfl ?_
  simp only [execOp, e13]
  try go_simp
 ·intro a vs W hX hR he hf K hK
  have e14 : a.eval (.tmp 14) = .bool false := eH he hR 11 (by kernel_rfl) rfl
  refine gT e14 rfl rfl rfl ?_
  have e1 : a.eval (.tmp 1) = .pointer (some ⟨g0, 0, none⟩) := hf 1 (by kernel_rfl)
  refine wV hK rfl ?_
  simp only [execOp, e1]
  try go_simp
 ·intro a vs W hX hR he hf K hK
  have e14 : a.eval (.tmp 14) = .bool false := eH he hR 11 (by kernel_rfl) rfl
  refine gT e14 rfl rfl rfl ?_
  have e15 : a.eval (.tmp 15) = .pointer (some ⟨g0, 1, none⟩) := eH he hR 12 (by kernel_rfl) rfl
  have hbW := bthen (below_drew _) (grow_below hX)
  have hr := (HP.out.on hbW).range 1 16
  rw [p.drop_addr HF.out.addr] at hr
  exact wp_value (exec_load_mid 23 _ rfl g0 1 e15 _ _ hr Try.underlying23 rfl (size16 _ HF.out.addr)) (gK hK rfl)
 ·intro a vs W hX hR he hf K hK
  have e14 : a.eval (.tmp 14) = .bool false := eH he hR 11 (by kernel_rfl) rfl
  refine gT e14 rfl rfl rfl ?_
  have e1 : a.eval (.tmp 1) = .pointer (some ⟨g0, 0, none⟩) := hf 1 (by kernel_rfl)
  refine wV hK rfl ?_
  simp only [execOp, e1]
  try go_simp
 ·intro a vs W hX hR he hf K hK
  have e14 : a.eval (.tmp 14) = .bool false := eH he hR 11 (by kernel_rfl) rfl
  refine gT e14 rfl rfl rfl ?_
  have e17 : a.eval (.tmp 17) = .pointer (some ⟨g0, 17, none⟩) := eH he hR 14 (by kernel_rfl) rfl
  have hbW := bthen (below_drew _) (grow_below hX)
  have hc : W.cell? ⟨g0, 17, none⟩ = some (.int .i64 p.len) := ((HP.out.on hbW).cell 17).trans (p.get_len HF.out.addr)
  refine wV hK rfl ?_
  simp only [execOp, e17]
  try go_simp
 ·intro a vs W hX hR he hf K hK
  have e14 : a.eval (.tmp 14) = .bool false := eH he hR 11 (by kernel_rfl) rfl
  refine gT e14 rfl rfl rfl ?_
  have e16 : a.eval (.tmp 16) = .agg (bv p.addr).toArray := eH he hR 13 (by kernel_rfl) rfl
  have e18 : a.eval (.tmp 18) = .int .i64 p.len := eH he hR 15 (by kernel_rfl) rfl
  refine wp_enter (f := 60) (args := #[.agg (bv p.addr).toArray, .int .i64 p.len]) (by simp only [execOp, e16, e18]; go_simp; exact ⟨by simpa [Act.eval] using e16, by simpa [Act.eval] using e18⟩) ((first_any p.addr HF.out.addr p.len HF.out.len.1 HF.out.len.2 W).mono ?_)
  rintro e w' ⟨rfl, hb⟩
  exact ⟨_, rfl, hK _ _ rfl (below_grow hb _)⟩
 ·intro a vs W hX hR he hf K hK
  have e14 : a.eval (.tmp 14) = .bool false := eH he hR 11 (by kernel_rfl) rfl
  refine gT e14 rfl rfl rfl ?_
  have e1 : a.eval (.tmp 1) = .pointer (some ⟨g0, 0, none⟩) := hf 1 (by kernel_rfl)
  refine wV hK rfl ?_
  simp only [execOp, e1]
  try go_simp
 ·intro a vs W hX hR he hf K hK
  have e14 : a.eval (.tmp 14) = .bool false := eH he hR 11 (by kernel_rfl) rfl
  refine gT e14 rfl rfl rfl ?_
  have e20 : a.eval (.tmp 20) = .pointer (some ⟨g0, 1, none⟩) := eH he hR 17 (by kernel_rfl) rfl
  have hbW := bthen (below_drew _) (grow_below hX)
  have hr := (HP.out.on hbW).range 1 16
  rw [p.drop_addr HF.out.addr] at hr
  exact wp_value (exec_load_mid 23 _ rfl g0 1 e20 _ _ hr Try.underlying23 rfl (size16 _ HF.out.addr)) (gK hK rfl)
 ·intro a vs W hX hR he hf K hK
  have e14 : a.eval (.tmp 14) = .bool false := eH he hR 11 (by kernel_rfl) rfl
  refine gT e14 rfl rfl rfl ?_
  have e19 : a.eval (.tmp 19) = .agg (bv (firstF p.addr p.len.toNat)).toArray := eH he hR 16 (by kernel_rfl) rfl
  have e21 : a.eval (.tmp 21) = .agg (bv p.addr).toArray := eH he hR 18 (by kernel_rfl) rfl
  exact wp_value (exec_neA16 _ _ _ rfl _ _ (by rw [firstF_length]; exact HF.out.addr) HF.out.addr false HQ.out e19 e21) (gK hK rfl)
 ·intro a vs W hX hR he hf K hK
  refine wn rfl ?_
  have e14 : a.eval (.tmp 14) = .bool false := eH he hR 11 (by kernel_rfl) rfl
  have e22 : a.eval (.tmp 22) = .bool true := eH he hR 19 (by kernel_rfl) rfl
  refine wV hK rfl ?_
  simp only [execOp, e14, e22]
  try go_simp
 intro vs wx hXx hR
 rw [put_eqs hR rfl]
 simp only [putL, Act.put, List.setIfInBounds_toArray, List.set_cons_zero, List.set_cons_succ]
 clear hR
 have hbx := bthen HW.out (bthen (below_drew _) (grow_below hXx))
 clear hXx
 go_wp2_with fail
 go_ret
 exact ⟨by rw [HC.out]; rfl, hbx⟩
end Go.Proofs.Ytdmgomknamdcfaa


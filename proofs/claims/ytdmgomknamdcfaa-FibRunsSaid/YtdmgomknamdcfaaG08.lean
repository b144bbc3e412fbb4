/- Texts of this claim put together, in build order: each one's own remark stands ahead of it. -/
import Derived.Test.YtdmgomknamdcfaaG02
import Derived.Test.YtdmgomknamdcfaaG07
/- What prefix.Of, Covers and Common (layer 8) compute. No condition but sizes. -/
namespace Go.Proofs.Ytdmgomknamdcfaa
open Go.RowKit
set_option linter.unusedVariables false
set_option maxRecDepth 20000
set_option linter.unusedSimpArgs false

theorem list16p (l : List UInt8) (h : l.length = 16) : ∃ s0 s1 s2 s3 s4 s5 s6 s7 s8 s9 s10 s11 s12 s13 s14 s15, l = [s0, s1, s2, s3, s4, s5, s6, s7, s8, s9, s10, s11, s12, s13, s14, s15] := by
 match l, h with
 | [s0, s1, s2, s3, s4, s5, s6, s7, s8, s9, s10, s11, s12, s13, s14, s15], _ => exact ⟨s0, s1, s2, s3, s4, s5, s6, s7, s8, s9, s10, s11, s12, s13, s14, s15, rfl⟩
theorem run_buildPx (b : Bool) (l : List UInt8) (h : l.length = 16) (n : Int) (w : World) : (Instr.build 30 #[(0, .bool b), (1, .agg (bv l).toArray), (2, .int .i64 n)]).run Try.prog w = .ok (.agg (Px.cells ⟨b, l, n⟩).toArray) w := by
 obtain ⟨s0, s1, s2, s3, s4, s5, s6, s7, s8, s9, s10, s11, s12, s13, s14, s15, rfl⟩ := list16p l h
 kernel_rfl
theorem exec_buildPx {w : World} {o : Oper} {q : Act} (x0 x1 x2 : Operand) (ho : o.op = .build 30 #[(0, x0), (1, x1), (2, x2)]) (b : Bool) (l : List UInt8) (h : l.length = 16) (n : Int) (h0 : q.eval x0 = .bool b) (h1 : q.eval x1 = .agg (bv l).toArray) (h2 : q.eval x2 = .int .i64 n) :
  (execOp q.eval o).run Try.prog w = .ok (.value (.agg (Px.cells ⟨b, l, n⟩).toArray)) w := by
 unfold execOp
 simp only [ho, List.map_toArray, List.map_cons, List.map_nil, h0, h1, h2, Sem.run_bind, run_buildPx b l h n, Result.andThen_ok]
 rfl
def Px.zero : Px := ⟨false, zz16, 0⟩
theorem zeroPx (w : World) : (zeroValue 30).run Try.prog w = .ok (.agg Px.zero.cells.toArray) w := by kernel_rfl
theorem Px.cells_same (p q : Px) (hp : p.addr.length = 16) (hq : q.addr.length = 16) : p.cells.length = q.cells.length := by rw [p.cells_length hp, q.cells_length hq]
theorem Px.good.fit {p : Px} (h : p.good) : p.fit := ⟨h.addr, by have h1 := h.ge; have h2 := h.le; have := mostF_le p.six; omega⟩
set_option maxHeartbeats 1000000 in
theorem of_any (b : Bool) (ad : List UInt8) (ha : ad.length = 16) (n : Nat) (hn : n ≤ mostF b) (w : World) :
  Calls Try.prog 82 #[.bool b, .agg (bv ad).toArray, .int .i64 (n : Int)] w fun e w' => e = .returned (.agg (ofF b ad n).cells.toArray) ∧ Below w.heap.size w w' := by
 have HAL := Hh ha
 have hm := mostF_le b
 obtain ⟨m, hmm⟩ : ∃ m, mostF b = m := ⟨_, rfl⟩
 have HM := Hh hmm
 rw [hmm] at hn hm
 have h0 : ¬ (n : Int) < 0 := by omega
 have h1 : ¬ (m : Int) < (n : Int) := by omega
 have h2 : (n : Int) ≤ (m : Int) := by omega
 clear ha hmm
 go_enter Try.func82, Try.ntmps82
 go_upto_region 1 with (first
  | (refine wpList_box_blk (by rfl) 23 (.tmp 1) rfl (bv ad) rfl ?_; intro w1 hb1 hB1 hs1; clear hs1)
  | (refine wpList_alloc_blk (by rfl) 30 rfl Px.zero.cells zeroPx ?_; intro w2 hb2 hB2 hs2; clear hs2))
 obtain ⟨g0, hg0⟩ : ∃ g, w.heap.size = g := ⟨_, rfl⟩
 obtain ⟨g1, hg1⟩ : ∃ g, w1.heap.size = g := ⟨_, rfl⟩
 have hk0 := hb1.on hB2
 have hle := hB1.size
 rw [hg0] at hk0
 rw [hg1] at hb2 hle
 try rw [hg0]
 try rw [hg1]
 have HA := Hh hk0
 have HR := Hh hb2
 have HW := Hh (bthen hB1 hB2)
 clear hb1 hB1 hb2 hB2 hk0 hg0 hg1
 go_wp2_with fail
 refine (most_any b w2).mono ?_
 rintro e w3 ⟨rfl, rfl⟩
 rw [HM.out]
 go_wp2_with (refine wpList_load_blk (by rfl) 23 _ rfl g0 rfl 23 _ _ HA.out Try.underlying23 rfl (size16 _ HAL.out) ?_)
 refine (first_any ad HAL.out (n : Int) (by omega) (by omega) w2).mono ?_
 rintro e w4 ⟨rfl, hb⟩
 rw [Int.toNat_natCast]
 replace HR := Hh (HR.out.on hb)
 replace HW := Hh (bthen HW.out hb)
 have hfl : (firstF ad n).length = 16 := by rw [firstF_length, HAL.out]
 have HFL := Hh hfl
 clear hb hfl
 go_wp2_with (first
  | (refine wpList_value (by rfl) (exec_buildPx _ _ _ rfl b (firstF ad n) HFL.out (n : Int) rfl rfl rfl) ?_)
  | (refine wpList_store_all (by rfl) 30 _ _ rfl g1 (ofF b ad n).cells rfl rfl 30 _ HR.out (sizePx _ HFL.out) (Px.cells_same _ _ HFL.out rfl) (onePx _) ?_; intro w5 hb5 hg5 hs5))
 have hB5 : Below w.heap.size w w5 := bgrown HW.out hg5 HW.out.size hle
 exact bodyPost_ret (results_cell1 rfl _ _ g1 _ _ _ rfl hb5 Try.underlying30 rfl (sizePx _ HFL.out)) rfl ⟨rfl, hB5⟩

/-- whether a prefix covers another one -/
def covP (p q : Px) : Bool := (p.six == q.six) && (decide (p.len ≤ q.len) && hasA p q.addr)
set_option maxHeartbeats 1000000 in
theorem covers_any (p : Px) (hp : p.fit) (q : Px) (hq : q.fit) (w : World) :
  Calls Try.prog 40 #[.agg p.cells.toArray, .agg q.cells.toArray] w fun e w' => e = .returned (.bool (covP p q)) ∧ Below w.heap.size w w' := by
 have HP := Hh hp
 have HQ := Hh hq
 clear hp hq
 cases hs : (p.six == q.six)
 ·have HC := Hh (show covP p q = false by unfold covP; rw [hs]; rfl)
  go_enter Try.func40, Try.ntmps40
  go_upto_region 1 with (first
   | (refine wpList_box_blk (by rfl) 30 (.tmp 0) rfl p.cells rfl ?_; intro w1 hb1 hB1 hs1; clear hs1)
   | (refine wpList_box_blk (by rfl) 30 (.tmp 1) rfl q.cells rfl ?_; intro w2 hb2 hB2 hs2; clear hs2))
  obtain ⟨g0, hg0⟩ : ∃ g, w.heap.size = g := ⟨_, rfl⟩
  obtain ⟨g1, hg1⟩ : ∃ g, w1.heap.size = g := ⟨_, rfl⟩
  have hk0 := hb1.on hB2
  rw [hg0] at hk0
  rw [hg1] at hb2
  try rw [hg0]
  try rw [hg1]
  have HK0 := Hh hk0
  have HK1 := Hh hb2
  have HW := Hh (bthen hB1 hB2)
  have c0 : w2.cell? ⟨g0, 0, none⟩ = some (.bool p.six) := hk0.cell 0
  have c1 : w2.cell? ⟨g1, 0, none⟩ = some (.bool q.six) := hb2.cell 0
  have c2 : w2.cell? ⟨g0, 17, none⟩ = some (.int .i64 p.len) := (hk0.cell 17).trans (p.get_len HP.out.addr)
  have c3 : w2.cell? ⟨g1, 17, none⟩ = some (.int .i64 q.len) := (hb2.cell 17).trans (q.get_len HQ.out.addr)
  have hr := hb2.range 1 16
  rw [q.drop_addr HQ.out.addr] at hr
  have HR := Hh hr
  clear hb1 hB1 hb2 hB2 hk0 hg0 hg1 hr
  go_wp2_with fail
  go_ret
  exact ⟨by rw [HC.out]; rfl, HW.out⟩
 by_cases hl : p.len ≤ q.len
 ·have HC := Hh (show covP p q = hasA p q.addr by unfold covP; rw [hs, decide_eq_true hl]; rfl)
  go_enter Try.func40, Try.ntmps40
  go_upto_region 1 with (first
   | (refine wpList_box_blk (by rfl) 30 (.tmp 0) rfl p.cells rfl ?_; intro w1 hb1 hB1 hs1; clear hs1)
   | (refine wpList_box_blk (by rfl) 30 (.tmp 1) rfl q.cells rfl ?_; intro w2 hb2 hB2 hs2; clear hs2))
  obtain ⟨g0, hg0⟩ : ∃ g, w.heap.size = g := ⟨_, rfl⟩
  obtain ⟨g1, hg1⟩ : ∃ g, w1.heap.size = g := ⟨_, rfl⟩
  have hk0 := hb1.on hB2
  rw [hg0] at hk0
  rw [hg1] at hb2
  try rw [hg0]
  try rw [hg1]
  have HK0 := Hh hk0
  have HK1 := Hh hb2
  have HW := Hh (bthen hB1 hB2)
  have c0 : w2.cell? ⟨g0, 0, none⟩ = some (.bool p.six) := hk0.cell 0
  have c1 : w2.cell? ⟨g1, 0, none⟩ = some (.bool q.six) := hb2.cell 0
  have c2 : w2.cell? ⟨g0, 17, none⟩ = some (.int .i64 p.len) := (hk0.cell 17).trans (p.get_len HP.out.addr)
  have c3 : w2.cell? ⟨g1, 17, none⟩ = some (.int .i64 q.len) := (hb2.cell 17).trans (q.get_len HQ.out.addr)
  have hr := hb2.range 1 16
  rw [q.drop_addr HQ.out.addr] at hr
  have HR := Hh hr
  clear hb1 hB1 hb2 hB2 hk0 hg0 hg1 hr
  go_wp2_with (first
   | (refine wpList_load_blk (by rfl) 30 _ rfl g0 rfl 30 _ _ HK0.out Try.underlying30 rfl (sizePx _ HP.out.addr) ?_)
   | (refine wpList_value (by rfl) (exec_load_mid 23 _ rfl g1 1 (by rfl) (bv q.addr) _ HR.out Try.underlying23 rfl (size16 _ HQ.out.addr)) ?_))
  refine (has_any p HP.out q.addr HQ.out.addr w2).mono ?_
  rintro e w3 ⟨rfl, hb⟩
  replace HW := Hh (bthen HW.out hb)
  clear hb c0 c1 c2 c3
  go_wp2_with fail
  go_ret
  exact ⟨by rw [HC.out]; rfl, HW.out⟩
 have HC := Hh (show covP p q = false by unfold covP; rw [hs, decide_eq_false hl]; rfl)
 go_enter Try.func40, Try.ntmps40
 go_upto_region 1 with (first
  | (refine wpList_box_blk (by rfl) 30 (.tmp 0) rfl p.cells rfl ?_; intro w1 hb1 hB1 hs1; clear hs1)
  | (refine wpList_box_blk (by rfl) 30 (.tmp 1) rfl q.cells rfl ?_; intro w2 hb2 hB2 hs2; clear hs2))
 obtain ⟨g0, hg0⟩ : ∃ g, w.heap.size = g := ⟨_, rfl⟩
 obtain ⟨g1, hg1⟩ : ∃ g, w1.heap.size = g := ⟨_, rfl⟩
 have hk0 := hb1.on hB2
 rw [hg0] at hk0
 rw [hg1] at hb2
 try rw [hg0]
 try rw [hg1]
 have HK0 := Hh hk0
 have HK1 := Hh hb2
 have HW := Hh (bthen hB1 hB2)
 have c0 : w2.cell? ⟨g0, 0, none⟩ = some (.bool p.six) := hk0.cell 0
 have c1 : w2.cell? ⟨g1, 0, none⟩ = some (.bool q.six) := hb2.cell 0
 have c2 : w2.cell? ⟨g0, 17, none⟩ = some (.int .i64 p.len) := (hk0.cell 17).trans (p.get_len HP.out.addr)
 have c3 : w2.cell? ⟨g1, 17, none⟩ = some (.int .i64 q.len) := (hb2.cell 17).trans (q.get_len HQ.out.addr)
 have hr := hb2.range 1 16
 rw [q.drop_addr HQ.out.addr] at hr
 have HR := Hh hr
 clear hb1 hB1 hb2 hB2 hk0 hg0 hg1 hr
 go_wp2_with fail
 go_ret
 exact ⟨by rw [HC.out]; rfl, HW.out⟩
theorem bitI_iff {p q : Px} (hp : p.good) (hq : q.good) (n : Nat) (h1 : n < p.len.toNat) (h2 : n < q.len.toNat) : (bitI p.addr (n : Int) = bitI q.addr (n : Int)) ↔ sideB p.bits n = sideB q.bits n := by
 have l1 := hp.len128
 have e : ∀ a : List UInt8, bitI a (n : Int) = if bitF a n then 1 else 0 := fun a => by
  unfold bitI
  rw [if_pos ⟨by omega, by omega⟩, Int.toNat_natCast]
 rw [e, e, side_addr hp n h1, side_addr hq n h2]
 cases sideB p.bits n <;> cases sideB q.bits n <;> simp
set_option maxHeartbeats 4000000 in
theorem common_any (p : Px) (hp : p.good) (q : Px) (hq : q.good) (hs : p.six = q.six) (w : World) :
  Calls Try.prog 71 #[.agg p.cells.toArray, .agg q.cells.toArray] w fun e w' => e = .returned (.tuple #[.agg (ofF p.six p.addr (lcp p.bits q.bits).length).cells.toArray, .bool true]) ∧ Below w.heap.size w w' := by
 have HP := Hh hp.fit
 have HQ := Hh hq.fit
 have HPG := Hh hp
 have HQG := Hh hq
 obtain ⟨m, hm⟩ : ∃ m, m = min p.len.toNat q.len.toNat := ⟨_, rfl⟩
 have p1 := hp.ge
 have p2 := hp.len128
 have q1 := hq.ge
 have q2 := hq.len128
 have HM := Hh (show (m : Int) ≤ p.len ∧ (m : Int) ≤ q.len ∧ ((m : Int) = p.len ∨ (m : Int) = q.len) ∧ m ≤ 128 by omega)
 have HML := Hh (show m ≤ p.len.toNat ∧ m ≤ q.len.toNat ∧ (m = p.len.toNat ∨ m = q.len.toNat) by omega)
 have HMM := Hh (show m ≤ mostF p.six by have := hp.le; omega)
 have HS6 := Hh hs
 clear hp hq hs hm p1 p2 q1 q2
 go_enter Try.func71, Try.ntmps71
 go_upto_region 1 with (first
  | (refine wpList_box_blk (by rfl) 30 (.tmp 0) rfl p.cells rfl ?_; intro w1 hb1 hB1 hs1; clear hs1)
  | (refine wpList_box_blk (by rfl) 30 (.tmp 1) rfl q.cells rfl ?_; intro w2 hb2 hB2 hs2; clear hs2)
  | (refine wpList_alloc_blk (by rfl) 30 rfl Px.zero.cells zeroPx ?_; intro w3 hb3 hB3 hs3; clear hs3))
 obtain ⟨g0, hg0⟩ : ∃ g, w.heap.size = g := ⟨_, rfl⟩
 obtain ⟨g1, hg1⟩ : ∃ g, w1.heap.size = g := ⟨_, rfl⟩
 obtain ⟨g2, hg2⟩ : ∃ g, w2.heap.size = g := ⟨_, rfl⟩
 have hk0 := (hb1.on hB2).on hB3
 have hk1 := hb2.on hB3
 have hle := (bthen hB1 hB2).size
 rw [hg0] at hk0
 rw [hg1] at hk1
 rw [hg2] at hb3 hle
 try rw [hg0]
 try rw [hg1]
 try rw [hg2]
 have HK0 := Hh hk0
 have HK1 := Hh hk1
 have HRZ := Hh hb3
 have HG2 := Hh hle
 have HW := Hh (bthen (bthen hB1 hB2) hB3)
 have c0 : w3.cell? ⟨g0, 0, none⟩ = some (.bool p.six) := hk0.cell 0
 have c1 : w3.cell? ⟨g1, 0, none⟩ = some (.bool p.six) := by rw [HS6.out]; exact hk1.cell 0
 clear hb1 hB1 hb2 hB2 hb3 hB3 hk0 hk1 hle hg0 hg1 hg2
 go_wp2_with fail
 clear c0 c1
 go_loopw [6] (fun i wr => ∃ n : Nat, n ≤ m ∧ i = .int .i64 (n : Nat) ∧ (∀ j, j < n → sideB p.bits j = sideB q.bits j) ∧ Below w3.heap.size w3 wr) (fun i _ => m - (intOf i).toNat)
 case atStart => exact ⟨0, by omega, rfl, fun j h => by omega, Below.refl _ _⟩
 case round =>
  obtain ⟨n, hn, rfl, hj, hbe⟩ := hrel
  have HJ := Hh hj
  have hBE := Hh hbe
  replace HK0 := Hh (HK0.out.on hbe)
  replace HK1 := Hh (HK1.out.on hbe)
  replace HRZ := Hh (HRZ.out.on hbe)
  replace HW := Hh (bthen HW.out hbe)
  have HNM := Hh (show n ≤ mostF p.six from Nat.le_trans hn HMM.out)
  have hn128 : n ≤ 128 := by have := HM.out; omega
  clear hj hbe
  by_cases hlt : n < m
  ·have hli : (n : Int) < (m : Int) := by omega
   have HBI := Hh (bitI_iff HPG.out HQG.out n (by have := HML.out; omega) (by have := HML.out; omega))
   by_cases hbit : bitI p.addr (n : Int) = bitI q.addr (n : Int)
   ·have HBT := Hh hbit
    have HS := Hh (HBI.out.1 hbit)
    clear hbit
    go_wp2_with fail
    refine wp_region_rel (fun A B => A.grownBy B none) (fun A => grown_refl A _) (fun A B C h k => grown_trans h k) (relAt (eqs [.int .i64 (n : Int), .pointer (some ⟨g0, 17, none⟩), .int .i64 p.len, .pointer (some ⟨g1, 17, none⟩), .int .i64 q.len, .int .i64 (m : Int), .bool true, .bool true, .pointer (some ⟨g0, 1, none⟩), .agg (bv p.addr).toArray, .int .i64 (n : Int), .int .i64 (bitI p.addr (n : Int)), .pointer (some ⟨g1, 1, none⟩), .agg (bv q.addr).toArray, .int .i64 (n : Int), .int .i64 (bitI q.addr (n : Int)), .bool true, .bool true])) (MonoL.at_ (eqs_mono _)) (by kernel_rfl) (by kernel_rfl) ⟨?_, ?_, ?_, ?_, ?_, ?_, ?_, ?_, ?_, ?_, ?_, ?_, ?_, ?_, ?_, ?_, ?_, ?_, trivial⟩ ?_
    ·intro a vs W hX hR he hf K hK
     refine wn rfl ?_
     have e6 : a.eval (.tmp 6) = .int .i64 (n : Int) := hf 6 (by kernel_rfl)
     refine wV hK rfl ?_
     simp only [execOp, e6]
     try go_simp
    ·intro a vs W hX hR he hf K hK
     refine wn rfl ?_
     have e2 : a.eval (.tmp 2) = .pointer (some ⟨g0, 0, none⟩) := hf 2 (by kernel_rfl)
     refine wV hK rfl ?_
     simp only [execOp, e2]
     try go_simp
    ·intro a vs W hX hR he hf K hK
     refine wn rfl ?_
     have e14 : a.eval (.tmp 14) = .pointer (some ⟨g0, 17, none⟩) := eH he hR 1 (by kernel_rfl) rfl
     have hbW := bthen (below_drew _) (grow_below hX)
     have hc : W.cell? ⟨g0, 17, none⟩ = some (.int .i64 p.len) := ((HK0.out.on hbW).cell 17).trans (p.get_len HP.out.addr)
     refine wV hK rfl ?_
     simp only [execOp, e14]
     try go_simp
    ·intro a vs W hX hR he hf K hK
     refine wn rfl ?_
     have e3 : a.eval (.tmp 3) = .pointer (some ⟨g1, 0, none⟩) := hf 3 (by kernel_rfl)
     refine wV hK rfl ?_
     simp only [execOp, e3]
     try go_simp
    ·intro a vs W hX hR he hf K hK
     refine wn rfl ?_
     have e16 : a.eval (.tmp 16) = .pointer (some ⟨g1, 17, none⟩) := eH he hR 3 (by kernel_rfl) rfl
     have hbW := bthen (below_drew _) (grow_below hX)
     have hc : W.cell? ⟨g1, 17, none⟩ = some (.int .i64 q.len) := ((HK1.out.on hbW).cell 17).trans (q.get_len HQ.out.addr)
     refine wV hK rfl ?_
     simp only [execOp, e16]
     try go_simp
    ·intro a vs W hX hR he hf K hK
     refine wn rfl ?_
     have e15 : a.eval (.tmp 15) = .int .i64 p.len := eH he hR 2 (by kernel_rfl) rfl
     have e17 : a.eval (.tmp 17) = .int .i64 q.len := eH he hR 4 (by kernel_rfl) rfl
     have f15 := e15
     simp only [Act.eval, Array.getD_eq_getD_getElem?] at f15
     have f17 := e17
     simp only [Act.eval, Array.getD_eq_getD_getElem?] at f17
     refine wV hK rfl ?_
     have h9 := HM.out
     simp only [execOp, e15, e17]
     go_simp
     repeat' split
     all_goals omega
    ·intro a vs W hX hR he hf K hK
     refine wn rfl ?_
     have e13 : a.eval (.tmp 13) = .int .i64 (n : Int) := eH he hR 0 (by kernel_rfl) rfl
     have e18 : a.eval (.tmp 18) = .int .i64 (m : Int) := eH he hR 5 (by kernel_rfl) rfl
     refine wV hK rfl ?_
     simp only [execOp, e13, e18]
     try go_simp
    ·intro a vs W hX hR he hf K hK
     refine wn rfl ?_
     have e19 : a.eval (.tmp 19) = .bool true := eH he hR 6 (by kernel_rfl) rfl
     refine wV hK rfl ?_
     simp only [execOp, e19]
     try go_simp
    ·intro a vs W hX hR he hf K hK
     have e20 : a.eval (.tmp 20) = .bool true := eH he hR 7 (by kernel_rfl) rfl
     refine gT e20 rfl rfl rfl ?_
     have e2 : a.eval (.tmp 2) = .pointer (some ⟨g0, 0, none⟩) := hf 2 (by kernel_rfl)
     refine wV hK rfl ?_
     simp only [execOp, e2]
     try go_simp
    ·intro a vs W hX hR he hf K hK
     have e20 : a.eval (.tmp 20) = .bool true := eH he hR 7 (by kernel_rfl) rfl
     refine gT e20 rfl rfl rfl ?_
     have e21 : a.eval (.tmp 21) = .pointer (some ⟨g0, 1, none⟩) := eH he hR 8 (by kernel_rfl) rfl
     have hbW := bthen (below_drew _) (grow_below hX)
     have hr := (HK0.out.on hbW).range 1 16
     rw [p.drop_addr HP.out.addr] at hr
     exact wp_value (exec_load_mid 23 _ rfl g0 1 e21 _ _ hr Try.underlying23 rfl (size16 _ HP.out.addr)) (gK hK rfl)
    ·intro a vs W hX hR he hf K hK
     have e20 : a.eval (.tmp 20) = .bool true := eH he hR 7 (by kernel_rfl) rfl
     refine gT e20 rfl rfl rfl ?_
     have e6 : a.eval (.tmp 6) = .int .i64 (n : Int) := hf 6 (by kernel_rfl)
     refine wV hK rfl ?_
     simp only [execOp, e6]
     try go_simp
    ·intro a vs W hX hR he hf K hK
     have e20 : a.eval (.tmp 20) = .bool true := eH he hR 7 (by kernel_rfl) rfl
     refine gT e20 rfl rfl rfl ?_
     have e22 : a.eval (.tmp 22) = .agg (bv p.addr).toArray := eH he hR 9 (by kernel_rfl) rfl
     have e23 : a.eval (.tmp 23) = .int .i64 (n : Int) := eH he hR 10 (by kernel_rfl) rfl
     refine wp_enter (f := 57) (args := #[.agg (bv p.addr).toArray, .int .i64 (n : Int)]) (by simp only [execOp, e22, e23]; go_simp; exact ⟨by simpa [Act.eval] using e22, by simpa [Act.eval] using e23⟩) ((bit_any p.addr HP.out.addr (n : Int) (by omega) (by omega) W).mono ?_)
     rintro e w' ⟨rfl, hb⟩
     exact ⟨_, rfl, hK _ _ rfl (below_grow hb _)⟩
    ·intro a vs W hX hR he hf K hK
     have e20 : a.eval (.tmp 20) = .bool true := eH he hR 7 (by kernel_rfl) rfl
     refine gT e20 rfl rfl rfl ?_
     have e3 : a.eval (.tmp 3) = .pointer (some ⟨g1, 0, none⟩) := hf 3 (by kernel_rfl)
     refine wV hK rfl ?_
     simp only [execOp, e3]
     try go_simp
    ·intro a vs W hX hR he hf K hK
     have e20 : a.eval (.tmp 20) = .bool true := eH he hR 7 (by kernel_rfl) rfl
     refine gT e20 rfl rfl rfl ?_
     have e25 : a.eval (.tmp 25) = .pointer (some ⟨g1, 1, none⟩) := eH he hR 12 (by kernel_rfl) rfl
     have hbW := bthen (below_drew _) (grow_below hX)
     have hr := (HK1.out.on hbW).range 1 16
     rw [q.drop_addr HQ.out.addr] at hr
     exact wp_value (exec_load_mid 23 _ rfl g1 1 e25 _ _ hr Try.underlying23 rfl (size16 _ HQ.out.addr)) (gK hK rfl)
    ·intro a vs W hX hR he hf K hK
     have e20 : a.eval (.tmp 20) = .bool true := eH he hR 7 (by kernel_rfl) rfl
     refine gT e20 rfl rfl rfl ?_
     have e6 : a.eval (.tmp 6) = .int .i64 (n : Int) := hf 6 (by kernel_rfl)
     refine wV hK rfl ?_
     simp only [execOp, e6]
     try go_simp
    ·intro a vs W hX hR he hf K hK
     have e20 : a.eval (.tmp 20) = .bool true := eH he hR 7 (by kernel_rfl) rfl
     refine gT e20 rfl rfl rfl ?_
     have e26 : a.eval (.tmp 26) = .agg (bv q.addr).toArray := eH he hR 13 (by kernel_rfl) rfl
     have e27 : a.eval (.tmp 27) = .int .i64 (n : Int) := eH he hR 14 (by kernel_rfl) rfl
     refine wp_enter (f := 57) (args := #[.agg (bv q.addr).toArray, .int .i64 (n : Int)]) (by simp only [execOp, e26, e27]; go_simp; exact ⟨by simpa [Act.eval] using e26, by simpa [Act.eval] using e27⟩) ((bit_any q.addr HQ.out.addr (n : Int) (by omega) (by omega) W).mono ?_)
     rintro e w' ⟨rfl, hb⟩
     exact ⟨_, rfl, hK _ _ rfl (below_grow hb _)⟩
    ·intro a vs W hX hR he hf K hK
     have e20 : a.eval (.tmp 20) = .bool true := eH he hR 7 (by kernel_rfl) rfl
     refine gT e20 rfl rfl rfl ?_
     have e24 : a.eval (.tmp 24) = .int .i64 (bitI p.addr (n : Int)) := eH he hR 11 (by kernel_rfl) rfl
     have e28 : a.eval (.tmp 28) = .int .i64 (bitI q.addr (n : Int)) := eH he hR 15 (by kernel_rfl) rfl
     refine wV hK rfl ?_
     simp only [execOp, e24, e28]
     have h9 := HBT.out
     go_simp
     skip
    ·intro a vs W hX hR he hf K hK
     refine wn rfl ?_
     have e20 : a.eval (.tmp 20) = .bool true := eH he hR 7 (by kernel_rfl) rfl
     have e29 : a.eval (.tmp 29) = .bool true := eH he hR 16 (by kernel_rfl) rfl
     refine wV hK rfl ?_
     simp only [execOp, e20, e29]
     try go_simp
    intro vs wx hXx hR
    rw [put_eqs hR rfl]
    simp only [putL, Act.put, List.setIfInBounds_toArray, List.set_cons_zero, List.set_cons_succ]
    clear hR
    have hbx := hBE.out.trans ((bthen (below_drew _) (grow_below hXx)).mono hBE.out.size)
    clear hXx
    go_wp2_with fail
    go_roundw
    case rel => exact ⟨n + 1, by omega, by simp, fun j h => by
     rcases Nat.lt_or_ge j n with h2 | h2
     ·exact HJ.out j h2
     obtain rfl : j = n := by omega
     exact HS.out, hbx⟩
    case measure => simp [intOf]; omega
   have HBT := Hh hbit
   have HLN := Hh (lcp_count p.bits q.bits n (by rw [HPG.out.bits_length]; have := HML.out; omega) (by rw [HQG.out.bits_length]; have := HML.out; omega) HJ.out (.inr (.inr (fun h => hbit (HBI.out.2 h))))).symm
   clear hbit
   go_wp2_with fail
   refine wp_region_rel (fun A B => A.grownBy B none) (fun A => grown_refl A _) (fun A B C h k => grown_trans h k) (relAt (eqs [.int .i64 (n : Int), .pointer (some ⟨g0, 17, none⟩), .int .i64 p.len, .pointer (some ⟨g1, 17, none⟩), .int .i64 q.len, .int .i64 (m : Int), .bool true, .bool true, .pointer (some ⟨g0, 1, none⟩), .agg (bv p.addr).toArray, .int .i64 (n : Int), .int .i64 (bitI p.addr (n : Int)), .pointer (some ⟨g1, 1, none⟩), .agg (bv q.addr).toArray, .int .i64 (n : Int), .int .i64 (bitI q.addr (n : Int)), .bool false, .bool false])) (MonoL.at_ (eqs_mono _)) (by kernel_rfl) (by kernel_rfl) ⟨?_, ?_, ?_, ?_, ?_, ?_, ?_, ?_, ?_, ?_, ?_, ?_, ?_, ?_, ?_, ?_, ?_, ?_, trivial⟩ ?_
   ·intro a vs W hX hR he hf K hK
    refine wn rfl ?_
    have e6 : a.eval (.tmp 6) = .int .i64 (n : Int) := hf 6 (by kernel_rfl)
    refine wV hK rfl ?_
    simp only [execOp, e6]
    try go_simp
   ·intro a vs W hX hR he hf K hK
    refine wn rfl ?_
    have e2 : a.eval (.tmp 2) = .pointer (some ⟨g0, 0, none⟩) := hf 2 (by kernel_rfl)
    refine wV hK rfl ?_
    simp only [execOp, e2]
    try go_simp
   ·intro a vs W hX hR he hf K hK
    refine wn rfl ?_
    have e14 : a.eval (.tmp 14) = .pointer (some ⟨g0, 17, none⟩) := eH he hR 1 (by kernel_rfl) rfl
    have hbW := bthen (below_drew _) (grow_below hX)
    have hc : W.cell? ⟨g0, 17, none⟩ = some (.int .i64 p.len) := ((HK0.out.on hbW).cell 17).trans (p.get_len HP.out.addr)
    refine wV hK rfl ?_
    simp only [execOp, e14]
    try go_simp
   ·intro a vs W hX hR he hf K hK
    refine wn rfl ?_
    have e3 : a.eval (.tmp 3) = .pointer (some ⟨g1, 0, none⟩) := hf 3 (by kernel_rfl)
    refine wV hK rfl ?_
    simp only [execOp, e3]
    try go_simp
   ·intro a vs W hX hR he hf K hK
    refine wn rfl ?_
    have e16 : a.eval (.tmp 16) = .pointer (some ⟨g1, 17, none⟩) := eH he hR 3 (by kernel_rfl) rfl
    have hbW := bthen (below_drew _) (grow_below hX)
    have hc : W.cell? ⟨g1, 17, none⟩ = some (.int .i64 q.len) := ((HK1.out.on hbW).cell 17).trans (q.get_len HQ.out.addr)
    refine wV hK rfl ?_
    simp only [execOp, e16]
    try go_simp
   ·intro a vs W hX hR he hf K hK
    refine wn rfl ?_
    have e15 : a.eval (.tmp 15) = .int .i64 p.len := eH he hR 2 (by kernel_rfl) rfl
    have e17 : a.eval (.tmp 17) = .int .i64 q.len := eH he hR 4 (by kernel_rfl) rfl
    have f15 := e15
    simp only [Act.eval, Array.getD_eq_getD_getElem?] at f15
    have f17 := e17
    simp only [Act.eval, Array.getD_eq_getD_getElem?] at f17
    refine wV hK rfl ?_
    have h9 := HM.out
    simp only [execOp, e15, e17]
    go_simp
    repeat' split
    all_goals omega
   ·intro a vs W hX hR he hf K hK
    refine wn rfl ?_
    have e13 : a.eval (.tmp 13) = .int .i64 (n : Int) := eH he hR 0 (by kernel_rfl) rfl
    have e18 : a.eval (.tmp 18) = .int .i64 (m : Int) := eH he hR 5 (by kernel_rfl) rfl
    refine wV hK rfl ?_
    simp only [execOp, e13, e18]
    try go_simp
   ·intro a vs W hX hR he hf K hK
    refine wn rfl ?_
    have e19 : a.eval (.tmp 19) = .bool true := eH he hR 6 (by kernel_rfl) rfl
    refine wV hK rfl ?_
    simp only [execOp, e19]
    try go_simp
   ·intro a vs W hX hR he hf K hK
    have e20 : a.eval (.tmp 20) = .bool true := eH he hR 7 (by kernel_rfl) rfl
    refine gT e20 rfl rfl rfl ?_
    have e2 : a.eval (.tmp 2) = .pointer (some ⟨g0, 0, none⟩) := hf 2 (by kernel_rfl)
    refine wV hK rfl ?_
    simp only [execOp, e2]
    try go_simp
   ·intro a vs W hX hR he hf K hK
    have e20 : a.eval (.tmp 20) = .bool true := eH he hR 7 (by kernel_rfl) rfl
    refine gT e20 rfl rfl rfl ?_
    have e21 : a.eval (.tmp 21) = .pointer (some ⟨g0, 1, none⟩) := eH he hR 8 (by kernel_rfl) rfl
    have hbW := bthen (below_drew _) (grow_below hX)
    have hr := (HK0.out.on hbW).range 1 16
    rw [p.drop_addr HP.out.addr] at hr
    exact wp_value (exec_load_mid 23 _ rfl g0 1 e21 _ _ hr Try.underlying23 rfl (size16 _ HP.out.addr)) (gK hK rfl)
   ·intro a vs W hX hR he hf K hK
    have e20 : a.eval (.tmp 20) = .bool true := eH he hR 7 (by kernel_rfl) rfl
    refine gT e20 rfl rfl rfl ?_
    have e6 : a.eval (.tmp 6) = .int .i64 (n : Int) := hf 6 (by kernel_rfl)
    refine wV hK rfl ?_
    simp only [execOp, e6]
    try go_simp
   ·intro a vs W hX hR he hf K hK
    have e20 : a.eval (.tmp 20) = .bool true := eH he hR 7 (by kernel_rfl) rfl
    refine gT e20 rfl rfl rfl ?_
    have e22 : a.eval (.tmp 22) = .agg (bv p.addr).toArray := eH he hR 9 (by kernel_rfl) rfl
    have e23 : a.eval (.tmp 23) = .int .i64 (n : Int) := eH he hR 10 (by kernel_rfl) rfl
    refine wp_enter (f := 57) (args := #[.agg (bv p.addr).toArray, .int .i64 (n : Int)]) (by simp only [execOp, e22, e23]; go_simp; exact ⟨by simpa [Act.eval] using e22, by simpa [Act.eval] using e23⟩) ((bit_any p.addr HP.out.addr (n : Int) (by omega) (by omega) W).mono ?_)
    rintro e w' ⟨rfl, hb⟩
    exact ⟨_, rfl, hK _ _ rfl (below_grow hb _)⟩
   ·intro a vs W hX hR he hf K hK
    have e20 : a.eval (.tmp 20) = .bool true := eH he hR 7 (by kernel_rfl) rfl
    refine gT e20 rfl rfl rfl ?_
    have e3 : a.eval (.tmp 3) = .pointer (some ⟨g1, 0, none⟩) := hf 3 (by kernel_rfl)
    refine wV hK rfl ?_
    simp only [execOp, e3]
    try go_simp
   ·intro a vs W hX hR he hf K hK
    have e20 : a.eval (.tmp 20) = .bool true := eH he hR 7 (by kernel_rfl) rfl
    refine gT e20 rfl rfl rfl ?_
    have e25 : a.eval (.tmp 25) = .pointer (some ⟨g1, 1, none⟩) := eH he hR 12 (by kernel_rfl) rfl
    have hbW := bthen (below_drew _) (grow_below hX)
    have hr := (HK1.out.on hbW).range 1 16
    rw [q.drop_addr HQ.out.addr] at hr
    exact wp_value (exec_load_mid 23 _ rfl g1 1 e25 _ _ hr Try.underlying23 rfl (size16 _ HQ.out.addr)) (gK hK rfl)
   ·intro a vs W hX hR he hf K hK
    have e20 : a.eval (.tmp 20) = .bool true := eH he hR 7 (by kernel_rfl) rfl
    refine gT e20 rfl rfl rfl ?_
    have e6 : a.eval (.tmp 6) = .int .i64 (n : Int) := hf 6 (by kernel_rfl)
    refine wV hK rfl ?_
    simp only [execOp, e6]
    try go_simp
   ·intro a vs W hX hR he hf K hK
    have e20 : a.eval (.tmp 20) = .bool true := eH he hR 7 (by kernel_rfl) rfl
    refine gT e20 rfl rfl rfl ?_
    have e26 : a.eval (.tmp 26) = .agg (bv q.addr).toArray := eH he hR 13 (by kernel_rfl) rfl
    have e27 : a.eval (.tmp 27) = .int .i64 (n : Int) := eH he hR 14 (by kernel_rfl) rfl
    refine wp_enter (f := 57) (args := #[.agg (bv q.addr).toArray, .int .i64 (n : Int)]) (by simp only [execOp, e26, e27]; go_simp; exact ⟨by simpa [Act.eval] using e26, by simpa [Act.eval] using e27⟩) ((bit_any q.addr HQ.out.addr (n : Int) (by omega) (by omega) W).mono ?_)
    rintro e w' ⟨rfl, hb⟩
    exact ⟨_, rfl, hK _ _ rfl (below_grow hb _)⟩
   ·intro a vs W hX hR he hf K hK
    have e20 : a.eval (.tmp 20) = .bool true := eH he hR 7 (by kernel_rfl) rfl
    refine gT e20 rfl rfl rfl ?_
    have e24 : a.eval (.tmp 24) = .int .i64 (bitI p.addr (n : Int)) := eH he hR 11 (by kernel_rfl) rfl
    have e28 : a.eval (.tmp 28) = .int .i64 (bitI q.addr (n : Int)) := eH he hR 15 (by kernel_rfl) rfl
    refine wV hK rfl ?_
    simp only [execOp, e24, e28]
    have h9 := HBT.out
    go_simp
    skip
   ·intro a vs W hX hR he hf K hK
    refine wn rfl ?_
    have e20 : a.eval (.tmp 20) = .bool true := eH he hR 7 (by kernel_rfl) rfl
    have e29 : a.eval (.tmp 29) = .bool false := eH he hR 16 (by kernel_rfl) rfl
    refine wV hK rfl ?_
    simp only [execOp, e20, e29]
    try go_simp
   intro vs wx hXx hR
   rw [put_eqs hR rfl]
   simp only [putL, Act.put, List.setIfInBounds_toArray, List.set_cons_zero, List.set_cons_succ]
   clear hR
   have hbx := hBE.out.trans ((bthen (below_drew _) (grow_below hXx)).mono hBE.out.size)
   replace HRZ := Hh (HRZ.out.on (bthen (below_drew _) (grow_below hXx)))
   have HK2 := Hh (HK0.out.on (bthen (below_drew _) (grow_below hXx)))
   replace HW := Hh (bthen HW.out (bthen (below_drew _) (grow_below hXx)))
   have c0 : wx.cell? ⟨g0, 0, none⟩ = some (.bool p.six) := HK2.out.cell 0
   have hr := HK2.out.range 1 16
   rw [p.drop_addr HP.out.addr] at hr
   have HR := Hh hr
   clear hXx hr hbx
   go_wp2_with (refine wpList_value (by rfl) (exec_load_mid 23 _ rfl g0 1 (by rfl) (bv p.addr) _ HR.out Try.underlying23 rfl (size16 _ HP.out.addr)) ?_)
   refine (of_any p.six p.addr HP.out.addr n HNM.out wx).mono ?_
   rintro e w5 ⟨rfl, hb⟩
   have hz := HRZ.out.on hb
   have hB5 := bthen HW.out hb
   have hfl : (ofF p.six p.addr n).addr.length = 16 := by show (firstF p.addr n).length = 16; rw [firstF_length, HP.out.addr]
   have HFL := Hh hfl
   clear hb c0 hfl
   go_wp2_with (refine wpList_store_all (by rfl) 30 _ _ rfl g2 (ofF p.six p.addr n).cells rfl rfl 30 _ hz (sizePx _ HFL.out) (Px.cells_same _ _ HFL.out rfl) (onePx _) ?_; intro w6 hb6 hg6 hs6)
   have hB6 : Below w.heap.size w w6 := bgrown hB5 hg6 hB5.size HG2.out
   refine bodyPost_ret (results_cell2 rfl _ _ g2 _ _ _ rfl hb6 Try.underlying30 rfl (sizePx _ HFL.out)) rfl ?_
   exact ⟨by rw [HLN.out]; rfl, hB6⟩
  have hli : ¬ (n : Int) < (m : Int) := by omega
  have HLN := Hh (lcp_count p.bits q.bits n (by rw [HPG.out.bits_length]; have := HML.out; omega) (by rw [HQG.out.bits_length]; have := HML.out; omega) HJ.out (by
   rw [HPG.out.bits_length, HQG.out.bits_length]
   have := HML.out
   rcases this.2.2 with h | h
   ·exact .inl (by omega)
   exact .inr (.inl (by omega)))).symm
  go_wp2_with fail
  refine wp_region_rel (fun A B => A.grownBy B none) (fun A => grown_refl A _) (fun A B C h k => grown_trans h k) (relAt (eqs [.int .i64 (n : Int), .pointer (some ⟨g0, 17, none⟩), .int .i64 p.len, .pointer (some ⟨g1, 17, none⟩), .int .i64 q.len, .int .i64 (m : Int), .bool false, .bool false, undef, undef, undef, undef, undef, undef, undef, undef, undef, .bool false])) (MonoL.at_ (eqs_mono _)) (by kernel_rfl) (by kernel_rfl) ⟨?_, ?_, ?_, ?_, ?_, ?_, ?_, ?_, ?_, ?_, ?_, ?_, ?_, ?_, ?_, ?_, ?_, ?_, trivial⟩ ?_
  ·intro a vs W hX hR he hf K hK
   refine wn rfl ?_
   have e6 : a.eval (.tmp 6) = .int .i64 (n : Int) := hf 6 (by kernel_rfl)
   refine wV hK rfl ?_
   simp only [execOp, e6]
   try go_simp
  ·intro a vs W hX hR he hf K hK
   refine wn rfl ?_
   have e2 : a.eval (.tmp 2) = .pointer (some ⟨g0, 0, none⟩) := hf 2 (by kernel_rfl)
   refine wV hK rfl ?_
   simp only [execOp, e2]
   try go_simp
  ·intro a vs W hX hR he hf K hK
   refine wn rfl ?_
   have e14 : a.eval (.tmp 14) = .pointer (some ⟨g0, 17, none⟩) := eH he hR 1 (by kernel_rfl) rfl
   have hbW := bthen (below_drew _) (grow_below hX)
   have hc : W.cell? ⟨g0, 17, none⟩ = some (.int .i64 p.len) := ((HK0.out.on hbW).cell 17).trans (p.get_len HP.out.addr)
   refine wV hK rfl ?_
   simp only [execOp, e14]
   try go_simp
  ·intro a vs W hX hR he hf K hK
   refine wn rfl ?_
   have e3 : a.eval (.tmp 3) = .pointer (some ⟨g1, 0, none⟩) := hf 3 (by kernel_rfl)
   refine wV hK rfl ?_
   simp only [execOp, e3]
   try go_simp
  ·intro a vs W hX hR he hf K hK
   refine wn rfl ?_
   have e16 : a.eval (.tmp 16) = .pointer (some ⟨g1, 17, none⟩) := eH he hR 3 (by kernel_rfl) rfl
   have hbW := bthen (below_drew _) (grow_below hX)
   have hc : W.cell? ⟨g1, 17, none⟩ = some (.int .i64 q.len) := ((HK1.out.on hbW).cell 17).trans (q.get_len HQ.out.addr)
   refine wV hK rfl ?_
   simp only [execOp, e16]
   try go_simp
  ·intro a vs W hX hR he hf K hK
   refine wn rfl ?_
   have e15 : a.eval (.tmp 15) = .int .i64 p.len := eH he hR 2 (by kernel_rfl) rfl
   have e17 : a.eval (.tmp 17) = .int .i64 q.len := eH he hR 4 (by kernel_rfl) rfl
   have f15 := e15
   simp only [Act.eval, Array.getD_eq_getD_getElem?] at f15
   have f17 := e17
   simp only [Act.eval, Array.getD_eq_getD_getElem?] at f17
   refine wV hK rfl ?_
   have h9 := HM.out
   simp only [execOp, e15, e17]
   go_simp
   repeat' split
   all_goals omega
  ·intro a vs W hX hR he hf K hK
   refine wn rfl ?_
   have e13 : a.eval (.tmp 13) = .int .i64 (n : Int) := eH he hR 0 (by kernel_rfl) rfl
   have e18 : a.eval (.tmp 18) = .int .i64 (m : Int) := eH he hR 5 (by kernel_rfl) rfl
   refine wV hK rfl ?_
   simp only [execOp, e13, e18]
   try go_simp
  ·intro a vs W hX hR he hf K hK
   refine wn rfl ?_
   have e19 : a.eval (.tmp 19) = .bool false := eH he hR 6 (by kernel_rfl) rfl
   refine wV hK rfl ?_
   simp only [execOp, e19]
   try go_simp
  ·intro a vs W hX hR he hf K hK
   have e20 : a.eval (.tmp 20) = .bool false := eH he hR 7 (by kernel_rfl) rfl
   exact gN e20 rfl rfl rfl (gK hK rfl)
  ·intro a vs W hX hR he hf K hK
   have e20 : a.eval (.tmp 20) = .bool false := eH he hR 7 (by kernel_rfl) rfl
   exact gN e20 rfl rfl rfl (gK hK rfl)
  ·intro a vs W hX hR he hf K hK
   have e20 : a.eval (.tmp 20) = .bool false := eH he hR 7 (by kernel_rfl) rfl
   exact gN e20 rfl rfl rfl (gK hK rfl)
  ·intro a vs W hX hR he hf K hK
   have e20 : a.eval (.tmp 20) = .bool false := eH he hR 7 (by kernel_rfl) rfl
   exact gN e20 rfl rfl rfl (gK hK rfl)
  ·intro a vs W hX hR he hf K hK
   have e20 : a.eval (.tmp 20) = .bool false := eH he hR 7 (by kernel_rfl) rfl
   exact gN e20 rfl rfl rfl (gK hK rfl)
  ·intro a vs W hX hR he hf K hK
   have e20 : a.eval (.tmp 20) = .bool false := eH he hR 7 (by kernel_rfl) rfl
   exact gN e20 rfl rfl rfl (gK hK rfl)
  ·intro a vs W hX hR he hf K hK
   have e20 : a.eval (.tmp 20) = .bool false := eH he hR 7 (by kernel_rfl) rfl
   exact gN e20 rfl rfl rfl (gK hK rfl)
  ·intro a vs W hX hR he hf K hK
   have e20 : a.eval (.tmp 20) = .bool false := eH he hR 7 (by kernel_rfl) rfl
   exact gN e20 rfl rfl rfl (gK hK rfl)
  ·intro a vs W hX hR he hf K hK
   have e20 : a.eval (.tmp 20) = .bool false := eH he hR 7 (by kernel_rfl) rfl
   exact gN e20 rfl rfl rfl (gK hK rfl)
  ·intro a vs W hX hR he hf K hK
   refine wn rfl ?_
   have e20 : a.eval (.tmp 20) = .bool false := eH he hR 7 (by kernel_rfl) rfl
   have e29 : a.eval (.tmp 29) = undef := eH he hR 16 (by kernel_rfl) rfl
   refine wV hK rfl ?_
   simp only [execOp, e20, e29]
   try go_simp
  intro vs wx hXx hR
  rw [put_eqs hR rfl]
  simp only [putL, Act.put, List.setIfInBounds_toArray, List.set_cons_zero, List.set_cons_succ]
  clear hR
  have hbx := hBE.out.trans ((bthen (below_drew _) (grow_below hXx)).mono hBE.out.size)
  replace HRZ := Hh (HRZ.out.on (bthen (below_drew _) (grow_below hXx)))
  have HK2 := Hh (HK0.out.on (bthen (below_drew _) (grow_below hXx)))
  replace HW := Hh (bthen HW.out (bthen (below_drew _) (grow_below hXx)))
  have c0 : wx.cell? ⟨g0, 0, none⟩ = some (.bool p.six) := HK2.out.cell 0
  have hr := HK2.out.range 1 16
  rw [p.drop_addr HP.out.addr] at hr
  have HR := Hh hr
  clear hXx hr hbx
  go_wp2_with (refine wpList_value (by rfl) (exec_load_mid 23 _ rfl g0 1 (by rfl) (bv p.addr) _ HR.out Try.underlying23 rfl (size16 _ HP.out.addr)) ?_)
  refine (of_any p.six p.addr HP.out.addr n HNM.out wx).mono ?_
  rintro e w5 ⟨rfl, hb⟩
  have hz := HRZ.out.on hb
  have hB5 := bthen HW.out hb
  have hfl : (ofF p.six p.addr n).addr.length = 16 := by show (firstF p.addr n).length = 16; rw [firstF_length, HP.out.addr]
  have HFL := Hh hfl
  clear hb c0 hfl
  go_wp2_with (refine wpList_store_all (by rfl) 30 _ _ rfl g2 (ofF p.six p.addr n).cells rfl rfl 30 _ hz (sizePx _ HFL.out) (Px.cells_same _ _ HFL.out rfl) (onePx _) ?_; intro w6 hb6 hg6 hs6)
  have hB6 : Below w.heap.size w w6 := bgrown hB5 hg6 hB5.size HG2.out
  refine bodyPost_ret (results_cell2 rfl _ _ g2 _ _ _ rfl hb6 Try.underlying30 rfl (sizePx _ HFL.out)) rfl ?_
  exact ⟨by rw [HLN.out]; rfl, hB6⟩
end Go.Proofs.Ytdmgomknamdcfaa


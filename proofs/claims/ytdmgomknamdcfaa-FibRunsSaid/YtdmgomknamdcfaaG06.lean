/- Texts of this claim put together, in build order: each one's own remark stands ahead of it. -/
import Derived.Test.YtdmgomknamdcfaaG02
import Derived.Test.YtdmgomknamdcfaaG05
/- What prefix.first (layer 8) computes: the first bits of an address. No condition. -/
namespace Go.Proofs.Ytdmgomknamdcfaa
open Go.RowKit
set_option linter.unusedVariables false
set_option maxRecDepth 20000
set_option linter.unusedSimpArgs false

section
variable {P : Program} {w : World} {o : Oper} {a : Act} {ops : Array Oper} {rest : List Oper} {Q : Exit → Act → World → Prop}
theorem exec_box1 (T : TypeId) (x : Operand) (ho : o.op = .box T x) (v : Value) (hx : a.eval x = v) (hv : v.cells = #[v]) :
  (execOp a.eval o).run P w = .ok (.value (.pointer (some ⟨w.heap.size, 0, none⟩))) (w.alloc (.cells #[v] T)) := by
 unfold execOp
 simp only [ho, hx, Instr.box, Sem.run_bind, newVar, newRow, hv]
 rfl
theorem exec_alloc1 (T : TypeId) (ho : o.op = .alloc T) (v : Value) (hz : ∀ w, (zeroValue T).run P w = .ok v w) (hv : v.cells = #[v]) :
  (execOp a.eval o).run P w = .ok (.value (.pointer (some ⟨w.heap.size, 0, none⟩))) (w.alloc (.cells #[v] T)) := by
 unfold execOp
 simp only [ho, Instr.alloc, Sem.run_bind, hz, Result.andThen_ok, newVar, newRow, hv]
 rfl
theorem wpList_box1 (hgd : Region.wanted o (yielded ops a.tmps) = true) (T : TypeId) (x : Operand) (ho : o.op = .box T x) (v : Value) (hx : a.eval x = v) (hv : v.cells = #[v])
  (h : ∀ w', Blk w' w.heap.size T [v] → Below w.heap.size w w' → w'.heap.size = w.heap.size + 1 → wpList P ops Q rest (a.put o.dst (.pointer (some ⟨w.heap.size, 0, none⟩))) w') : wpList P ops Q (o :: rest) a w :=
 wpList_value hgd (exec_box1 T x ho v hx hv) (h _ (Blk.new w T [v]) (alloc_below w _) (by simp))
theorem wpList_alloc1 (hgd : Region.wanted o (yielded ops a.tmps) = true) (T : TypeId) (ho : o.op = .alloc T) (v : Value) (hz : ∀ w, (zeroValue T).run P w = .ok v w) (hv : v.cells = #[v])
  (h : ∀ w', Blk w' w.heap.size T [v] → Below w.heap.size w w' → w'.heap.size = w.heap.size + 1 → wpList P ops Q rest (a.put o.dst (.pointer (some ⟨w.heap.size, 0, none⟩))) w') : wpList P ops Q (o :: rest) a w :=
 wpList_value hgd (exec_alloc1 T ho v hz hv) (h _ (Blk.new w T [v]) (alloc_below w _) (by simp))
end
theorem exec_callv {w : World} {oo : Oper} {ca : Act} (x y : Operand) (tys : Array TypeId) (m : Nat) (rs : Array Value) (v : Value) (ho : oo.op = .call { callee := .value x, args := #[y], argTypes := tys }) (hx : ca.eval x = .func (.func m) #[] rs) (hy : ca.eval y = v)
  (hf : (callFunc m (#[v] ++ rs)).run Try.prog w = .ok (.enter m (#[v] ++ rs)) w) : (execOp ca.eval oo).run Try.prog w = .ok (.enter m (#[v] ++ rs)) w := by
 have hm : #[y].map ca.eval = #[v] := by simp [hy]
 unfold execOp
 simp only [ho]
 simp only [resolve, hx, hm]
 exact hf
section
variable {w : World} {o : Oper} {a : Act} {ops : Array Oper} {rest : List Oper} {Q : Exit → Act → World → Prop}
theorem wp_store_i64 {K : Act → World → Prop} (x y : Operand) (ho : o.op = .store 3 x y) (g j : Nat) (z : Int) (hx : a.eval x = .pointer (some ⟨g, j, none⟩)) (hy : a.eval y = .int .i64 z) (t : TypeId) (cs : List Value) (u : Value) (hb : Blk w g t cs) (hj : cs[j]? = some u)
  (h : ∀ w', Blk w' g t (cs.set j (.int .i64 z)) → w.grownBy w' (some g) → w'.heap.size = w.heap.size → K (a.put o.dst undef) w') : o.wp Try.prog a w K Q :=
 wp_skip (w' := w.setCell ⟨g, j, none⟩ (.int .i64 z)) (by
  have hc := (hb.cell j).trans hj
  have hf := hb.frozen j
  unfold execOp
  simp only [ho, hx, hy]
  go_simp) (h _ (hb.set j _) (grown_setCells g [.int .i64 z] j w w (grown_refl w _)) (by simp))
theorem wpList_store_i64 (hgd : Region.wanted o (yielded ops a.tmps) = true) (x y : Operand) (ho : o.op = .store 3 x y) (g j : Nat) (z : Int) (hx : a.eval x = .pointer (some ⟨g, j, none⟩)) (hy : a.eval y = .int .i64 z) (t : TypeId) (cs : List Value) (u : Value) (hb : Blk w g t cs) (hj : cs[j]? = some u)
  (h : ∀ w', Blk w' g t (cs.set j (.int .i64 z)) → w.grownBy w' (some g) → w'.heap.size = w.heap.size → wpList Try.prog ops Q rest (a.put o.dst undef) w') : wpList Try.prog ops Q (o :: rest) a w :=
 wpList_wanted hgd fun _ hK => wp_store_i64 x y ho g j z hx hy t cs u hb hj fun w' h1 h2 h3 => hK _ _ (h w' h1 h2 h3)
theorem wp_store_by {K : Act → World → Prop} (x y : Operand) (ho : o.op = .store 5 x y) (g j : Nat) (z : Int) (hx : a.eval x = .pointer (some ⟨g, j, none⟩)) (hy : a.eval y = .int .u8 z) (t : TypeId) (cs : List Value) (u : Value) (hb : Blk w g t cs) (hj : cs[j]? = some u)
  (h : ∀ w', Blk w' g t (cs.set j (.int .u8 z)) → w.grownBy w' (some g) → w'.heap.size = w.heap.size → K (a.put o.dst undef) w') : o.wp Try.prog a w K Q :=
 wp_skip (w' := w.setCell ⟨g, j, none⟩ (.int .u8 z)) (by
  have hc := (hb.cell j).trans hj
  have hf := hb.frozen j
  unfold execOp
  simp only [ho, hx, hy]
  go_simp) (h _ (hb.set j _) (grown_setCells g [.int .u8 z] j w w (grown_refl w _)) (by simp))
end
def zz16 : List UInt8 := [0, 0, 0, 0, 0, 0, 0, 0, 0, 0, 0, 0, 0, 0, 0, 0]
theorem zero16 (w : World) : (zeroValue 23).run Try.prog w = .ok (.agg (bv zz16).toArray) w := by kernel_rfl
theorem size16 (l : List UInt8) (h : l.length = 16) : (Try.prog.info? 23).map (·.size) = some (bv l).length := by rw [bv_length, h]; kernel_rfl
theorem firstF_get : ∀ (a : List UInt8) (n k : Nat) (u : UInt8), a[k]? = some u → (firstF a n)[k]? = some (UInt8.ofNat (maskN u.toNat (min (n - 8 * k) 8)))
 | [], _, _, _, h => by simp at h
 | v :: a, n, 0, u, h => by
  simp at h
  subst h
  simp [firstF]
 | v :: a, n, k + 1, u, h => by
  have ih := firstF_get a (n - 8) k u (by simpa using h)
  show (firstF a (n - 8))[k]? = _
  rw [ih, show n - 8 - 8 * k = n - 8 * (k + 1) by omega]
/-- an address, its first k bytes cut -/
def mixF (a : List UInt8) (n k : Nat) : List UInt8 := (firstF a n).take k ++ a.drop k
theorem mixF_get (a : List UInt8) (n k : Nat) (h : k < a.length) : (mixF a n k)[k]? = a[k]? := by
 unfold mixF
 rw [List.getElem?_append_right (by rw [List.length_take, firstF_length]; omega), List.length_take, firstF_length, Nat.min_eq_left (by omega), Nat.sub_self, List.getElem?_drop, Nat.add_zero]
theorem mixF_set (a : List UInt8) (n k : Nat) (u : UInt8) (h : a[k]? = some u) : (mixF a n k).set k (UInt8.ofNat (maskN u.toNat (min (n - 8 * k) 8))) = mixF a n (k + 1) := by
 have hk := (List.getElem?_eq_some_iff.1 h).1
 have hf := firstF_get a n k u h
 unfold mixF
 rw [List.set_append_right _ _ (by rw [List.length_take, firstF_length]; omega), List.length_take, firstF_length, Nat.min_eq_left (by omega), Nat.sub_self, List.drop_eq_getElem_cons hk, List.set_cons_zero, List.take_add_one, hf, List.append_assoc]
 rfl
theorem bv_setU (l : List UInt8) (j : Nat) (u : UInt8) : bv (l.set j u) = (bv l).set j (.int .u8 (u.toNat : Int)) := by simp [bv, List.map_set]
set_option maxHeartbeats 4000000 in
theorem first_any (a : List UInt8) (ha : a.length = 16) (n : Int) (h0 : -9223372036854775808 ≤ n) (h1 : n ≤ 9223372036854775807) (w : World) :
  Calls Try.prog 60 #[.agg (bv a).toArray, .int .i64 n] w fun e w' => e = .returned (.agg (bv (firstF a n.toNat)).toArray) ∧ Below w.heap.size w w' := by
 obtain ⟨B, hB⟩ : ∃ B, n.toNat = B := ⟨_, rfl⟩
 have HBN := Hh hB
 have hBm : B ≤ 9223372036854775807 := by omega
 have HA := Hh ha
 rw [hB]
 obtain ⟨g0, hg0⟩ : ∃ g, w.heap.size = g := ⟨_, rfl⟩
 have HG := Hh hg0
 clear ha hB
 go_enter Try.func60, Try.ntmps60
 go_upto_region 1 with (first
  | (refine wpList_box_blk (by rfl) 23 (.tmp 0) rfl (bv a) rfl ?_; intro w1 hb1 hB1 hs1; clear hs1)
  | (refine wpList_box1 (by rfl) 3 (.tmp 1) rfl (.int .i64 n) rfl rfl ?_; intro w2 hb2 hB2 hs2; clear hs2)
  | (refine wpList_alloc_blk (by rfl) 23 rfl (bv zz16) zero16 ?_; intro w3 hb3 hB3 hs3; clear hs3))
 obtain ⟨g1, hg1⟩ : ∃ g, w1.heap.size = g := ⟨_, rfl⟩
 obtain ⟨g2, hg2⟩ : ∃ g, w2.heap.size = g := ⟨_, rfl⟩
 have l1 := hb1.lt
 have l2 := hb2.lt
 have hk0 := (hb1.on hB2).on hB3
 have hk1 := hb2.on hB3
 rw [hg0] at hk0 l1
 rw [hg1] at hk1 l2
 rw [hg2] at hb3
 rw [hg1] at l1
 rw [hg2] at l2
 try rw [hg0]
 try rw [hg1]
 try rw [hg2]
 have n01 : g0 ≠ g1 := by omega
 have n02 : g0 ≠ g2 := by omega
 have n12 : g1 ≠ g2 := by omega
 have HB0 := Hh hk0
 have HB1 := Hh hk1
 have HB2 := Hh hb3
 have HW := Hh (bthen (bthen hB1 hB2) hB3)
 have hd1 : w3.cell? ⟨g1, 0, none⟩ = some (.int .i64 n) := hk1.cell 0
 have hgw : w.heap.size ≤ g1 := by omega
 clear hb1 hB1 hb2 hB2 hb3 hB3 hk0 hk1 hg0 hg1 hg2
 have hfin : (n < 0 ∧ B = 0) ∨ (¬ n < 0 ∧ (B : Int) = n) := by have := HBN.out; omega
 rcases hfin with ⟨hn, hB0⟩ | ⟨hn, hB0⟩
 ·go_upto_region 2 with (refine wpList_store_i64 (by rfl) _ _ rfl g1 0 0 rfl (by rfl) 3 _ _ HB1.out rfl ?_; intro w4 hb4 hg4 hs4)
  have hk4 : Blk w4 g1 3 [.int .i64 (B : Int)] := by subst hB0; exact hb4
  replace HB0 := Hh (HB0.out.grown hg4 (fun e => n01 (by injection e)))
  replace HB2 := Hh (HB2.out.grown hg4 (fun e => n12 (by injection e with e; exact e.symm)))
  replace HB1 := Hh hk4
  replace HW := Hh (bgrown HW.out hg4 HW.out.size hgw)
  have H16 := Hh (show mixF a B 0 = a by unfold mixF; simp)
  clear hd1 hb4 hg4 hs4 hk4 hn hB0
  go_wp2_with fail
  go_loopw [10] (fun i wr => ∃ k : Nat, k ≤ 16 ∧ i = .int .i64 (k : Nat) ∧ Blk wr g0 23 (bv (mixF a B k)) ∧ Blk wr g1 3 [.int .i64 (B : Int)] ∧ Blk wr g2 23 (bv zz16) ∧ Below w.heap.size w wr) (fun i _ => 16 - (intOf i).toNat)
  case atStart => exact ⟨0, by omega, rfl, by rw [H16.out]; exact HB0.out, HB1.out, HB2.out, HW.out⟩
  case round =>
   obtain ⟨k, hk, rfl, hb0, hb1, hb2, hbw⟩ := hrel
   replace HB0 := Hh hb0
   replace HB1 := Hh hb1
   replace HB2 := Hh hb2
   replace HW := Hh hbw
   clear hb0 hb1 hb2 hbw
   by_cases hk16 : k < 16
   ·have hki : (k : Int) < 16 := by omega
    obtain ⟨u, hu⟩ := get_ex a (k := k) (by rw [HA.out]; exact hk16)
    have HU := Hh hu
    have HMU := Hh (show (bv (mixF a B k))[k]? = some (.int .u8 (u.toNat : Int)) from bv_get _ _ u (by rw [mixF_get a B k (by rw [HA.out]; exact hk16)]; exact hu))
    clear hu
    go_wp2_with fail
    refine wp_region_last 8 (fun A B => A.grownBy B none) (fun A => grown_refl A _) (fun A B C h k => grown_trans h k) (relAt (eqs [.int .i64 (k : Int), .pointer (some ⟨g0, k, none⟩), .int .u8 (u.toNat : Int), .func (.func 73) #[] #[.pointer (some ⟨g1, 0, none⟩)], .int .i64 (k : Int), .int .u8 ((keepN (min (B - 8 * k) 8) : Nat) : Int), .int .u8 ((maskN u.toNat (min (B - 8 * k) 8) : Nat) : Int), .pointer (some ⟨g0, k, none⟩)])) (MonoL.at_ (eqs_mono _)) (by kernel_rfl) (by kernel_rfl) rfl (by kernel_rfl) _ rfl rfl ⟨?_, ?_, ?_, ?_, ?_, ?_, ?_, ?_, trivial⟩ ?_
    ·intro a vs W hX hR he hf K hK
     refine wn rfl ?_
     have e6 : a.eval (.tmp 6) = .int .i64 (k : Int) := hf 6 (by kernel_rfl)
     refine wV hK rfl ?_
     simp only [execOp, e6]
     try go_simp
    ·intro a vs W hX hR he hf K hK
     refine wn rfl ?_
     have e2 : a.eval (.tmp 2) = .pointer (some ⟨g0, 0, none⟩) := hf 2 (by kernel_rfl)
     have e13 : a.eval (.tmp 13) = .int .i64 (k : Int) := eH he hR 0 (by kernel_rfl) rfl
     refine wV hK rfl ?_
     simp only [execOp, e2, e13]
     go_simp
     skip
    ·intro a vs W hX hR he hf K hK
     refine wn rfl ?_
     have e14 : a.eval (.tmp 14) = .pointer (some ⟨g0, k, none⟩) := eH he hR 1 (by kernel_rfl) rfl
     have hbW := bthen (below_drew _) (grow_below hX)
     have hc := ((HB0.out.on hbW).cell k).trans HMU.out
     refine wV hK rfl ?_
     simp only [execOp, e14]
     go_simp
    ·intro a vs W hX hR he hf K hK
     refine wn rfl ?_
     have e5 : a.eval (.tmp 5) = .func (.func 73) #[] #[.pointer (some ⟨g1, 0, none⟩)] := hf 5 (by kernel_rfl)
     refine wV hK rfl ?_
     simp only [execOp, e5]
     try go_simp
    ·intro a vs W hX hR he hf K hK
     refine wn rfl ?_
     have e6 : a.eval (.tmp 6) = .int .i64 (k : Int) := hf 6 (by kernel_rfl)
     refine wV hK rfl ?_
     simp only [execOp, e6]
     try go_simp
    ·intro a vs W hX hR he hf K hK
     refine wn rfl ?_
     have e16 : a.eval (.tmp 16) = .func (.func 73) #[] #[.pointer (some ⟨g1, 0, none⟩)] := eH he hR 3 (by kernel_rfl) rfl
     have e17 : a.eval (.tmp 17) = .int .i64 (k : Int) := eH he hR 4 (by kernel_rfl) rfl
     have hbW := bthen (below_drew _) (grow_below hX)
     refine wp_enter (f := 73) (args := #[.int .i64 (k : Int), .pointer (some ⟨g1, 0, none⟩)]) (exec_callv _ _ _ _ #[.pointer (some ⟨g1, 0, none⟩)] _ rfl e16 e17 (by kernel_rfl)) ((keep_any g1 B k hBm hk16 W ((HB1.out.on hbW).cell 0)).mono ?_)
     rintro e w' ⟨rfl, rfl⟩
     exact ⟨_, rfl, hK _ _ rfl (grown_refl W _)⟩
    ·intro a vs W hX hR he hf K hK
     refine wn rfl ?_
     have e15 : a.eval (.tmp 15) = .int .u8 (u.toNat : Int) := eH he hR 2 (by kernel_rfl) rfl
     have e18 : a.eval (.tmp 18) = .int .u8 ((keepN (min (B - 8 * k) 8) : Nat) : Int) := eH he hR 5 (by kernel_rfl) rfl
     refine wV hK rfl ?_
     rw [← and_keep u.toNat (min (B - 8 * k) 8) u.toNat_lt (by omega)]
     simp only [execOp, e15, e18]
     go_simp
    ·intro a vs W hX hR he hf K hK
     refine wn rfl ?_
     have e2 : a.eval (.tmp 2) = .pointer (some ⟨g0, 0, none⟩) := hf 2 (by kernel_rfl)
     have e13 : a.eval (.tmp 13) = .int .i64 (k : Int) := eH he hR 0 (by kernel_rfl) rfl
     refine wV hK rfl ?_
     simp only [execOp, e2, e13]
     go_simp
     skip
    intro vs wx hXx hR
    rw [put_eqsT hR rfl]
    simp only [putL, Act.put, List.setIfInBounds_toArray, List.set_cons_zero, List.set_cons_succ, List.take_succ_cons, List.take_zero]
    clear hR
    have hbW := bthen (below_drew _) (grow_below hXx)
    have hk0 := HB0.out.on hbW
    have hk1 := HB1.out.on hbW
    have hk2 := HB2.out.on hbW
    have hW := bthen HW.out hbW
    refine wp_store_by _ _ rfl g0 k ((maskN u.toNat (min (B - 8 * k) 8) : Nat) : Int) rfl rfl 23 _ _ hk0 HMU.out ?_
    intro wy hky hgy hsy
    try simp only [List.getElem_toArray, List.getElem_cons_succ, List.getElem_cons_zero, Act.put, List.setIfInBounds_toArray, List.set_cons_zero, List.set_cons_succ]
    have hmix : (bv (mixF a B k)).set k (.int .u8 ((maskN u.toNat (min (B - 8 * k) 8) : Nat) : Int)) = bv (mixF a B (k + 1)) := by
     rw [← mixF_set a B k u HU.out, bv_setU, UInt8.toNat_ofNat', Nat.mod_eq_of_lt (maskN_lt _ _ u.toNat_lt)]
    rw [hmix] at hky
    have q1 := hk1.grown hgy (fun e => n01 (by injection e with e; exact e.symm))
    have q2 := hk2.grown hgy (fun e => n02 (by injection e with e; exact e.symm))
    have hWy := bgrown hW hgy hW.size (by have := HG.out; omega)
    clear hXx hbW hk0 hk1 hk2 hW hgy hsy hmix
    go_wp2_with fail
    go_roundw
    case rel => exact ⟨k + 1, by omega, by simp, hky, q1, q2, hWy⟩
    case measure => simp [intOf]; omega
   obtain rfl : k = 16 := by omega
   have HF := Hh (show mixF a B 16 = firstF a B by unfold mixF; rw [List.take_of_length_le (by rw [firstF_length, HA.out]; omega), List.drop_eq_nil_of_le (by rw [HA.out]; omega), List.append_nil])
   rw [HF.out] at HB0
   have hfl : (firstF a B).length = 16 := by rw [firstF_length, HA.out]
   go_wp2_with (first
    | (refine wpList_load_blk (by rfl) 23 _ rfl g0 rfl 23 _ _ HB0.out Try.underlying23 rfl (size16 _ hfl) ?_)
    | (refine wpList_store_all (by rfl) 23 _ _ rfl g2 (bv (firstF a B)) rfl rfl 23 _ HB2.out (size16 _ hfl) (by rw [bv_length, bv_length, hfl]; rfl) (bv_one _) ?_; intro wz hbz hgz hsz))
   have hBz : Below w.heap.size w wz := bgrown HW.out hgz HW.out.size (by have := HG.out; omega)
   exact bodyPost_ret (results_cell1 rfl _ _ g2 _ _ _ rfl hbz Try.underlying23 rfl (size16 _ hfl)) rfl ⟨rfl, by first | exact hBz | (have h := hBz; rw [HG.out] at h; exact h)⟩
 go_upto_region 2 with (refine wpList_store_i64 (by rfl) _ _ rfl g1 0 n rfl (by rfl) 3 _ _ HB1.out rfl ?_; intro w4 hb4 hg4 hs4)
 have hk4 : Blk w4 g1 3 [.int .i64 (B : Int)] := by rw [hB0]; exact hb4
 replace HB0 := Hh (HB0.out.grown hg4 (fun e => n01 (by injection e)))
 replace HB2 := Hh (HB2.out.grown hg4 (fun e => n12 (by injection e with e; exact e.symm)))
 replace HB1 := Hh hk4
 replace HW := Hh (bgrown HW.out hg4 HW.out.size hgw)
 have H16 := Hh (show mixF a B 0 = a by unfold mixF; simp)
 clear hd1 hb4 hg4 hs4 hk4 hn hB0
 go_wp2_with fail
 go_loopw [10] (fun i wr => ∃ k : Nat, k ≤ 16 ∧ i = .int .i64 (k : Nat) ∧ Blk wr g0 23 (bv (mixF a B k)) ∧ Blk wr g1 3 [.int .i64 (B : Int)] ∧ Blk wr g2 23 (bv zz16) ∧ Below w.heap.size w wr) (fun i _ => 16 - (intOf i).toNat)
 case atStart => exact ⟨0, by omega, rfl, by rw [H16.out]; exact HB0.out, HB1.out, HB2.out, HW.out⟩
 case round =>
  obtain ⟨k, hk, rfl, hb0, hb1, hb2, hbw⟩ := hrel
  replace HB0 := Hh hb0
  replace HB1 := Hh hb1
  replace HB2 := Hh hb2
  replace HW := Hh hbw
  clear hb0 hb1 hb2 hbw
  by_cases hk16 : k < 16
  ·have hki : (k : Int) < 16 := by omega
   obtain ⟨u, hu⟩ := get_ex a (k := k) (by rw [HA.out]; exact hk16)
   have HU := Hh hu
   have HMU := Hh (show (bv (mixF a B k))[k]? = some (.int .u8 (u.toNat : Int)) from bv_get _ _ u (by rw [mixF_get a B k (by rw [HA.out]; exact hk16)]; exact hu))
   clear hu
   go_wp2_with fail
   refine wp_region_last 8 (fun A B => A.grownBy B none) (fun A => grown_refl A _) (fun A B C h k => grown_trans h k) (relAt (eqs [.int .i64 (k : Int), .pointer (some ⟨g0, k, none⟩), .int .u8 (u.toNat : Int), .func (.func 73) #[] #[.pointer (some ⟨g1, 0, none⟩)], .int .i64 (k : Int), .int .u8 ((keepN (min (B - 8 * k) 8) : Nat) : Int), .int .u8 ((maskN u.toNat (min (B - 8 * k) 8) : Nat) : Int), .pointer (some ⟨g0, k, none⟩)])) (MonoL.at_ (eqs_mono _)) (by kernel_rfl) (by kernel_rfl) rfl (by kernel_rfl) _ rfl rfl ⟨?_, ?_, ?_, ?_, ?_, ?_, ?_, ?_, trivial⟩ ?_
   ·intro a vs W hX hR he hf K hK
    refine wn rfl ?_
    have e6 : a.eval (.tmp 6) = .int .i64 (k : Int) := hf 6 (by kernel_rfl)
    refine wV hK rfl ?_
    simp only [execOp, e6]
    try go_simp
   ·intro a vs W hX hR he hf K hK
    refine wn rfl ?_
    have e2 : a.eval (.tmp 2) = .pointer (some ⟨g0, 0, none⟩) := hf 2 (by kernel_rfl)
    have e13 : a.eval (.tmp 13) = .int .i64 (k : Int) := eH he hR 0 (by kernel_rfl) rfl
    refine wV hK rfl ?_
    simp only [execOp, e2, e13]
    go_simp
    skip
   ·intro a vs W hX hR he hf K hK
    refine wn rfl ?_
    have e14 : a.eval (.tmp 14) = .pointer (some ⟨g0, k, none⟩) := eH he hR 1 (by kernel_rfl) rfl
    have hbW := bthen (below_drew _) (grow_below hX)
    have hc := ((HB0.out.on hbW).cell k).trans HMU.out
    refine wV hK rfl ?_
    simp only [execOp, e14]
    go_simp
   ·intro a vs W hX hR he hf K hK
    refine wn rfl ?_
    have e5 : a.eval (.tmp 5) = .func (.func 73) #[] #[.pointer (some ⟨g1, 0, none⟩)] := hf 5 (by kernel_rfl)
    refine wV hK rfl ?_
    simp only [execOp, e5]
    try go_simp
   ·intro a vs W hX hR he hf K hK
    refine wn rfl ?_
    have e6 : a.eval (.tmp 6) = .int .i64 (k : Int) := hf 6 (by kernel_rfl)
    refine wV hK rfl ?_
    simp only [execOp, e6]
    try go_simp
   ·intro a vs W hX hR he hf K hK
    refine wn rfl ?_
    have e16 : a.eval (.tmp 16) = .func (.func 73) #[] #[.pointer (some ⟨g1, 0, none⟩)] := eH he hR 3 (by kernel_rfl) rfl
    have e17 : a.eval (.tmp 17) = .int .i64 (k : Int) := eH he hR 4 (by kernel_rfl) rfl
    have hbW := bthen (below_drew _) (grow_below hX)
    refine wp_enter (f := 73) (args := #[.int .i64 (k : Int), .pointer (some ⟨g1, 0, none⟩)]) (exec_callv _ _ _ _ #[.pointer (some ⟨g1, 0, none⟩)] _ rfl e16 e17 (by kernel_rfl)) ((keep_any g1 B k hBm hk16 W ((HB1.out.on hbW).cell 0)).mono ?_)
    rintro e w' ⟨rfl, rfl⟩
    exact ⟨_, rfl, hK _ _ rfl (grown_refl W _)⟩
   ·intro a vs W hX hR he hf K hK
    refine wn rfl ?_
    have e15 : a.eval (.tmp 15) = .int .u8 (u.toNat : Int) := eH he hR 2 (by kernel_rfl) rfl
    have e18 : a.eval (.tmp 18) = .int .u8 ((keepN (min (B - 8 * k) 8) : Nat) : Int) := eH he hR 5 (by kernel_rfl) rfl
    refine wV hK rfl ?_
    rw [← and_keep u.toNat (min (B - 8 * k) 8) u.toNat_lt (by omega)]
    simp only [execOp, e15, e18]
    go_simp
   ·intro a vs W hX hR he hf K hK
    refine wn rfl ?_
    have e2 : a.eval (.tmp 2) = .pointer (some ⟨g0, 0, none⟩) := hf 2 (by kernel_rfl)
    have e13 : a.eval (.tmp 13) = .int .i64 (k : Int) := eH he hR 0 (by kernel_rfl) rfl
    refine wV hK rfl ?_
    simp only [execOp, e2, e13]
    go_simp
    skip
   intro vs wx hXx hR
   rw [put_eqsT hR rfl]
   simp only [putL, Act.put, List.setIfInBounds_toArray, List.set_cons_zero, List.set_cons_succ, List.take_succ_cons, List.take_zero]
   clear hR
   have hbW := bthen (below_drew _) (grow_below hXx)
   have hk0 := HB0.out.on hbW
   have hk1 := HB1.out.on hbW
   have hk2 := HB2.out.on hbW
   have hW := bthen HW.out hbW
   refine wp_store_by _ _ rfl g0 k ((maskN u.toNat (min (B - 8 * k) 8) : Nat) : Int) rfl rfl 23 _ _ hk0 HMU.out ?_
   intro wy hky hgy hsy
   try simp only [List.getElem_toArray, List.getElem_cons_succ, List.getElem_cons_zero, Act.put, List.setIfInBounds_toArray, List.set_cons_zero, List.set_cons_succ]
   have hmix : (bv (mixF a B k)).set k (.int .u8 ((maskN u.toNat (min (B - 8 * k) 8) : Nat) : Int)) = bv (mixF a B (k + 1)) := by
    rw [← mixF_set a B k u HU.out, bv_setU, UInt8.toNat_ofNat', Nat.mod_eq_of_lt (maskN_lt _ _ u.toNat_lt)]
   rw [hmix] at hky
   have q1 := hk1.grown hgy (fun e => n01 (by injection e with e; exact e.symm))
   have q2 := hk2.grown hgy (fun e => n02 (by injection e with e; exact e.symm))
   have hWy := bgrown hW hgy hW.size (by have := HG.out; omega)
   clear hXx hbW hk0 hk1 hk2 hW hgy hsy hmix
   go_wp2_with fail
   go_roundw
   case rel => exact ⟨k + 1, by omega, by simp, hky, q1, q2, hWy⟩
   case measure => simp [intOf]; omega
  obtain rfl : k = 16 := by omega
  have HF := Hh (show mixF a B 16 = firstF a B by unfold mixF; rw [List.take_of_length_le (by rw [firstF_length, HA.out]; omega), List.drop_eq_nil_of_le (by rw [HA.out]; omega), List.append_nil])
  rw [HF.out] at HB0
  have hfl : (firstF a B).length = 16 := by rw [firstF_length, HA.out]
  go_wp2_with (first
   | (refine wpList_load_blk (by rfl) 23 _ rfl g0 rfl 23 _ _ HB0.out Try.underlying23 rfl (size16 _ hfl) ?_)
   | (refine wpList_store_all (by rfl) 23 _ _ rfl g2 (bv (firstF a B)) rfl rfl 23 _ HB2.out (size16 _ hfl) (by rw [bv_length, bv_length, hfl]; rfl) (bv_one _) ?_; intro wz hbz hgz hsz))
  have hBz : Below w.heap.size w wz := bgrown HW.out hgz HW.out.size (by have := HG.out; omega)
  exact bodyPost_ret (results_cell1 rfl _ _ g2 _ _ _ rfl hbz Try.underlying23 rfl (size16 _ hfl)) rfl ⟨rfl, by first | exact hBz | (have h := hBz; rw [HG.out] at h; exact h)⟩
end Go.Proofs.Ytdmgomknamdcfaa


/- Texts of this claim put together, in build order: each one's own remark stands ahead of it. -/
import Derived.Test.YtdmgomknamdcfaaG02
import Derived.Test.YtdmgomknamdcfaaG16
import Derived.Deep.DeepCutAuto
/- What the table's Get, Put and Delete (layer 9) compute. No condition but sizes. -/
namespace Go.Proofs.Ytdmgomknamdcfaa
open Go.RowKit
set_option linter.unusedVariables false
set_option maxRecDepth 20000
set_option linter.unusedSimpArgs false

/-- a prefix's value, and whether it is there -/
def getT (t : Tb) (p : Px) (F : Nat) : Option (Int × Bool) :=
 if okT t.six p = true then
  match findN t.N p F t.root with
  | none => none
  | some r => match t.N[r]? with | none => none | some x => some (x.v, x.is)
 else some (0, false)
def putT (t : Tb) (p : Px) (vl : Int) (F : Nat) : Option (Int × Tb) :=
 if okT t.six p = true then
  match getT t p F with
  | none => none
  | some y =>
   if y.2 = false then
    if t.count = t.room then some (30, t) else
    match belowN F { t with count := t.count + 1 } t.root ⟨p, true, vl, 0, 0⟩ with
    | none => none
    | some (r, t') => some (0, { t' with root := r })
   else
    match belowN F t t.root ⟨p, true, vl, 0, 0⟩ with
    | none => none
    | some (r, t') => some (0, { t' with root := r })
 else some (1, t)
def delT (t : Tb) (p : Px) (F : Nat) : Option (Int × Tb) :=
 if okT t.six p = true then
  match getT t p F with
  | none => none
  | some y =>
   if y.2 = false then some (31, t) else
    match withoutN F { t with count := t.count - 1 } t.root p with
    | none => none
    | some (r, t') => some (0, { t' with root := r })
 else some (1, t)
theorem run_buildNd3 (p : Px) (hp : p.addr.length = 16) (vl : Int) (w : World) : (Instr.build 98 #[(0, .agg p.cells.toArray), (1, .bool true), (2, .int .i64 vl)]).run Try.prog w = .ok (.agg (Nd.cells ⟨p, true, vl, 0, 0⟩).toArray) w := by
 obtain ⟨b, l, m⟩ := p
 obtain ⟨s0, s1, s2, s3, s4, s5, s6, s7, s8, s9, s10, s11, s12, s13, s14, s15, rfl⟩ := list16p l hp
 kernel_rfl
theorem exec_buildNd3 {w : World} {o : Oper} {q : Act} (x0 x2 : Operand) (ho : o.op = .build 98 #[(0, x0), (1, .const (.bool true)), (2, x2)]) (p : Px) (hp : p.addr.length = 16) (vl : Int) (h0 : q.eval x0 = .agg p.cells.toArray) (h2 : q.eval x2 = .int .i64 vl) :
  (execOp q.eval o).run Try.prog w = .ok (.value (.agg (Nd.cells ⟨p, true, vl, 0, 0⟩).toArray)) w := by
 unfold execOp
 simp only [ho, List.map_toArray, List.map_cons, List.map_nil, h0, h2, Sem.run_bind, show q.eval (.const (.bool true)) = .bool true from rfl, run_buildNd3 p hp vl, Result.andThen_ok]
 rfl
theorem okT_good {six : Bool} {p : Px} (hf : p.fit) (h : okT six p = true) : p.good ∧ p.six = six := by
 unfold okT at h
 simp only [Bool.and_eq_true, decide_eq_true_eq, beq_iff_eq] at h
 exact ⟨(chkP_iff p hf.addr).1 h.1, h.2⟩
set_option maxHeartbeats 4000000 in
theorem tget_nil (p : Px) (hf : p.fit) (w : World) :
  Calls Try.prog 35 #[.pointer none, .agg p.cells.toArray] w fun e w' => e = .returned (.tuple #[.int .i64 0, .bool false]) ∧ Below w.heap.size w w' := by
 have HF := Hh hf
 clear hf
 go_enter Try.func35, Try.ntmps35
 go_upto_region 1 with (refine wpList_box_blk (by rfl) 30 (.tmp 1) rfl p.cells rfl ?_; intro w1 hb1 hB1 hs1; clear hs1)
 obtain ⟨g1, hg1⟩ : ∃ g, w.heap.size = g := ⟨_, rfl⟩
 rw [hg1] at hb1
 try rw [hg1]
 have HP := Hh hb1
 have HW := Hh hB1
 clear hb1 hB1 hg1
 go_wp2_with (refine wpList_value (by rfl) (exec_load 30 _ rfl g1 (by rfl) 30 p.cells _ HP.out Try.underlying30 rfl (sizePx _ HF.out.addr)) ?_)
 refine (tright_nil p w1).mono ?_
 rintro e w2 ⟨rfl, hb⟩
 replace HW := Hh (bthen HW.out hb)
 clear hb
 go_wp2_with fail
 go_ret2
 exact ⟨rfl, HW.out⟩
set_option maxHeartbeats 4000000 in
theorem tget_any (w : World) (g : Nat) (t : Tb) (A Af : Option Addr) (c cf : Nat) (hT : Tab w g t A c Af cf) (p : Px) (hf : p.fit) (F : Nat) (v0 : Int) (b0 : Bool) (hr : getT t p F = some (v0, b0)) :
  Calls Try.prog 35 #[.pointer (some ⟨g, 0, none⟩), .agg p.cells.toArray] w fun e w' => e = .returned (.tuple #[.int .i64 v0, .bool b0]) ∧ Below w.heap.size w w' := by
 have HF := Hh hf
 have HT := Hh hT
 clear hf hT
 go_enter Try.func35, Try.ntmps35
 go_upto_region 1 with (refine wpList_box_blk (by rfl) 30 (.tmp 1) rfl p.cells rfl ?_; intro w1 hb1 hB1 hs1; clear hs1)
 obtain ⟨g1, hg1⟩ : ∃ g, w.heap.size = g := ⟨_, rfl⟩
 rw [hg1] at hb1
 try rw [hg1]
 have HP1 := Hh hb1
 have HW1 := Hh hB1
 have HT1 := Hh (HT.out.on hB1)
 clear hb1 hB1 hg1 HT
 go_wp2_with (refine wpList_value (by rfl) (exec_load 30 _ rfl g1 (by rfl) 30 p.cells _ HP1.out Try.underlying30 rfl (sizePx _ HF.out.addr)) ?_)
 refine (tright_any w1 g t A Af c cf HT1.out p HF.out).mono ?_
 rintro e w2 ⟨rfl, hb⟩
 have HP := Hh (HP1.out.on hb)
 have HW := Hh (bthen HW1.out hb)
 have HT := Hh (HT1.out.on hb)
 clear hb HP1 HW1 HT1
 unfold getT at hr
 cases ho : okT t.six p
 ·rw [ho] at hr
  simp only [Bool.false_eq_true, if_false] at hr
  have HRES := Hh hr
  clear hr ho
  go_wp2_with fail
  go_ret2
  have h9 := HRES.out
  injection h9 with h9
  injection h9 with h9 h10
  subst h9 h10
  exact ⟨rfl, HW.out⟩
 rw [ho, if_pos rfl] at hr
 clear ho
 cases hfd : findN t.N p F t.root with
 | none => rw [hfd] at hr; cases hr
 | some r =>
  rw [hfd] at hr
  simp only [] at hr
  cases hx : t.N[r]? with
  | none => rw [hx] at hr; cases hr
  | some x =>
   rw [hx] at hr
   simp only [] at hr
   have HRES := Hh hr
   have HFD := Hh hfd
   have HNX := Hh hx
   have HXF := Hh (HT.out.fit x (List.mem_of_getElem? hx))
   obtain ⟨bA, hA, _, hba, _, hrr, _, hk1, _⟩ := HT.out.node hx
   subst hA
   have HXR := Hh hrr
   have HBA := Hh hba
   have HXL := Hh (x.cells_length HXF.out.addr)
   have hlt : (r : Int) < (t.N.length : Int) := by omega
   clear hr hfd hx hba hrr hk1
   go_wp2_with fail
   refine wp_region_last 10 (fun A B => A.grownBy B none) (fun A => grown_refl A _) (fun A B C h k => grown_trans h k) (relAt (List.cons (fun v _ => v = .pointer (some ⟨g, 0, none⟩)) (List.cons (fun v _ => v = .pointer (some ⟨g, 0, none⟩)) (List.cons (fun v _ => v = .pointer (some ⟨g, 3, none⟩)) (List.cons (fun v _ => v = .slice (some ⟨bA, 0, none⟩) t.N.length c) (List.cons (fun v _ => v = .pointer (some ⟨g, 0, none⟩)) (List.cons (fun v _ => v = .agg p.cells.toArray) (List.cons (fun v _ => v = .int .i64 (r : Int)) (List.cons (fun v _ => v = .pointer (some ⟨bA, r * 22, none⟩)) (List.cons (fun v _ => v = .agg x.cells.toArray) (List.cons (fun v W => ∃ g, v = .pointer (some ⟨g, 0, none⟩) ∧ w2.heap.size ≤ g ∧ Blk W g 98 Nd.zero.cells) ([])))))))))))) (MonoL.at_ (.cons (mono_val _) (.cons (mono_val _) (.cons (mono_val _) (.cons (mono_val _) (.cons (mono_val _) (.cons (mono_val _) (.cons (mono_val _) (.cons (mono_val _) (.cons (mono_val _) (.cons (fun _ _ _ ⟨g, hv, hg, hz⟩ hx => ⟨g, hv, hg, hz.on (grow_below hx)⟩) .nil))))))))))) (by kernel_rfl) (by kernel_rfl) rfl (by kernel_rfl) _ rfl rfl ⟨?_, ?_, ?_, ?_, ?_, ?_, ?_, ?_, ?_, ?_, trivial⟩ ?_
   ·intro a vs W hX hR he hf K hK
    refine wn rfl ?_
    have e0 : a.eval (.tmp 0) = .pointer (some ⟨g, 0, none⟩) := hf 0 (by kernel_rfl)
    refine wV hK rfl ?_
    simp only [execOp, e0]
    try go_simp
   ·intro a vs W hX hR he hf K hK
    refine wn rfl ?_
    have e11 : a.eval (.tmp 11) = .pointer (some ⟨g, 0, none⟩) := eH he hR 0 (by kernel_rfl) rfl
    refine wV hK rfl ?_
    simp only [execOp, e11]
    try go_simp
   ·intro a vs W hX hR he hf K hK
    refine wn rfl ?_
    have e12 : a.eval (.tmp 12) = .pointer (some ⟨g, 0, none⟩) := eH he hR 1 (by kernel_rfl) rfl
    refine wV hK rfl ?_
    simp only [execOp, e12]
    try go_simp
   ·intro a vs W hX hR he hf K hK
    refine wn rfl ?_
    have e13 : a.eval (.tmp 13) = .pointer (some ⟨g, 3, none⟩) := eH he hR 2 (by kernel_rfl) rfl
    have hbW := bthen (below_drew _) (grow_below hX)
    have hc : W.cell? ⟨g, 3, none⟩ = some (.slice (some ⟨bA, 0, none⟩) t.N.length c) := (HT.out.blk.on hbW).cell 3
    refine wV hK rfl ?_
    simp only [execOp, e13]
    try go_simp
   ·intro a vs W hX hR he hf K hK
    refine wn rfl ?_
    have e0 : a.eval (.tmp 0) = .pointer (some ⟨g, 0, none⟩) := hf 0 (by kernel_rfl)
    refine wV hK rfl ?_
    simp only [execOp, e0]
    try go_simp
   ·intro a vs W hX hR he hf K hK
    refine wn rfl ?_
    have e3 : a.eval (.tmp 3) = .pointer (some ⟨g1, 0, none⟩) := hf 3 (by kernel_rfl)
    have hbW := bthen (below_drew _) (grow_below hX)
    exact wp_value (exec_load 30 _ rfl g1 e3 30 p.cells _ (HP.out.on hbW) Try.underlying30 rfl (sizePx _ HF.out.addr)) (gK hK rfl)
   ·intro a vs W hX hR he hf K hK
    refine wn rfl ?_
    have e15 : a.eval (.tmp 15) = .pointer (some ⟨g, 0, none⟩) := eH he hR 4 (by kernel_rfl) rfl
    have e16 : a.eval (.tmp 16) = .agg p.cells.toArray := eH he hR 5 (by kernel_rfl) rfl
    have hbW := bthen (below_drew _) (grow_below hX)
    refine wp_enter (f := 58) (args := #[.pointer (some ⟨g, 0, none⟩), .agg p.cells.toArray]) (by simp only [execOp, e15, e16]; go_simp; exact ⟨by simpa [Act.eval] using e15, by simpa [Act.eval] using e16⟩) ((tfind_any W g t _ _ _ _ (HT.out.on hbW) p HF.out F r HFD.out).mono ?_)
    rintro e w' ⟨rfl, hb⟩
    exact ⟨_, rfl, hK _ _ rfl (below_grow hb _)⟩
   ·intro a vs W hX hR he hf K hK
    refine wn rfl ?_
    have e14 : a.eval (.tmp 14) = .slice (some ⟨bA, 0, none⟩) t.N.length c := eH he hR 3 (by kernel_rfl) rfl
    have e17 : a.eval (.tmp 17) = .int .i64 (r : Int) := eH he hR 6 (by kernel_rfl) rfl
    refine wV hK rfl ?_
    simp only [execOp, e14, e17]
    go_simp
   ·intro a vs W hX hR he hf K hK
    refine wn rfl ?_
    have e18 : a.eval (.tmp 18) = .pointer (some ⟨bA, r * 22, none⟩) := eH he hR 7 (by kernel_rfl) rfl
    have hbW := bthen (below_drew _) (grow_below hX)
    exact wp_value (exec_load_mid 98 _ rfl bA (r * 22) e18 x.cells _ (range_below hbW HBA.out HXR.out) Try.underlying98 rfl (sizeNd _ HXF.out.addr)) (gK hK rfl)
   ·intro a vs W hX hR he hf K hK
    refine wn rfl ?_
    refine wp_alloc_blk 98 rfl Nd.zero.cells zeroNd ?_
    intro g w' hbg hb' hs' hgs
    exact hK _ _ ⟨g, rfl, by rw [hgs]; exact (grow_below hX).size, hbg⟩ (below_grow hb' _)
   intro vs w4 hX4 hR
   have q0 : vs 0 = .pointer (some ⟨g, 0, none⟩) := hR 0 (by decide)
   have q1 : vs 1 = .pointer (some ⟨g, 0, none⟩) := hR 1 (by decide)
   have q2 : vs 2 = .pointer (some ⟨g, 3, none⟩) := hR 2 (by decide)
   have q3 : vs 3 = .slice (some ⟨bA, 0, none⟩) t.N.length c := hR 3 (by decide)
   have q4 : vs 4 = .pointer (some ⟨g, 0, none⟩) := hR 4 (by decide)
   have q5 : vs 5 = .agg p.cells.toArray := hR 5 (by decide)
   have q6 : vs 6 = .int .i64 (r : Int) := hR 6 (by decide)
   have q7 : vs 7 = .pointer (some ⟨bA, r * 22, none⟩) := hR 7 (by decide)
   have q8 : vs 8 = .agg x.cells.toArray := hR 8 (by decide)
   have q9 : (fun v W => ∃ g, v = .pointer (some ⟨g, 0, none⟩) ∧ w2.heap.size ≤ g ∧ Blk W g 98 Nd.zero.cells) (vs 9) w4 := hR 9 (by decide)
   simp only [putAll, Act.put, List.setIfInBounds_toArray, List.set_cons_zero, List.set_cons_succ, List.take_succ_cons, List.take_zero, q0, q1, q2, q3, q4, q5, q6, q7, q8]
   clear q0 q1 q2 q3 q4 q5 q6 q7 q8
   clear hR
   obtain ⟨g6, hv6, hg6, hbg⟩ := q9
   rw [hv6]
   have hbW := bthen (below_drew _) (grow_below hX4)
   have hB4 := bthen HW.out hbW
   refine wp_store_all 98 _ _ rfl g6 x.cells rfl rfl 98 _ hbg (sizeNd _ HXF.out.addr) (by rw [HXL.out]; rfl) x.one ?_
   intro w5 hk5 hg5 hs5
   have hB5 : Below w.heap.size w w5 := bgrown hB4 hg5 hB4.size (by have := HW.out.size; omega)
   try simp only [List.getElem_toArray, List.getElem_cons_succ, List.getElem_cons_zero, Act.put, List.setIfInBounds_toArray, List.set_cons_zero, List.set_cons_succ]
   have HN6 := Hh hk5
   have HW5 := Hh hB5
   clear hX4 hv6 hbg hbW hB4 hk5 hg5 hs5 hB5
   go_wp2_with fail
   refine wp_region_rel (fun A B => A.grownBy B none) (fun A => grown_refl A _) (fun A B C h k => grown_trans h k) (relAt (eqs [.pointer (some ⟨g6, 19, none⟩), .int .i64 x.v, .pointer (some ⟨g6, 18, none⟩), .bool x.is, .int .i64 x.v, .bool x.is])) (MonoL.at_ (eqs_mono _)) (by kernel_rfl) (by kernel_rfl) ⟨?_, ?_, ?_, ?_, ?_, ?_, trivial⟩ ?_
   ·intro a vs W hX hR he hf K hK
    refine wn rfl ?_
    have e6 : a.eval (.tmp 6) = .pointer (some ⟨g6, 0, none⟩) := hf 6 (by kernel_rfl)
    refine wV hK rfl ?_
    simp only [execOp, e6]
    try go_simp
   ·intro a vs W hX hR he hf K hK
    refine wn rfl ?_
    have e20 : a.eval (.tmp 20) = .pointer (some ⟨g6, 19, none⟩) := eH he hR 0 (by kernel_rfl) rfl
    have hbW := bthen (below_drew _) (grow_below hX)
    have hc : W.cell? ⟨g6, 19, none⟩ = some (.int .i64 x.v) := ((HN6.out.on hbW).cell 19).trans (x.get_v HXF.out.addr)
    refine wV hK rfl ?_
    simp only [execOp, e20]
    try go_simp
   ·intro a vs W hX hR he hf K hK
    refine wn rfl ?_
    have e6 : a.eval (.tmp 6) = .pointer (some ⟨g6, 0, none⟩) := hf 6 (by kernel_rfl)
    refine wV hK rfl ?_
    simp only [execOp, e6]
    try go_simp
   ·intro a vs W hX hR he hf K hK
    refine wn rfl ?_
    have e22 : a.eval (.tmp 22) = .pointer (some ⟨g6, 18, none⟩) := eH he hR 2 (by kernel_rfl) rfl
    have hbW := bthen (below_drew _) (grow_below hX)
    have hc : W.cell? ⟨g6, 18, none⟩ = some (.bool x.is) := ((HN6.out.on hbW).cell 18).trans (x.get_is HXF.out.addr)
    refine wV hK rfl ?_
    simp only [execOp, e22]
    try go_simp
   ·intro a vs W hX hR he hf K hK
    refine wn rfl ?_
    have e21 : a.eval (.tmp 21) = .int .i64 x.v := eH he hR 1 (by kernel_rfl) rfl
    refine wV hK rfl ?_
    simp only [execOp, e21]
    try go_simp
   ·intro a vs W hX hR he hf K hK
    refine wn rfl ?_
    have e23 : a.eval (.tmp 23) = .bool x.is := eH he hR 3 (by kernel_rfl) rfl
    refine wV hK rfl ?_
    simp only [execOp, e23]
    try go_simp
   intro vs w6 hX6 hR
   rw [put_eqs hR rfl]
   simp only [putL, Act.put, List.setIfInBounds_toArray, List.set_cons_zero, List.set_cons_succ]
   clear hR
   have hW6 := bthen HW5.out (bthen (below_drew _) (grow_below hX6))
   clear hX6
   go_wp2_with fail
   go_ret2
   have h9 := HRES.out
   injection h9 with h9
   injection h9 with h9 h10
   subst h9 h10
   exact ⟨rfl, hW6⟩
set_option maxHeartbeats 4000000 in
theorem tput_nil (p : Px) (hf : p.fit) (v : Int) (w : World) :
  Calls Try.prog 31 #[.pointer none, .agg p.cells.toArray, .int .i64 v] w fun e w' => e = .returned (.int .i64 1) ∧ Below w.heap.size w w' := by
 have HF := Hh hf
 clear hf
 go_enter Try.func31, Try.ntmps31
 go_upto_region 1 with (refine wpList_box_blk (by rfl) 30 (.tmp 1) rfl p.cells rfl ?_; intro w1 hb1 hB1 hs1; clear hs1)
 obtain ⟨g1, hg1⟩ : ∃ g, w.heap.size = g := ⟨_, rfl⟩
 rw [hg1] at hb1
 try rw [hg1]
 have HP := Hh hb1
 have HW := Hh hB1
 clear hb1 hB1 hg1
 go_wp2_with (refine wpList_value (by rfl) (exec_load 30 _ rfl g1 (by rfl) 30 p.cells _ HP.out Try.underlying30 rfl (sizePx _ HF.out.addr)) ?_)
 refine (tright_nil p w1).mono ?_
 rintro e w2 ⟨rfl, hb⟩
 replace HW := Hh (bthen HW.out hb)
 clear hb
 go_wp2_with fail
 go_ret
 exact ⟨rfl, HW.out⟩
set_option maxHeartbeats 4000000 in
theorem tdelete_nil (p : Px) (hf : p.fit) (w : World) :
  Calls Try.prog 47 #[.pointer none, .agg p.cells.toArray] w fun e w' => e = .returned (.int .i64 1) ∧ Below w.heap.size w w' := by
 have HF := Hh hf
 clear hf
 go_enter Try.func47, Try.ntmps47
 go_upto_region 1 with (refine wpList_box_blk (by rfl) 30 (.tmp 1) rfl p.cells rfl ?_; intro w1 hb1 hB1 hs1; clear hs1)
 obtain ⟨g1, hg1⟩ : ∃ g, w.heap.size = g := ⟨_, rfl⟩
 rw [hg1] at hb1
 try rw [hg1]
 have HP := Hh hb1
 have HW := Hh hB1
 clear hb1 hB1 hg1
 go_wp2_with (refine wpList_value (by rfl) (exec_load 30 _ rfl g1 (by rfl) 30 p.cells _ HP.out Try.underlying30 rfl (sizePx _ HF.out.addr)) ?_)
 refine (tright_nil p w1).mono ?_
 rintro e w2 ⟨rfl, hb⟩
 replace HW := Hh (bthen HW.out hb)
 clear hb
 go_wp2_with fail
 go_ret
 exact ⟨rfl, HW.out⟩
set_option maxHeartbeats 4000000 in
theorem tput_any (w : World) (g : Nat) (t : Tb) (A Af : Option Addr) (c cf : Nat) (hT : Tab w g t A c Af cf) (hcnt : -1000000000 ≤ t.count ∧ t.count ≤ 1000000000) (p : Px) (hf : p.fit) (vl : Int) (F : Nat) (code : Int) (t' : Tb) (hr : putT t p vl F = some (code, t')) :
  Calls Try.prog 31 #[.pointer (some ⟨g, 0, none⟩), .agg p.cells.toArray, .int .i64 vl] w fun e w' => ∃ A' c' Af' cf', e = .returned (.int .i64 code) ∧ TabTo w g A c Af cf w' t' A' c' Af' cf' := by
 have HF := Hh hf
 have HT0 := Hh hT
 clear hf hT
 go_enter Try.func31, Try.ntmps31
 go_upto_region 1 with (refine wpList_box_blk (by rfl) 30 (.tmp 1) rfl p.cells rfl ?_; intro w1 hb1 hB1 hs1; clear hs1)
 obtain ⟨g1, hg1⟩ : ∃ g, w.heap.size = g := ⟨_, rfl⟩
 have HWG := Hh (show w.heap.size ≤ g1 by omega)
 rw [hg1] at hb1
 try rw [hg1]
 have HP1 := Hh hb1
 have HW1 := Hh hB1
 have HT1 := Hh (HT0.out.on hB1)
 clear hb1 hB1 hg1
 go_wp2_with (refine wpList_value (by rfl) (exec_load 30 _ rfl g1 (by rfl) 30 p.cells _ HP1.out Try.underlying30 rfl (sizePx _ HF.out.addr)) ?_)
 refine (tright_any w1 g t A Af c cf HT1.out p HF.out).mono ?_
 rintro e w2 ⟨rfl, hb⟩
 have HP := Hh (HP1.out.on hb)
 have HW := Hh (bthen HW1.out hb)
 have HT := Hh (HT1.out.on hb)
 clear hb HP1 HW1 HT1
 unfold putT at hr
 cases ho : okT t.six p
 ·rw [ho] at hr
  simp only [Bool.false_eq_true, if_false] at hr
  have HRES := Hh hr
  clear hr ho
  go_wp2_with fail
  go_ret
  have h9 := HRES.out
  injection h9 with h9
  injection h9 with h9 h10
  subst h9 h10
  first
   | exact ⟨A, c, Af, cf, rfl, TabTo.on (TabTo.refl HT0.out) HW.out⟩
   | exact ⟨rfl, A, c, Af, cf, TabTo.on (TabTo.refl HT0.out) HW.out⟩
 rw [ho, if_pos rfl] at hr
 have HOK := Hh ho
 clear ho
 cases hgt : getT t p F with
 | none => rw [hgt] at hr; cases hr
 | some y =>
  obtain ⟨v1, b1⟩ := y
  rw [hgt] at hr
  simp only [] at hr
  have HGT := Hh hgt
  clear hgt
  go_wp2_with (refine wpList_value (by rfl) (exec_load 30 _ rfl g1 (by rfl) 30 p.cells _ HP.out Try.underlying30 rfl (sizePx _ HF.out.addr)) ?_)
  refine (tget_any w2 g t A Af c cf HT.out p HF.out F v1 b1 HGT.out).mono ?_
  rintro e w3 ⟨rfl, hb⟩
  have HP3 := Hh (HP.out.on hb)
  have HW3 := Hh (bthen HW.out hb)
  have HT3 := Hh (HT.out.on hb)
  clear hb HP HW HT
  cases b1
  ·rw [if_pos rfl] at hr
   have c2 : w3.cell? ⟨g, 2, none⟩ = some (.int .i64 t.count) := HT3.out.blk.cell 2
   have c1 : w3.cell? ⟨g, 1, none⟩ = some (.int .i64 t.room) := HT3.out.blk.cell 1
   by_cases hfull : t.count = t.room
   ·rw [if_pos hfull] at hr
    have HRES := Hh hr
    rw [← hfull] at c1
    clear hr
    go_wp2_with fail
    have H9 := Hh hfull
    clear hfull c1 c2
    refine wp_region_rel (fun A B => A.grownBy B none) (fun A => grown_refl A _) (fun A B C h k => grown_trans h k) (relAt (eqs [.pointer (some ⟨g, 0, none⟩), .pointer (some ⟨g, 0, none⟩), .pointer (some ⟨g, 2, none⟩), .int .i64 t.count, .pointer (some ⟨g, 0, none⟩), .pointer (some ⟨g, 0, none⟩), .pointer (some ⟨g, 1, none⟩), .int .i64 t.room, .bool true])) (MonoL.at_ (eqs_mono _)) (by kernel_rfl) (by kernel_rfl) ⟨?_, ?_, ?_, ?_, ?_, ?_, ?_, ?_, ?_, trivial⟩ ?_
    ·intro a vs W hX hR he hf K hK
     refine wn rfl ?_
     have e0 : a.eval (.tmp 0) = .pointer (some ⟨g, 0, none⟩) := hf 0 (by kernel_rfl)
     refine wV hK rfl ?_
     simp only [execOp, e0]
     try go_simp
    ·intro a vs W hX hR he hf K hK
     refine wn rfl ?_
     have e21 : a.eval (.tmp 21) = .pointer (some ⟨g, 0, none⟩) := eH he hR 0 (by kernel_rfl) rfl
     refine wV hK rfl ?_
     simp only [execOp, e21]
     try go_simp
    ·intro a vs W hX hR he hf K hK
     refine wn rfl ?_
     have e22 : a.eval (.tmp 22) = .pointer (some ⟨g, 0, none⟩) := eH he hR 1 (by kernel_rfl) rfl
     refine wV hK rfl ?_
     simp only [execOp, e22]
     try go_simp
    ·intro a vs W hX hR he hf K hK
     refine wn rfl ?_
     have e23 : a.eval (.tmp 23) = .pointer (some ⟨g, 2, none⟩) := eH he hR 2 (by kernel_rfl) rfl
     have hbW := bthen (below_drew _) (grow_below hX)
     have hc : W.cell? ⟨g, 2, none⟩ = some (.int .i64 t.count) := (HT3.out.blk.on hbW).cell 2
     refine wV hK rfl ?_
     simp only [execOp, e23]
     try go_simp
    ·intro a vs W hX hR he hf K hK
     refine wn rfl ?_
     have e0 : a.eval (.tmp 0) = .pointer (some ⟨g, 0, none⟩) := hf 0 (by kernel_rfl)
     refine wV hK rfl ?_
     simp only [execOp, e0]
     try go_simp
    ·intro a vs W hX hR he hf K hK
     refine wn rfl ?_
     have e25 : a.eval (.tmp 25) = .pointer (some ⟨g, 0, none⟩) := eH he hR 4 (by kernel_rfl) rfl
     refine wV hK rfl ?_
     simp only [execOp, e25]
     try go_simp
    ·intro a vs W hX hR he hf K hK
     refine wn rfl ?_
     have e26 : a.eval (.tmp 26) = .pointer (some ⟨g, 0, none⟩) := eH he hR 5 (by kernel_rfl) rfl
     refine wV hK rfl ?_
     simp only [execOp, e26]
     try go_simp
    ·intro a vs W hX hR he hf K hK
     refine wn rfl ?_
     have e27 : a.eval (.tmp 27) = .pointer (some ⟨g, 1, none⟩) := eH he hR 6 (by kernel_rfl) rfl
     have hbW := bthen (below_drew _) (grow_below hX)
     have hc : W.cell? ⟨g, 1, none⟩ = some (.int .i64 t.room) := (HT3.out.blk.on hbW).cell 1
     refine wV hK rfl ?_
     simp only [execOp, e27]
     try go_simp
    ·intro a vs W hX hR he hf K hK
     refine wn rfl ?_
     have e24 : a.eval (.tmp 24) = .int .i64 t.count := eH he hR 3 (by kernel_rfl) rfl
     have e28 : a.eval (.tmp 28) = .int .i64 t.room := eH he hR 7 (by kernel_rfl) rfl
     refine wV hK rfl ?_
     have h9 := H9.out
     simp only [execOp, e24, e28]
     go_simp
     try omega
    intro vs wx hXx hR
    rw [put_eqs hR rfl]
    simp only [putL, Act.put, List.setIfInBounds_toArray, List.set_cons_zero, List.set_cons_succ]
    clear hR
    have hW := bthen HW3.out (bthen (below_drew _) (grow_below hXx))
    clear hXx
    go_wp2_with fail
    go_ret
    have h9 := HRES.out
    injection h9 with h9
    injection h9 with h9 h10
    subst h9 h10
    first
     | exact ⟨A, c, Af, cf, rfl, TabTo.on (TabTo.refl HT0.out) hW⟩
     | exact ⟨rfl, A, c, Af, cf, TabTo.on (TabTo.refl HT0.out) hW⟩
   rw [if_neg hfull] at hr
   have g1f : (t.count == t.room) = false := by simpa using hfull
   have HFU := Hh hfull
   cases hbn : belowN F { t with count := t.count + 1 } t.root ⟨p, true, vl, 0, 0⟩ with
   | none => rw [hbn] at hr; cases hr
   | some kt =>
    obtain ⟨rr, t1⟩ := kt
    rw [hbn] at hr
    simp only [] at hr
    have HRES := Hh hr
    clear hfull
    go_wp2_with fail
    have H9 := HFU
    clear c1 c2
    refine wp_region_rel (fun A B => A.grownBy B none) (fun A => grown_refl A _) (fun A B C h k => grown_trans h k) (relAt (eqs [.pointer (some ⟨g, 0, none⟩), .pointer (some ⟨g, 0, none⟩), .pointer (some ⟨g, 2, none⟩), .int .i64 t.count, .pointer (some ⟨g, 0, none⟩), .pointer (some ⟨g, 0, none⟩), .pointer (some ⟨g, 1, none⟩), .int .i64 t.room, .bool false])) (MonoL.at_ (eqs_mono _)) (by kernel_rfl) (by kernel_rfl) ⟨?_, ?_, ?_, ?_, ?_, ?_, ?_, ?_, ?_, trivial⟩ ?_
    ·intro a vs W hX hR he hf K hK
     refine wn rfl ?_
     have e0 : a.eval (.tmp 0) = .pointer (some ⟨g, 0, none⟩) := hf 0 (by kernel_rfl)
     refine wV hK rfl ?_
     simp only [execOp, e0]
     try go_simp
    ·intro a vs W hX hR he hf K hK
     refine wn rfl ?_
     have e21 : a.eval (.tmp 21) = .pointer (some ⟨g, 0, none⟩) := eH he hR 0 (by kernel_rfl) rfl
     refine wV hK rfl ?_
     simp only [execOp, e21]
     try go_simp
    ·intro a vs W hX hR he hf K hK
     refine wn rfl ?_
     have e22 : a.eval (.tmp 22) = .pointer (some ⟨g, 0, none⟩) := eH he hR 1 (by kernel_rfl) rfl
     refine wV hK rfl ?_
     simp only [execOp, e22]
     try go_simp
    ·intro a vs W hX hR he hf K hK
     refine wn rfl ?_
     have e23 : a.eval (.tmp 23) = .pointer (some ⟨g, 2, none⟩) := eH he hR 2 (by kernel_rfl) rfl
     have hbW := bthen (below_drew _) (grow_below hX)
     have hc : W.cell? ⟨g, 2, none⟩ = some (.int .i64 t.count) := (HT3.out.blk.on hbW).cell 2
     refine wV hK rfl ?_
     simp only [execOp, e23]
     try go_simp
    ·intro a vs W hX hR he hf K hK
     refine wn rfl ?_
     have e0 : a.eval (.tmp 0) = .pointer (some ⟨g, 0, none⟩) := hf 0 (by kernel_rfl)
     refine wV hK rfl ?_
     simp only [execOp, e0]
     try go_simp
    ·intro a vs W hX hR he hf K hK
     refine wn rfl ?_
     have e25 : a.eval (.tmp 25) = .pointer (some ⟨g, 0, none⟩) := eH he hR 4 (by kernel_rfl) rfl
     refine wV hK rfl ?_
     simp only [execOp, e25]
     try go_simp
    ·intro a vs W hX hR he hf K hK
     refine wn rfl ?_
     have e26 : a.eval (.tmp 26) = .pointer (some ⟨g, 0, none⟩) := eH he hR 5 (by kernel_rfl) rfl
     refine wV hK rfl ?_
     simp only [execOp, e26]
     try go_simp
    ·intro a vs W hX hR he hf K hK
     refine wn rfl ?_
     have e27 : a.eval (.tmp 27) = .pointer (some ⟨g, 1, none⟩) := eH he hR 6 (by kernel_rfl) rfl
     have hbW := bthen (below_drew _) (grow_below hX)
     have hc : W.cell? ⟨g, 1, none⟩ = some (.int .i64 t.room) := (HT3.out.blk.on hbW).cell 1
     refine wV hK rfl ?_
     simp only [execOp, e27]
     try go_simp
    ·intro a vs W hX hR he hf K hK
     refine wn rfl ?_
     have e24 : a.eval (.tmp 24) = .int .i64 t.count := eH he hR 3 (by kernel_rfl) rfl
     have e28 : a.eval (.tmp 28) = .int .i64 t.room := eH he hR 7 (by kernel_rfl) rfl
     refine wV hK rfl ?_
     have h9 := H9.out
     simp only [execOp, e24, e28]
     go_simp
     try omega
    intro vs wx hXx hR
    rw [put_eqs hR rfl]
    simp only [putL, Act.put, List.setIfInBounds_toArray, List.set_cons_zero, List.set_cons_succ]
    clear hR
    have hbx := bthen (below_drew _) (grow_below hXx)
    replace HP3 := Hh (HP3.out.on hbx)
    replace HT3 := Hh (HT3.out.on hbx)
    replace HW3 := Hh (bthen HW3.out hbx)
    have c2 : wx.cell? ⟨g, 2, none⟩ = some (.int .i64 t.count) := HT3.out.blk.cell 2
    clear hXx hbx g1f
    go_upto_region 8 with (refine wpList_store_int (by rfl) _ _ rfl g 2 (t.count + 1) rfl rfl 93 _ _ HT3.out.blk rfl ?_; intro wq hkq hgq hsq)
    obtain ⟨tq, htq⟩ : ∃ tq, { t with count := t.count + 1 } = tq := ⟨_, rfl⟩
    have hkq' : Blk wq g 93 (tbC tq A c Af cf) := by rw [← htq]; exact hkq
    have e1 : tq.N = t.N := by rw [← htq]
    have e2 : tq.F = t.F := by rw [← htq]
    have hTq : Tab wq g tq A c Af cf := ⟨hkq', by rw [e1]; exact HT3.out.nodes.kept hgq (fun b hb e => HT3.out.ng b hb (by injection e with e; exact e.symm)), by rw [e2]; exact HT3.out.free.kept hgq (fun b hb e => HT3.out.fg b hb (by injection e with e; exact e.symm)), by rw [e1]; exact HT3.out.fit, HT3.out.ng, HT3.out.fg, HT3.out.nf⟩
    have HTq := Hh hTq
    have HTOq := Hh (show TabTo w g A c Af cf wq tq A c Af cf from ⟨hTq, (Kept.of_below HW3.out).trans (Kept.of_grown (S := own3 g A c Af cf) hgq (fun j hj => by injection hj with hj; exact .inl hj.symm)) (fun x hx _ => hx), fun b hb => .inl hb⟩)
    have hne : g ≠ g1 := by have := HT0.out.blk.lt; have := HWG.out; omega
    have HPq := Hh (HP3.out.grown hgq (fun e => hne (by injection e with e; exact e.symm)))
    have HBN := Hh (show belowN F tq tq.root ⟨p, true, vl, 0, 0⟩ = some (rr, t1) by rw [← htq]; exact hbn)
    clear hkq hkq' hgq hsq hTq e1 e2 hne htq hbn hr c2
    go_wp2_with fail
    refine wp_region_mid 9 12 [true, true, true, true, true, true, true, true, true, true, true, true] (fun _ => True) (fun v W => v = .int .i64 ((rr : Nat) : Int) ∧ ∃ A' c' Af' cf', TabTo wq g A c Af cf W t1 A' c' Af' cf') (fun A B => A.grownBy B none) (fun A => grown_refl A _) (fun A B C h k => grown_trans h k) (relAt (List.cons (fun v _ => v = .pointer (some ⟨g, 0, none⟩)) (List.cons (fun v _ => v = .pointer (some ⟨g, 0, none⟩)) (List.cons (fun v _ => v = .pointer (some ⟨g, 0, none⟩)) (List.cons (fun v _ => v = .pointer (some ⟨g, 0, none⟩)) (List.cons (fun v _ => v = .pointer (some ⟨g, 5, none⟩)) (List.cons (fun v _ => v = .int .i64 (tq.root : Int)) (List.cons (fun v _ => v = .agg p.cells.toArray) (List.cons (fun v _ => v = .int .i64 vl) (List.cons (fun v _ => v = .agg (Nd.cells ⟨p, true, vl, 0, 0⟩).toArray) (List.cons (fun _ _ => True) (List.cons (fun v _ => v = .pointer (some ⟨g, 0, none⟩)) (List.cons (fun v _ => v = .pointer (some ⟨g, 5, none⟩)) ([])))))))))))))) (MonoL.at_ (.cons (mono_val _) (.cons (mono_val _) (.cons (mono_val _) (.cons (mono_val _) (.cons (mono_val _) (.cons (mono_val _) (.cons (mono_val _) (.cons (mono_val _) (.cons (mono_val _) (.cons ((fun _ _ _ h _ => h)) (.cons (mono_val _) (.cons (mono_val _) .nil))))))))))))) (ConstL.at_ (.cons (fun _ _ _ h => h) (.cons (fun _ _ _ h => h) (.cons (fun _ _ _ h => h) (.cons (fun _ _ _ h => h) (.cons (fun _ _ _ h => h) (.cons (fun _ _ _ h => h) (.cons (fun _ _ _ h => h) (.cons (fun _ _ _ h => h) (.cons (fun _ _ _ h => h) (.cons (fun _ _ _ h => h) (.cons (fun _ _ _ h => h) (.cons (fun _ _ _ h => h) .nil))))))))))))) (fun v W h => True.intro) (fun W hX => True.intro) (fun v W h => True.intro) (by kernel_rfl) (by kernel_rfl) rfl (by decide) (by kernel_rfl) (by kernel_rfl) _ rfl rfl ⟨?_, ?_, ?_, ?_, ?_, ?_, ?_, ?_, ?_, ?_, ?_, ?_, trivial⟩ ?_
    ·refine stepM_calm ?_ ?_ ?_
     ·rfl
     ·kernel_rfl
     intro a vs W hS hR he hf K hK
     refine wn rfl ?_
     have e0 : a.eval (.tmp 0) = .pointer (some ⟨g, 0, none⟩) := hf 0 (by kernel_rfl)
     refine wp_value (v := .pointer (some ⟨g, 0, none⟩)) ?_ (hK _ rfl)
     simp only [execOp, e0]
     try go_simp
    ·refine stepM_anc ?_ ?_ ?_
     ·rfl
     ·kernel_rfl
     intro a vs W hX hR he hf K hK
     refine wn rfl ?_
     have e0 : a.eval (.tmp 0) = .pointer (some ⟨g, 0, none⟩) := hf 0 (by kernel_rfl)
     refine wV hK rfl ?_
     simp only [execOp, e0]
     try go_simp
    ·refine stepM_anc ?_ ?_ ?_
     ·rfl
     ·kernel_rfl
     intro a vs W hX hR he hf K hK
     refine wn rfl ?_
     have e0 : a.eval (.tmp 0) = .pointer (some ⟨g, 0, none⟩) := hf 0 (by kernel_rfl)
     refine wV hK rfl ?_
     simp only [execOp, e0]
     try go_simp
    ·refine stepM_anc ?_ ?_ ?_
     ·rfl
     ·kernel_rfl
     intro a vs W hX hR he hf K hK
     refine wn rfl ?_
     have e39 : a.eval (.tmp 39) = .pointer (some ⟨g, 0, none⟩) := eH he hR 2 (by kernel_rfl) rfl
     refine wV hK rfl ?_
     simp only [execOp, e39]
     try go_simp
    ·refine stepM_anc ?_ ?_ ?_
     ·rfl
     ·kernel_rfl
     intro a vs W hX hR he hf K hK
     refine wn rfl ?_
     have e40 : a.eval (.tmp 40) = .pointer (some ⟨g, 0, none⟩) := eH he hR 3 (by kernel_rfl) rfl
     refine wV hK rfl ?_
     simp only [execOp, e40]
     try go_simp
    ·refine stepM_anc ?_ ?_ ?_
     ·rfl
     ·kernel_rfl
     intro a vs W hX hR he hf K hK
     refine wn rfl ?_
     have e41 : a.eval (.tmp 41) = .pointer (some ⟨g, 5, none⟩) := eH he hR 4 (by kernel_rfl) rfl
     have hbW := bthen (below_drew _) (grow_below hX)
     have hc : W.cell? ⟨g, 5, none⟩ = some (.int .i64 (tq.root : Int)) := (HTq.out.blk.on hbW).cell 5
     refine wV hK rfl ?_
     simp only [execOp, e41]
     try go_simp
    ·refine stepM_anc ?_ ?_ ?_
     ·rfl
     ·kernel_rfl
     intro a vs W hX hR he hf K hK
     refine wn rfl ?_
     have e4 : a.eval (.tmp 4) = .pointer (some ⟨g1, 0, none⟩) := hf 4 (by kernel_rfl)
     have hbW := bthen (below_drew _) (grow_below hX)
     exact wp_value (exec_load 30 _ rfl g1 e4 30 p.cells _ (HPq.out.on hbW) Try.underlying30 rfl (sizePx _ HF.out.addr)) (gK hK rfl)
    ·refine stepM_anc ?_ ?_ ?_
     ·rfl
     ·kernel_rfl
     intro a vs W hX hR he hf K hK
     refine wn rfl ?_
     have e2 : a.eval (.tmp 2) = .int .i64 vl := hf 2 (by kernel_rfl)
     refine wV hK rfl ?_
     simp only [execOp, e2]
     try go_simp
    ·refine stepM_anc ?_ ?_ ?_
     ·rfl
     ·kernel_rfl
     intro a vs W hX hR he hf K hK
     refine wn rfl ?_
     have e43 : a.eval (.tmp 43) = .agg p.cells.toArray := eH he hR 6 (by kernel_rfl) rfl
     have e44 : a.eval (.tmp 44) = .int .i64 vl := eH he hR 7 (by kernel_rfl) rfl
     have f43 := e43
     simp only [Act.eval, Array.getD_eq_getD_getElem?] at f43
     have f44 := e44
     simp only [Act.eval, Array.getD_eq_getD_getElem?] at f44
     exact wp_value (exec_buildNd3 _ _ rfl p HF.out.addr vl e43 e44) (gK hK rfl)
    ·refine stepM_heavy ?_ ?_
     ·rfl
     intro a vs W hX hR he hf K hK
     refine wn rfl ?_
     have e38 : a.eval (.tmp 38) = .pointer (some ⟨g, 0, none⟩) := eH he hR 1 (by kernel_rfl) rfl
     have e42 : a.eval (.tmp 42) = .int .i64 (tq.root : Int) := eH he hR 5 (by kernel_rfl) rfl
     have e45 : a.eval (.tmp 45) = .agg (Nd.cells ⟨p, true, vl, 0, 0⟩).toArray := eH he hR 8 (by kernel_rfl) rfl
     have hbW := bthen (below_drew _) (grow_below hX)
     refine wp_enter (f := 55) (args := #[.pointer (some ⟨g, 0, none⟩), .int .i64 ((tq.root : Nat) : Int), .agg (Nd.cells ⟨p, true, vl, 0, 0⟩).toArray]) (by simp only [execOp, e38, e42, e45]; go_simp; exact ⟨by simpa [Act.eval] using e38, by simpa [Act.eval] using e42, by simpa [Act.eval] using e45⟩) ((tbelow_any F W g tq _ _ _ _ (HTq.out.on hbW) tq.root ⟨p, true, vl, 0, 0⟩ (okT_good HF.out HOK.out).1 rr t1 HBN.out).mono ?_)
     rintro e w' ⟨A', c', Af', cf', rfl, hto⟩
     exact ⟨_, rfl, hK _ _ ⟨rfl, A', c', Af', cf', TabTo.of hbW hto⟩⟩
    ·refine stepM_calm ?_ ?_ ?_
     ·rfl
     ·kernel_rfl
     intro a vs W hS hR he hf K hK
     refine wn rfl ?_
     have e37 : a.eval (.tmp 37) = .pointer (some ⟨g, 0, none⟩) := (he 0 37 (by kernel_rfl) rfl).trans (hR 0 (by kernel_rfl) rfl)
     refine wp_value (v := .pointer (some ⟨g, 0, none⟩)) ?_ (hK _ rfl)
     simp only [execOp, e37]
     try go_simp
    ·refine stepM_calm ?_ ?_ ?_
     ·rfl
     ·kernel_rfl
     intro a vs W hS hR he hf K hK
     refine wn rfl ?_
     have e47 : a.eval (.tmp 47) = .pointer (some ⟨g, 0, none⟩) := (he 10 47 (by kernel_rfl) rfl).trans (hR 10 (by kernel_rfl) rfl)
     refine wp_value (v := .pointer (some ⟨g, 5, none⟩)) ?_ (hK _ rfl)
     simp only [execOp, e47]
     try go_simp
    intro vs wx hPx hR
    have q0 := hR 0 (by decide) rfl
    change vs 0 = .pointer (some ⟨g, 0, none⟩) at q0
    have q1 := hR 1 (by decide) rfl
    change vs 1 = .pointer (some ⟨g, 0, none⟩) at q1
    have q2 := hR 2 (by decide) rfl
    change vs 2 = .pointer (some ⟨g, 0, none⟩) at q2
    have q3 := hR 3 (by decide) rfl
    change vs 3 = .pointer (some ⟨g, 0, none⟩) at q3
    have q4 := hR 4 (by decide) rfl
    change vs 4 = .pointer (some ⟨g, 5, none⟩) at q4
    have q5 := hR 5 (by decide) rfl
    change vs 5 = .int .i64 (tq.root : Int) at q5
    have q6 := hR 6 (by decide) rfl
    change vs 6 = .agg p.cells.toArray at q6
    have q7 := hR 7 (by decide) rfl
    change vs 7 = .int .i64 vl at q7
    have q8 := hR 8 (by decide) rfl
    change vs 8 = .agg (Nd.cells ⟨p, true, vl, 0, 0⟩).toArray at q8
    have q10 := hR 10 (by decide) rfl
    change vs 10 = .pointer (some ⟨g, 0, none⟩) at q10
    have q11 := hR 11 (by decide) rfl
    change vs 11 = .pointer (some ⟨g, 5, none⟩) at q11
    simp only [putAll, Act.put, List.setIfInBounds_toArray, List.set_cons_zero, List.set_cons_succ, List.take_succ_cons, List.take_zero, q0, q1, q2, q3, q4, q5, q6, q7, q8, q10, q11]
    clear q0 q1 q2 q3 q4 q5 q6 q7 q8 q10 q11
    clear hR
    generalize vs 9 = vh at hPx ⊢
    obtain ⟨rfl, A', c', Af', cf', hto⟩ := hPx
    refine wp_store_int _ _ rfl g 5 ((rr : Nat) : Int) rfl rfl 93 _ _ hto.1.blk rfl ?_
    intro wy hky hgy hsy
    try simp only [List.getElem_toArray, List.getElem_cons_succ, List.getElem_cons_zero, Act.put, List.setIfInBounds_toArray, List.set_cons_zero, List.set_cons_succ]
    have hT9 : Tab wy g { t1 with root := rr } A' c' Af' cf' := ⟨hky, hto.1.nodes.kept hgy (fun b hb e => hto.1.ng b hb (by injection e with e; exact e.symm)), hto.1.free.kept hgy (fun b hb e => hto.1.fg b hb (by injection e with e; exact e.symm)), hto.1.fit, hto.1.ng, hto.1.fg, hto.1.nf⟩
    have HFIN := Hh (HTOq.out.trans (hto.trans (⟨hT9, Kept.of_grown (S := own3 g A' c' Af' cf') hgy (fun j hj => by injection hj with hj; exact .inl hj.symm), fun b hb => .inl hb⟩ : TabTo wx g A' c' Af' cf' wy _ A' c' Af' cf')))
    clear hT9 hto hky hgy hsy
    go_wp2_with fail
    go_ret
    have h9 := HRES.out
    injection h9 with h9
    injection h9 with h9 h10
    subst h9 h10
    first
     | exact ⟨A', c', Af', cf', rfl, HFIN.out⟩
     | exact ⟨rfl, A', c', Af', cf', HFIN.out⟩
  rw [if_neg (by simp)] at hr
  cases hbn : belowN F t t.root ⟨p, true, vl, 0, 0⟩ with
  | none => rw [hbn] at hr; cases hr
  | some kt =>
   obtain ⟨rr, t1⟩ := kt
   rw [hbn] at hr
   simp only [] at hr
   have HRES := Hh hr
   obtain ⟨wq, hwq⟩ : ∃ wq, w3 = wq := ⟨_, rfl⟩
   obtain ⟨tq, htq⟩ : ∃ tq, t = tq := ⟨_, rfl⟩
   have HTq := Hh (show Tab wq g tq A c Af cf by rw [← hwq, ← htq]; exact HT3.out)
   have HTOq := Hh (show TabTo w g A c Af cf wq tq A c Af cf by rw [← hwq, ← htq]; exact TabTo.on (TabTo.refl HT0.out) HW3.out)
   have HPq := Hh (show Blk wq g1 30 p.cells by rw [← hwq]; exact HP3.out)
   have HBN := Hh (show belowN F tq tq.root ⟨p, true, vl, 0, 0⟩ = some (rr, t1) by rw [← htq]; exact hbn)
   rw [hwq]
   clear hwq htq hbn hr
   go_wp2_with fail
   refine wp_region_mid 9 12 [true, true, true, true, true, true, true, true, true, true, true, true] (fun _ => True) (fun v W => v = .int .i64 ((rr : Nat) : Int) ∧ ∃ A' c' Af' cf', TabTo wq g A c Af cf W t1 A' c' Af' cf') (fun A B => A.grownBy B none) (fun A => grown_refl A _) (fun A B C h k => grown_trans h k) (relAt (List.cons (fun v _ => v = .pointer (some ⟨g, 0, none⟩)) (List.cons (fun v _ => v = .pointer (some ⟨g, 0, none⟩)) (List.cons (fun v _ => v = .pointer (some ⟨g, 0, none⟩)) (List.cons (fun v _ => v = .pointer (some ⟨g, 0, none⟩)) (List.cons (fun v _ => v = .pointer (some ⟨g, 5, none⟩)) (List.cons (fun v _ => v = .int .i64 (tq.root : Int)) (List.cons (fun v _ => v = .agg p.cells.toArray) (List.cons (fun v _ => v = .int .i64 vl) (List.cons (fun v _ => v = .agg (Nd.cells ⟨p, true, vl, 0, 0⟩).toArray) (List.cons (fun _ _ => True) (List.cons (fun v _ => v = .pointer (some ⟨g, 0, none⟩)) (List.cons (fun v _ => v = .pointer (some ⟨g, 5, none⟩)) ([])))))))))))))) (MonoL.at_ (.cons (mono_val _) (.cons (mono_val _) (.cons (mono_val _) (.cons (mono_val _) (.cons (mono_val _) (.cons (mono_val _) (.cons (mono_val _) (.cons (mono_val _) (.cons (mono_val _) (.cons ((fun _ _ _ h _ => h)) (.cons (mono_val _) (.cons (mono_val _) .nil))))))))))))) (ConstL.at_ (.cons (fun _ _ _ h => h) (.cons (fun _ _ _ h => h) (.cons (fun _ _ _ h => h) (.cons (fun _ _ _ h => h) (.cons (fun _ _ _ h => h) (.cons (fun _ _ _ h => h) (.cons (fun _ _ _ h => h) (.cons (fun _ _ _ h => h) (.cons (fun _ _ _ h => h) (.cons (fun _ _ _ h => h) (.cons (fun _ _ _ h => h) (.cons (fun _ _ _ h => h) .nil))))))))))))) (fun v W h => True.intro) (fun W hX => True.intro) (fun v W h => True.intro) (by kernel_rfl) (by kernel_rfl) rfl (by decide) (by kernel_rfl) (by kernel_rfl) _ rfl rfl ⟨?_, ?_, ?_, ?_, ?_, ?_, ?_, ?_, ?_, ?_, ?_, ?_, trivial⟩ ?_
   ·refine stepM_calm ?_ ?_ ?_
    ·rfl
    ·kernel_rfl
    intro a vs W hS hR he hf K hK
    refine wn rfl ?_
    have e0 : a.eval (.tmp 0) = .pointer (some ⟨g, 0, none⟩) := hf 0 (by kernel_rfl)
    refine wp_value (v := .pointer (some ⟨g, 0, none⟩)) ?_ (hK _ rfl)
    simp only [execOp, e0]
    try go_simp
   ·refine stepM_anc ?_ ?_ ?_
    ·rfl
    ·kernel_rfl
    intro a vs W hX hR he hf K hK
    refine wn rfl ?_
    have e0 : a.eval (.tmp 0) = .pointer (some ⟨g, 0, none⟩) := hf 0 (by kernel_rfl)
    refine wV hK rfl ?_
    simp only [execOp, e0]
    try go_simp
   ·refine stepM_anc ?_ ?_ ?_
    ·rfl
    ·kernel_rfl
    intro a vs W hX hR he hf K hK
    refine wn rfl ?_
    have e0 : a.eval (.tmp 0) = .pointer (some ⟨g, 0, none⟩) := hf 0 (by kernel_rfl)
    refine wV hK rfl ?_
    simp only [execOp, e0]
    try go_simp
   ·refine stepM_anc ?_ ?_ ?_
    ·rfl
    ·kernel_rfl
    intro a vs W hX hR he hf K hK
    refine wn rfl ?_
    have e39 : a.eval (.tmp 39) = .pointer (some ⟨g, 0, none⟩) := eH he hR 2 (by kernel_rfl) rfl
    refine wV hK rfl ?_
    simp only [execOp, e39]
    try go_simp
   ·refine stepM_anc ?_ ?_ ?_
    ·rfl
    ·kernel_rfl
    intro a vs W hX hR he hf K hK
    refine wn rfl ?_
    have e40 : a.eval (.tmp 40) = .pointer (some ⟨g, 0, none⟩) := eH he hR 3 (by kernel_rfl) rfl
    refine wV hK rfl ?_
    simp only [execOp, e40]
    try go_simp
   ·refine stepM_anc ?_ ?_ ?_
    ·rfl
    ·kernel_rfl
    intro a vs W hX hR he hf K hK
    refine wn rfl ?_
    have e41 : a.eval (.tmp 41) = .pointer (some ⟨g, 5, none⟩) := eH he hR 4 (by kernel_rfl) rfl
    have hbW := bthen (below_drew _) (grow_below hX)
    have hc : W.cell? ⟨g, 5, none⟩ = some (.int .i64 (tq.root : Int)) := (HTq.out.blk.on hbW).cell 5
    refine wV hK rfl ?_
    simp only [execOp, e41]
    try go_simp
   ·refine stepM_anc ?_ ?_ ?_
    ·rfl
    ·kernel_rfl
    intro a vs W hX hR he hf K hK
    refine wn rfl ?_
    have e4 : a.eval (.tmp 4) = .pointer (some ⟨g1, 0, none⟩) := hf 4 (by kernel_rfl)
    have hbW := bthen (below_drew _) (grow_below hX)
    exact wp_value (exec_load 30 _ rfl g1 e4 30 p.cells _ (HPq.out.on hbW) Try.underlying30 rfl (sizePx _ HF.out.addr)) (gK hK rfl)
   ·refine stepM_anc ?_ ?_ ?_
    ·rfl
    ·kernel_rfl
    intro a vs W hX hR he hf K hK
    refine wn rfl ?_
    have e2 : a.eval (.tmp 2) = .int .i64 vl := hf 2 (by kernel_rfl)
    refine wV hK rfl ?_
    simp only [execOp, e2]
    try go_simp
   ·refine stepM_anc ?_ ?_ ?_
    ·rfl
    ·kernel_rfl
    intro a vs W hX hR he hf K hK
    refine wn rfl ?_
    have e43 : a.eval (.tmp 43) = .agg p.cells.toArray := eH he hR 6 (by kernel_rfl) rfl
    have e44 : a.eval (.tmp 44) = .int .i64 vl := eH he hR 7 (by kernel_rfl) rfl
    have f43 := e43
    simp only [Act.eval, Array.getD_eq_getD_getElem?] at f43
    have f44 := e44
    simp only [Act.eval, Array.getD_eq_getD_getElem?] at f44
    exact wp_value (exec_buildNd3 _ _ rfl p HF.out.addr vl e43 e44) (gK hK rfl)
   ·refine stepM_heavy ?_ ?_
    ·rfl
    intro a vs W hX hR he hf K hK
    refine wn rfl ?_
    have e38 : a.eval (.tmp 38) = .pointer (some ⟨g, 0, none⟩) := eH he hR 1 (by kernel_rfl) rfl
    have e42 : a.eval (.tmp 42) = .int .i64 (tq.root : Int) := eH he hR 5 (by kernel_rfl) rfl
    have e45 : a.eval (.tmp 45) = .agg (Nd.cells ⟨p, true, vl, 0, 0⟩).toArray := eH he hR 8 (by kernel_rfl) rfl
    have hbW := bthen (below_drew _) (grow_below hX)
    refine wp_enter (f := 55) (args := #[.pointer (some ⟨g, 0, none⟩), .int .i64 ((tq.root : Nat) : Int), .agg (Nd.cells ⟨p, true, vl, 0, 0⟩).toArray]) (by simp only [execOp, e38, e42, e45]; go_simp; exact ⟨by simpa [Act.eval] using e38, by simpa [Act.eval] using e42, by simpa [Act.eval] using e45⟩) ((tbelow_any F W g tq _ _ _ _ (HTq.out.on hbW) tq.root ⟨p, true, vl, 0, 0⟩ (okT_good HF.out HOK.out).1 rr t1 HBN.out).mono ?_)
    rintro e w' ⟨A', c', Af', cf', rfl, hto⟩
    exact ⟨_, rfl, hK _ _ ⟨rfl, A', c', Af', cf', TabTo.of hbW hto⟩⟩
   ·refine stepM_calm ?_ ?_ ?_
    ·rfl
    ·kernel_rfl
    intro a vs W hS hR he hf K hK
    refine wn rfl ?_
    have e37 : a.eval (.tmp 37) = .pointer (some ⟨g, 0, none⟩) := (he 0 37 (by kernel_rfl) rfl).trans (hR 0 (by kernel_rfl) rfl)
    refine wp_value (v := .pointer (some ⟨g, 0, none⟩)) ?_ (hK _ rfl)
    simp only [execOp, e37]
    try go_simp
   ·refine stepM_calm ?_ ?_ ?_
    ·rfl
    ·kernel_rfl
    intro a vs W hS hR he hf K hK
    refine wn rfl ?_
    have e47 : a.eval (.tmp 47) = .pointer (some ⟨g, 0, none⟩) := (he 10 47 (by kernel_rfl) rfl).trans (hR 10 (by kernel_rfl) rfl)
    refine wp_value (v := .pointer (some ⟨g, 5, none⟩)) ?_ (hK _ rfl)
    simp only [execOp, e47]
    try go_simp
   intro vs wx hPx hR
   have q0 := hR 0 (by decide) rfl
   change vs 0 = .pointer (some ⟨g, 0, none⟩) at q0
   have q1 := hR 1 (by decide) rfl
   change vs 1 = .pointer (some ⟨g, 0, none⟩) at q1
   have q2 := hR 2 (by decide) rfl
   change vs 2 = .pointer (some ⟨g, 0, none⟩) at q2
   have q3 := hR 3 (by decide) rfl
   change vs 3 = .pointer (some ⟨g, 0, none⟩) at q3
   have q4 := hR 4 (by decide) rfl
   change vs 4 = .pointer (some ⟨g, 5, none⟩) at q4
   have q5 := hR 5 (by decide) rfl
   change vs 5 = .int .i64 (tq.root : Int) at q5
   have q6 := hR 6 (by decide) rfl
   change vs 6 = .agg p.cells.toArray at q6
   have q7 := hR 7 (by decide) rfl
   change vs 7 = .int .i64 vl at q7
   have q8 := hR 8 (by decide) rfl
   change vs 8 = .agg (Nd.cells ⟨p, true, vl, 0, 0⟩).toArray at q8
   have q10 := hR 10 (by decide) rfl
   change vs 10 = .pointer (some ⟨g, 0, none⟩) at q10
   have q11 := hR 11 (by decide) rfl
   change vs 11 = .pointer (some ⟨g, 5, none⟩) at q11
   simp only [putAll, Act.put, List.setIfInBounds_toArray, List.set_cons_zero, List.set_cons_succ, List.take_succ_cons, List.take_zero, q0, q1, q2, q3, q4, q5, q6, q7, q8, q10, q11]
   clear q0 q1 q2 q3 q4 q5 q6 q7 q8 q10 q11
   clear hR
   generalize vs 9 = vh at hPx ⊢
   obtain ⟨rfl, A', c', Af', cf', hto⟩ := hPx
   refine wp_store_int _ _ rfl g 5 ((rr : Nat) : Int) rfl rfl 93 _ _ hto.1.blk rfl ?_
   intro wy hky hgy hsy
   try simp only [List.getElem_toArray, List.getElem_cons_succ, List.getElem_cons_zero, Act.put, List.setIfInBounds_toArray, List.set_cons_zero, List.set_cons_succ]
   have hT9 : Tab wy g { t1 with root := rr } A' c' Af' cf' := ⟨hky, hto.1.nodes.kept hgy (fun b hb e => hto.1.ng b hb (by injection e with e; exact e.symm)), hto.1.free.kept hgy (fun b hb e => hto.1.fg b hb (by injection e with e; exact e.symm)), hto.1.fit, hto.1.ng, hto.1.fg, hto.1.nf⟩
   have HFIN := Hh (HTOq.out.trans (hto.trans (⟨hT9, Kept.of_grown (S := own3 g A' c' Af' cf') hgy (fun j hj => by injection hj with hj; exact .inl hj.symm), fun b hb => .inl hb⟩ : TabTo wx g A' c' Af' cf' wy _ A' c' Af' cf')))
   clear hT9 hto hky hgy hsy
   go_wp2_with fail
   go_ret
   have h9 := HRES.out
   injection h9 with h9
   injection h9 with h9 h10
   subst h9 h10
   first
    | exact ⟨A', c', Af', cf', rfl, HFIN.out⟩
    | exact ⟨rfl, A', c', Af', cf', HFIN.out⟩
set_option maxHeartbeats 4000000 in
theorem tdelete_any (w : World) (g : Nat) (t : Tb) (A Af : Option Addr) (c cf : Nat) (hT : Tab w g t A c Af cf) (hcnt : -1000000000 ≤ t.count ∧ t.count ≤ 1000000000) (p : Px) (hf : p.fit) (F : Nat) (code : Int) (t' : Tb) (hr : delT t p F = some (code, t')) :
  Calls Try.prog 47 #[.pointer (some ⟨g, 0, none⟩), .agg p.cells.toArray] w fun e w' => ∃ A' c' Af' cf', e = .returned (.int .i64 code) ∧ TabTo w g A c Af cf w' t' A' c' Af' cf' := by
 have HF := Hh hf
 have HT0 := Hh hT
 clear hf hT
 go_enter Try.func47, Try.ntmps47
 go_upto_region 1 with (refine wpList_box_blk (by rfl) 30 (.tmp 1) rfl p.cells rfl ?_; intro w1 hb1 hB1 hs1; clear hs1)
 obtain ⟨g1, hg1⟩ : ∃ g, w.heap.size = g := ⟨_, rfl⟩
 have HWG := Hh (show w.heap.size ≤ g1 by omega)
 rw [hg1] at hb1
 try rw [hg1]
 have HP1 := Hh hb1
 have HW1 := Hh hB1
 have HT1 := Hh (HT0.out.on hB1)
 clear hb1 hB1 hg1
 go_wp2_with (refine wpList_value (by rfl) (exec_load 30 _ rfl g1 (by rfl) 30 p.cells _ HP1.out Try.underlying30 rfl (sizePx _ HF.out.addr)) ?_)
 refine (tright_any w1 g t A Af c cf HT1.out p HF.out).mono ?_
 rintro e w2 ⟨rfl, hb⟩
 have HP := Hh (HP1.out.on hb)
 have HW := Hh (bthen HW1.out hb)
 have HT := Hh (HT1.out.on hb)
 clear hb HP1 HW1 HT1
 unfold delT at hr
 cases ho : okT t.six p
 ·rw [ho] at hr
  simp only [Bool.false_eq_true, if_false] at hr
  have HRES := Hh hr
  clear hr ho
  go_wp2_with fail
  go_ret
  have h9 := HRES.out
  injection h9 with h9
  injection h9 with h9 h10
  subst h9 h10
  first
   | exact ⟨A, c, Af, cf, rfl, TabTo.on (TabTo.refl HT0.out) HW.out⟩
   | exact ⟨rfl, A, c, Af, cf, TabTo.on (TabTo.refl HT0.out) HW.out⟩
 rw [ho, if_pos rfl] at hr
 have HOK := Hh ho
 clear ho
 cases hgt : getT t p F with
 | none => rw [hgt] at hr; cases hr
 | some y =>
  obtain ⟨v1, b1⟩ := y
  rw [hgt] at hr
  simp only [] at hr
  have HGT := Hh hgt
  clear hgt
  go_wp2_with (refine wpList_value (by rfl) (exec_load 30 _ rfl g1 (by rfl) 30 p.cells _ HP.out Try.underlying30 rfl (sizePx _ HF.out.addr)) ?_)
  refine (tget_any w2 g t A Af c cf HT.out p HF.out F v1 b1 HGT.out).mono ?_
  rintro e w3 ⟨rfl, hb⟩
  have HP3 := Hh (HP.out.on hb)
  have HW3 := Hh (bthen HW.out hb)
  have HT3 := Hh (HT.out.on hb)
  clear hb HP HW HT
  cases b1
  ·rw [if_pos rfl] at hr
   have HRES := Hh hr
   clear hr
   go_wp2_with fail
   go_ret
   have h9 := HRES.out
   injection h9 with h9
   injection h9 with h9 h10
   subst h9 h10
   first
    | exact ⟨A, c, Af, cf, rfl, TabTo.on (TabTo.refl HT0.out) HW3.out⟩
    | exact ⟨rfl, A, c, Af, cf, TabTo.on (TabTo.refl HT0.out) HW3.out⟩
  rw [if_neg (by simp)] at hr
  cases hbn : withoutN F { t with count := t.count - 1 } t.root p with
  | none => rw [hbn] at hr; cases hr
  | some kt =>
   obtain ⟨rr, t1⟩ := kt
   rw [hbn] at hr
   simp only [] at hr
   have HRES := Hh hr
   have c2 : w3.cell? ⟨g, 2, none⟩ = some (.int .i64 t.count) := HT3.out.blk.cell 2
   go_upto_region 7 with (refine wpList_store_int (by rfl) _ _ rfl g 2 (t.count - 1) rfl rfl 93 _ _ HT3.out.blk rfl ?_; intro wq hkq hgq hsq)
   obtain ⟨tq, htq⟩ : ∃ tq, { t with count := t.count - 1 } = tq := ⟨_, rfl⟩
   have hkq' : Blk wq g 93 (tbC tq A c Af cf) := by rw [← htq]; exact hkq
   have e1 : tq.N = t.N := by rw [← htq]
   have e2 : tq.F = t.F := by rw [← htq]
   have hTq : Tab wq g tq A c Af cf := ⟨hkq', by rw [e1]; exact HT3.out.nodes.kept hgq (fun b hb e => HT3.out.ng b hb (by injection e with e; exact e.symm)), by rw [e2]; exact HT3.out.free.kept hgq (fun b hb e => HT3.out.fg b hb (by injection e with e; exact e.symm)), by rw [e1]; exact HT3.out.fit, HT3.out.ng, HT3.out.fg, HT3.out.nf⟩
   have HTq := Hh hTq
   have HTOq := Hh (show TabTo w g A c Af cf wq tq A c Af cf from ⟨hTq, (Kept.of_below HW3.out).trans (Kept.of_grown (S := own3 g A c Af cf) hgq (fun j hj => by injection hj with hj; exact .inl hj.symm)) (fun x hx _ => hx), fun b hb => .inl hb⟩)
   have hne : g ≠ g1 := by have := HT0.out.blk.lt; have := HWG.out; omega
   have HPq := Hh (HP3.out.grown hgq (fun e => hne (by injection e with e; exact e.symm)))
   have HBN := Hh (show withoutN F tq tq.root p = some (rr, t1) by rw [← htq]; exact hbn)
   clear hkq hkq' hgq hsq hTq e1 e2 hne htq hbn hr c2
   go_wp2_with fail
   refine wp_region_mid 7 10 [true, true, true, true, true, true, true, true, true, true] (fun _ => True) (fun v W => v = .int .i64 ((rr : Nat) : Int) ∧ ∃ A' c' Af' cf', TabTo wq g A c Af cf W t1 A' c' Af' cf') (fun A B => A.grownBy B none) (fun A => grown_refl A _) (fun A B C h k => grown_trans h k) (relAt (List.cons (fun v _ => v = .pointer (some ⟨g, 0, none⟩)) (List.cons (fun v _ => v = .pointer (some ⟨g, 0, none⟩)) (List.cons (fun v _ => v = .pointer (some ⟨g, 0, none⟩)) (List.cons (fun v _ => v = .pointer (some ⟨g, 0, none⟩)) (List.cons (fun v _ => v = .pointer (some ⟨g, 5, none⟩)) (List.cons (fun v _ => v = .int .i64 (tq.root : Int)) (List.cons (fun v _ => v = .agg p.cells.toArray) (List.cons (fun _ _ => True) (List.cons (fun v _ => v = .pointer (some ⟨g, 0, none⟩)) (List.cons (fun v _ => v = .pointer (some ⟨g, 5, none⟩)) ([])))))))))))) (MonoL.at_ (.cons (mono_val _) (.cons (mono_val _) (.cons (mono_val _) (.cons (mono_val _) (.cons (mono_val _) (.cons (mono_val _) (.cons (mono_val _) (.cons ((fun _ _ _ h _ => h)) (.cons (mono_val _) (.cons (mono_val _) .nil))))))))))) (ConstL.at_ (.cons (fun _ _ _ h => h) (.cons (fun _ _ _ h => h) (.cons (fun _ _ _ h => h) (.cons (fun _ _ _ h => h) (.cons (fun _ _ _ h => h) (.cons (fun _ _ _ h => h) (.cons (fun _ _ _ h => h) (.cons (fun _ _ _ h => h) (.cons (fun _ _ _ h => h) (.cons (fun _ _ _ h => h) .nil))))))))))) (fun v W h => True.intro) (fun W hX => True.intro) (fun v W h => True.intro) (by kernel_rfl) (by kernel_rfl) rfl (by decide) (by kernel_rfl) (by kernel_rfl) _ rfl rfl ⟨?_, ?_, ?_, ?_, ?_, ?_, ?_, ?_, ?_, ?_, trivial⟩ ?_
   ·refine stepM_calm ?_ ?_ ?_
    ·rfl
    ·kernel_rfl
    intro a vs W hS hR he hf K hK
    refine wn rfl ?_
    have e0 : a.eval (.tmp 0) = .pointer (some ⟨g, 0, none⟩) := hf 0 (by kernel_rfl)
    refine wp_value (v := .pointer (some ⟨g, 0, none⟩)) ?_ (hK _ rfl)
    simp only [execOp, e0]
    try go_simp
   ·refine stepM_anc ?_ ?_ ?_
    ·rfl
    ·kernel_rfl
    intro a vs W hX hR he hf K hK
    refine wn rfl ?_
    have e0 : a.eval (.tmp 0) = .pointer (some ⟨g, 0, none⟩) := hf 0 (by kernel_rfl)
    refine wV hK rfl ?_
    simp only [execOp, e0]
    try go_simp
   ·refine stepM_anc ?_ ?_ ?_
    ·rfl
    ·kernel_rfl
    intro a vs W hX hR he hf K hK
    refine wn rfl ?_
    have e0 : a.eval (.tmp 0) = .pointer (some ⟨g, 0, none⟩) := hf 0 (by kernel_rfl)
    refine wV hK rfl ?_
    simp only [execOp, e0]
    try go_simp
   ·refine stepM_anc ?_ ?_ ?_
    ·rfl
    ·kernel_rfl
    intro a vs W hX hR he hf K hK
    refine wn rfl ?_
    have e28 : a.eval (.tmp 28) = .pointer (some ⟨g, 0, none⟩) := eH he hR 2 (by kernel_rfl) rfl
    refine wV hK rfl ?_
    simp only [execOp, e28]
    try go_simp
   ·refine stepM_anc ?_ ?_ ?_
    ·rfl
    ·kernel_rfl
    intro a vs W hX hR he hf K hK
    refine wn rfl ?_
    have e29 : a.eval (.tmp 29) = .pointer (some ⟨g, 0, none⟩) := eH he hR 3 (by kernel_rfl) rfl
    refine wV hK rfl ?_
    simp only [execOp, e29]
    try go_simp
   ·refine stepM_anc ?_ ?_ ?_
    ·rfl
    ·kernel_rfl
    intro a vs W hX hR he hf K hK
    refine wn rfl ?_
    have e30 : a.eval (.tmp 30) = .pointer (some ⟨g, 5, none⟩) := eH he hR 4 (by kernel_rfl) rfl
    have hbW := bthen (below_drew _) (grow_below hX)
    have hc : W.cell? ⟨g, 5, none⟩ = some (.int .i64 (tq.root : Int)) := (HTq.out.blk.on hbW).cell 5
    refine wV hK rfl ?_
    simp only [execOp, e30]
    try go_simp
   ·refine stepM_anc ?_ ?_ ?_
    ·rfl
    ·kernel_rfl
    intro a vs W hX hR he hf K hK
    refine wn rfl ?_
    have e3 : a.eval (.tmp 3) = .pointer (some ⟨g1, 0, none⟩) := hf 3 (by kernel_rfl)
    have hbW := bthen (below_drew _) (grow_below hX)
    exact wp_value (exec_load 30 _ rfl g1 e3 30 p.cells _ (HPq.out.on hbW) Try.underlying30 rfl (sizePx _ HF.out.addr)) (gK hK rfl)
   ·refine stepM_heavy ?_ ?_
    ·rfl
    intro a vs W hX hR he hf K hK
    refine wn rfl ?_
    have e27 : a.eval (.tmp 27) = .pointer (some ⟨g, 0, none⟩) := eH he hR 1 (by kernel_rfl) rfl
    have e31 : a.eval (.tmp 31) = .int .i64 (tq.root : Int) := eH he hR 5 (by kernel_rfl) rfl
    have e32 : a.eval (.tmp 32) = .agg p.cells.toArray := eH he hR 6 (by kernel_rfl) rfl
    have hbW := bthen (below_drew _) (grow_below hX)
    refine wp_enter (f := 67) (args := #[.pointer (some ⟨g, 0, none⟩), .int .i64 ((tq.root : Nat) : Int), .agg p.cells.toArray]) (by simp only [execOp, e27, e31, e32]; go_simp; exact ⟨by simpa [Act.eval] using e27, by simpa [Act.eval] using e31, by simpa [Act.eval] using e32⟩) ((twithout_any F W g tq _ _ _ _ (HTq.out.on hbW) tq.root p HF.out rr t1 HBN.out).mono ?_)
    rintro e w' ⟨Af', cf', rfl, hto⟩
    exact ⟨_, rfl, hK _ _ ⟨rfl, _, _, Af', cf', TabTo.of hbW hto⟩⟩
   ·refine stepM_calm ?_ ?_ ?_
    ·rfl
    ·kernel_rfl
    intro a vs W hS hR he hf K hK
    refine wn rfl ?_
    have e26 : a.eval (.tmp 26) = .pointer (some ⟨g, 0, none⟩) := (he 0 26 (by kernel_rfl) rfl).trans (hR 0 (by kernel_rfl) rfl)
    refine wp_value (v := .pointer (some ⟨g, 0, none⟩)) ?_ (hK _ rfl)
    simp only [execOp, e26]
    try go_simp
   ·refine stepM_calm ?_ ?_ ?_
    ·rfl
    ·kernel_rfl
    intro a vs W hS hR he hf K hK
    refine wn rfl ?_
    have e34 : a.eval (.tmp 34) = .pointer (some ⟨g, 0, none⟩) := (he 8 34 (by kernel_rfl) rfl).trans (hR 8 (by kernel_rfl) rfl)
    refine wp_value (v := .pointer (some ⟨g, 5, none⟩)) ?_ (hK _ rfl)
    simp only [execOp, e34]
    try go_simp
   intro vs wx hPx hR
   have q0 := hR 0 (by decide) rfl
   change vs 0 = .pointer (some ⟨g, 0, none⟩) at q0
   have q1 := hR 1 (by decide) rfl
   change vs 1 = .pointer (some ⟨g, 0, none⟩) at q1
   have q2 := hR 2 (by decide) rfl
   change vs 2 = .pointer (some ⟨g, 0, none⟩) at q2
   have q3 := hR 3 (by decide) rfl
   change vs 3 = .pointer (some ⟨g, 0, none⟩) at q3
   have q4 := hR 4 (by decide) rfl
   change vs 4 = .pointer (some ⟨g, 5, none⟩) at q4
   have q5 := hR 5 (by decide) rfl
   change vs 5 = .int .i64 (tq.root : Int) at q5
   have q6 := hR 6 (by decide) rfl
   change vs 6 = .agg p.cells.toArray at q6
   have q8 := hR 8 (by decide) rfl
   change vs 8 = .pointer (some ⟨g, 0, none⟩) at q8
   have q9 := hR 9 (by decide) rfl
   change vs 9 = .pointer (some ⟨g, 5, none⟩) at q9
   simp only [putAll, Act.put, List.setIfInBounds_toArray, List.set_cons_zero, List.set_cons_succ, List.take_succ_cons, List.take_zero, q0, q1, q2, q3, q4, q5, q6, q8, q9]
   clear q0 q1 q2 q3 q4 q5 q6 q8 q9
   clear hR
   generalize vs 7 = vh at hPx ⊢
   obtain ⟨rfl, A', c', Af', cf', hto⟩ := hPx
   refine wp_store_int _ _ rfl g 5 ((rr : Nat) : Int) rfl rfl 93 _ _ hto.1.blk rfl ?_
   intro wy hky hgy hsy
   try simp only [List.getElem_toArray, List.getElem_cons_succ, List.getElem_cons_zero, Act.put, List.setIfInBounds_toArray, List.set_cons_zero, List.set_cons_succ]
   have hT9 : Tab wy g { t1 with root := rr } A' c' Af' cf' := ⟨hky, hto.1.nodes.kept hgy (fun b hb e => hto.1.ng b hb (by injection e with e; exact e.symm)), hto.1.free.kept hgy (fun b hb e => hto.1.fg b hb (by injection e with e; exact e.symm)), hto.1.fit, hto.1.ng, hto.1.fg, hto.1.nf⟩
   have HFIN := Hh (HTOq.out.trans (hto.trans (⟨hT9, Kept.of_grown (S := own3 g A' c' Af' cf') hgy (fun j hj => by injection hj with hj; exact .inl hj.symm), fun b hb => .inl hb⟩ : TabTo wx g A' c' Af' cf' wy _ A' c' Af' cf')))
   clear hT9 hto hky hgy hsy
   go_wp2_with fail
   go_ret
   have h9 := HRES.out
   injection h9 with h9
   injection h9 with h9 h10
   subst h9 h10
   first
    | exact ⟨A', c', Af', cf', rfl, HFIN.out⟩
    | exact ⟨rfl, A', c', Af', cf', HFIN.out⟩
end Go.Proofs.Ytdmgomknamdcfaa


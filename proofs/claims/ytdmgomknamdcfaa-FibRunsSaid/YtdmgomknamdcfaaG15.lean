/- Texts of this claim put together, in build order: each one's own remark stands ahead of it. -/
import Derived.Test.YtdmgomknamdcfaaG02
import Derived.Test.YtdmgomknamdcfaaG14
import Derived.Deep.DeepCutAuto
/- What the table's below (layer 9) computes. No condition but sizes. -/
namespace Go.Proofs.Ytdmgomknamdcfaa
open Go.RowKit
set_option linter.unusedVariables false
set_option maxRecDepth 20000
set_option linter.unusedSimpArgs false

/-- the longest prefix that covers both -/
def commonF (p q : Px) : Px := ofF p.six p.addr (lcp p.bits q.bits).length
instance (t : Tb) : Decidable (addOk t) := by unfold addOk; infer_instance
def Nd.of (p : Px) : Nd := ⟨p, false, 0, 0, 0⟩
/-- the node that stands in a node's place, with a prefix laid in, step by step -/
def belowN : Nat → Tb → Nat → Nd → Option (Nat × Tb)
 | 0, _, _, _ => none
 | f + 1, t, k, x =>
  if addOk t then
   if k = 0 then some (addT t x) else
   match t.N[k]? with
   | none => none
   | some o =>
    if chkP o.p = 0 ∧ o.p.six = x.p.six then
     if o.p = x.p then some (k, { t with N := t.N.set k { o with is := true, v := x.v } }) else
     if commonF o.p x.p = o.p then
      match belowN f t (o.kid (bitN x.p.addr o.p.len)) x with
      | none => none
      | some (kid, t') =>
       match t'.N[k]? with
       | none => none
       | some o' => some (k, { t' with N := t'.N.set k (o'.setKid (bitN x.p.addr o.p.len) kid) })
     else if commonF o.p x.p = x.p then some (addT t (x.setKid (bitN o.p.addr (commonF o.p x.p).len) k))
     else if addOk (addT t x).2 then
      some (addT (addT t x).2 (((Nd.of (commonF o.p x.p)).setKid (bitN o.p.addr (commonF o.p x.p).len) k).setKid (bitN x.p.addr (commonF o.p x.p).len) (addT t x).1))
     else none
    else none
  else none
theorem Nd.set_kid (n : Nd) (h : n.p.addr.length = 16) (s : Nat) (hs : s < 2) (k : Nat) : n.cells.set (20 + s) (.int .i64 (k : Int)) = (n.setKid s k).cells := by
 have h2 : s = 0 ∨ s = 1 := by omega
 rcases h2 with rfl | rfl
 ·exact n.set_k0 h k
 exact n.set_k1 h k
theorem Nd.setKid_p (n : Nd) (s k : Nat) : (n.setKid s k).p = n.p := by unfold Nd.setKid; split <;> rfl
theorem Nd.drop_addr (n : Nd) (h : n.p.addr.length = 16) : (n.cells.drop 1).take 16 = bv n.p.addr := by
 have e : (n.cells.drop 1).take 16 = (n.p.cells.drop 1).take 16 := by
  unfold Nd.cells
  rw [List.drop_append_of_le_length (by rw [n.p.cells_length h]; omega), List.take_append_of_le_length (by rw [List.length_drop, n.p.cells_length h]; omega)]
 rw [e, n.p.drop_addr h]
theorem run_buildNd1 (p : Px) (hp : p.addr.length = 16) (w : World) : (Instr.build 98 #[(0, .agg p.cells.toArray)]).run Try.prog w = .ok (.agg (Nd.of p).cells.toArray) w := by
 obtain ⟨b, l, m⟩ := p
 obtain ⟨s0, s1, s2, s3, s4, s5, s6, s7, s8, s9, s10, s11, s12, s13, s14, s15, rfl⟩ := list16p l hp
 kernel_rfl
theorem exec_buildNd1 {w : World} {o : Oper} {q : Act} (x0 : Operand) (ho : o.op = .build 98 #[(0, x0)]) (p : Px) (hp : p.addr.length = 16) (h0 : q.eval x0 = .agg p.cells.toArray) :
  (execOp q.eval o).run Try.prog w = .ok (.value (.agg (Nd.of p).cells.toArray)) w := by
 unfold execOp
 simp only [ho, List.map_toArray, List.map_cons, List.map_nil, h0, Sem.run_bind, run_buildNd1 p hp, Result.andThen_ok]
 rfl
theorem commonF_good {p q : Px} (hp : p.good) : (commonF p q).good := (common_ok hp (lcp p.bits q.bits).length rfl).1
set_option maxHeartbeats 4000000 in
theorem tbelow_any : ∀ (f : Nat) (w : World) (g : Nat) (t : Tb) (A Af : Option Addr) (c cf : Nat) (hT : Tab w g t A c Af cf) (k : Nat) (x : Nd) (hx : x.p.good) (r : Nat) (t' : Tb) (hr : belowN f t k x = some (r, t')),
  Calls Try.prog 55 #[.pointer (some ⟨g, 0, none⟩), .int .i64 (k : Int), .agg x.cells.toArray] w fun e w' => ∃ A' c' Af' cf', e = .returned (.int .i64 ((r : Nat) : Int)) ∧ TabTo w g A c Af cf w' t' A' c' Af' cf' := by
 intro f
 induction f with
 | zero => intro w g t A Af c cf hT k x hx r t' hr; cases hr
 | succ f ih =>
  intro w g t A Af c cf hT k x hx r t' hr
  have IH := Hh ih
  have HXG := Hh hx
  have HXF := Hh hx.fit
  have HT := Hh hT
  have HFIT := Hh hT.fit
  have HGL := Hh hT.blk.lt
  unfold belowN at hr
  by_cases hok : addOk t
  case neg => rw [if_neg hok] at hr; cases hr
  rw [if_pos hok] at hr
  have HOK := Hh hok
  clear hT hx ih hok
  by_cases hk : k = 0
  ·subst hk
   rw [if_pos rfl] at hr
   have HR := Hh (show addT t x = (r, t') by injection hr)
   clear hr
   go_enter Try.func55, Try.ntmps55
   go_upto_region 1 with (refine wpList_box_blk (by rfl) 98 (.tmp 2) rfl x.cells rfl ?_; intro w1 hb1 hB1 hs1; clear hs1)
   obtain ⟨g5, hg5⟩ : ∃ g, w.heap.size = g := ⟨_, rfl⟩
   have HWG := Hh (show w.heap.size ≤ g5 by omega)
   rw [hg5] at hb1
   try rw [hg5]
   have HX := Hh hb1
   have HW := Hh hB1
   have HT1 := Hh (HT.out.on hB1)
   clear hb1 hB1 hg5
   go_wp2_with (refine wpList_value (by rfl) (exec_load 98 _ rfl g5 (by rfl) 98 x.cells _ HX.out Try.underlying98 rfl (sizeNd _ HXF.out.addr)) ?_)
   refine (tadd_any w1 g t A Af c cf HT1.out HOK.out x HXF.out).mono ?_
   rintro e w2 ⟨A', c', Af', cf', rfl, hto⟩
   rw [HR.out] at hto
   have HTO := Hh hto
   rw [HR.out]
   clear hto
   go_wp2_with fail
   go_ret
   exact ⟨A', c', Af', cf', rfl, TabTo.of HW.out HTO.out⟩
  rw [if_neg hk] at hr
  cases ho : t.N[k]? with
  | none => rw [ho] at hr; cases hr
  | some o =>
   rw [ho] at hr
   simp only [] at hr
   by_cases hgd : chkP o.p = 0 ∧ o.p.six = x.p.six
   case neg => rw [if_neg hgd] at hr; cases hr
   rw [if_pos hgd] at hr
   have HOG := Hh ((chkP_iff o.p (HFIT.out o (List.mem_of_getElem? ho)).addr).1 hgd.1)
   have HOS := Hh hgd.2
   have HOF := Hh (HFIT.out o (List.mem_of_getElem? ho))
   have HCG := Hh (commonF_good (q := x.p) HOG.out)
   have HCF := Hh HCG.out.fit
   have HNO := Hh ho
   obtain ⟨bA, hA, hblkA, hbA, hneA, hrr, _, hk1, _⟩ := HT.out.node ho
   subst hA
   have HBLK := Hh hblkA
   have HNE := Hh hneA
   have HOR := Hh hrr
   have HBA := Hh hbA
   have HKL := Hh hk1
   have hlt : (k : Int) < (t.N.length : Int) := by omega
   have HKN := Hh (show ¬ (k : Int) = 0 by omega)
   have c0 : w.cell? ⟨g, 3, none⟩ = some (.slice (some ⟨bA, 0, none⟩) t.N.length c) := HT.out.blk.cell 3
   clear hgd ho hblkA hneA hrr hbA hk1
   go_enter Try.func55, Try.ntmps55
   go_upto_region 1 with (refine wpList_box_blk (by rfl) 98 (.tmp 2) rfl x.cells rfl ?_; intro w1 hb1 hB1 hs1; clear hs1)
   obtain ⟨g5, hg5⟩ : ∃ g, w.heap.size = g := ⟨_, rfl⟩
   have HWG := Hh (show w.heap.size ≤ g5 by omega)
   rw [hg5] at hb1
   try rw [hg5]
   have HX := Hh hb1
   have HW := Hh hB1
   have HT1 := Hh (HT.out.on hB1)
   have hor := range_below hB1 HBA.out (Nd.px_range HOR.out)
   replace HOR := Hh (range_below hB1 HBA.out HOR.out)
   replace HBA := Hh (Nat.lt_of_lt_of_le HBA.out hB1.size)
   have HOP := Hh hor
   replace c0 : w1.cell? ⟨g, 3, none⟩ = some (.slice (some ⟨bA, 0, none⟩) t.N.length c) := HT1.out.blk.cell 3
   clear hb1 hB1 hg5 hor
   go_upto_region 4 with (first
    | (refine wpList_value (by rfl) (exec_load_mid 30 _ rfl bA (k * 22) (by rfl) o.p.cells _ HOP.out Try.underlying30 rfl (sizePx _ HOF.out.addr)) ?_)
    | (refine wpList_alloc_blk (by rfl) 30 rfl Px.zero.cells zeroPx ?_; intro w2 hb2 hB2 hs2; clear hs2)
    | (refine wpList_store_all (by rfl) 30 _ _ rfl w1.heap.size o.p.cells rfl rfl 30 _ hb2 (sizePx _ HOF.out.addr) (Px.cells_same _ _ HOF.out.addr rfl) (onePx _) ?_; intro w3 hb3 hg3 hs3))
   have hB3 : Below w1.heap.size w1 w3 := bgrown hB2 hg3 hB2.size (Nat.le_refl _)
   have h57 : g5 < w1.heap.size := HX.out.lt
   obtain ⟨g7, hg7⟩ : ∃ g, w1.heap.size = g := ⟨_, rfl⟩
   have hx3 := HX.out.on hB3
   have hr3 := hx3.range 0 18
   rw [List.drop_zero, show x.cells.take 18 = x.p.cells from List.take_left' (x.p.cells_length HXF.out.addr)] at hr3
   rw [hg7] at hb3 h57
   try rw [hg7]
   have HX3 := Hh hx3
   have HXR := Hh hr3
   have HP7 := Hh hb3
   have HW3 := Hh (bthen HW.out hB3)
   have HT3 := Hh (HT1.out.on hB3)
   have H57 := Hh h57
   clear hb2 hB2 hb3 hg3 hs3 hB3 hg7 hx3 hr3 h57 c0
   go_wp2_with (first
    | (refine wpList_value (by rfl) (exec_load 30 _ rfl g7 (by rfl) 30 o.p.cells _ HP7.out Try.underlying30 rfl (sizePx _ HOF.out.addr)) ?_)
    | (refine wpList_value (by rfl) (exec_load_mid 30 _ rfl g5 0 (by rfl) x.p.cells _ HXR.out Try.underlying30 rfl (sizePx _ HXF.out.addr)) ?_))
   refine (common_any o.p HOG.out x.p HXG.out HOS.out w3).mono ?_
   rintro e w4 ⟨rfl, hb⟩
   rw [show ofF o.p.six o.p.addr (lcp o.p.bits x.p.bits).length = commonF o.p x.p from rfl]
   have HX4 := Hh (HX3.out.on hb)
   have HP74 := Hh (HP7.out.on hb)
   have HT4 := Hh (HT3.out.on hb)
   have HW4 := Hh (bthen HW3.out hb)
   obtain ⟨cc, hcc⟩ : ∃ cc, commonF o.p x.p = cc := ⟨_, rfl⟩
   rw [hcc] at hr
   rw [hcc] at HCF
   try rw [hcc]
   clear hb hcc HX3 HP7 HT3 HW3 HXR HX HW HT1
   go_upto_region 9 with (first
    | (refine wpList_alloc_blk (by rfl) 30 rfl Px.zero.cells zeroPx ?_; intro w5 hb5 hB5 hs5; clear hs5)
    | (refine wpList_store_all (by rfl) 30 _ _ rfl w4.heap.size cc.cells rfl rfl 30 _ hb5 (sizePx _ HCF.out.addr) (Px.cells_same _ _ HCF.out.addr rfl) (onePx _) ?_; intro w6 hb6 hg6 hs6))
   have hB6 : Below w4.heap.size w4 w6 := bgrown hB5 hg6 hB5.size (Nat.le_refl _)
   have h78 : g7 < w4.heap.size := HP74.out.lt
   obtain ⟨g8, hg8⟩ : ∃ g, w4.heap.size = g := ⟨_, rfl⟩
   have hx6 := HX4.out.on hB6
   have hr6 := hx6.range 0 18
   rw [List.drop_zero, show x.cells.take 18 = x.p.cells from List.take_left' (x.p.cells_length HXF.out.addr)] at hr6
   have ho6 := HP74.out.on hB6
   have ht6 := HT4.out.on hB6
   have hor6 := ht6.node HNO.out
   rw [hg8] at hb6 h78
   try rw [hg8]
   have HX := Hh hx6
   have HXR := Hh hr6
   have HP7 := Hh ho6
   have HP8 := Hh hb6
   have HW6 := Hh (bthen HW4.out hB6)
   have HT6 := Hh ht6
   have H78 := Hh h78
   have HR0 := Hh (show w6.rangeAt bA (k * 22) o.cells ∧ bA < w6.heap.size by obtain ⟨b9, h9, _, h10, _, h11, _⟩ := hor6; injection h9 with h9; injection h9 with h9; subst h9; exact ⟨h11, h10⟩)
   have HBA6 := Hh HR0.out.2
   have HXR6 := Hh HR0.out.1
   have HOWN := Hh (show ∀ b, own3 g (some ⟨bA, 0, none⟩) c Af cf b → b < w.heap.size from HT.out.lt)
   clear hb5 hB5 hb6 hg6 hs6 hB6 hg8 hx6 hr6 ho6 ht6 hor6 h78 HR0 HX4 HP74 HT4 HW4 HOP HBA HOR
   have c0 : w6.cell? ⟨g, 3, none⟩ = some (.slice (some ⟨bA, 0, none⟩) t.N.length c) := HT6.out.blk.cell 3
   by_cases he1 : o.p = x.p
   ·rw [if_pos he1] at hr
    have HE1 := Hh (decide_eq_true he1)
    have HRES := Hh hr
    clear hr he1
    go_wp2_with (first
     | (refine wpList_value (by rfl) (exec_load 30 _ rfl g7 (by rfl) 30 o.p.cells _ HP7.out Try.underlying30 rfl (sizePx _ HOF.out.addr)) ?_)
     | (refine wpList_value (by rfl) (exec_load_mid 30 _ rfl g5 0 (by rfl) x.p.cells _ HXR.out Try.underlying30 rfl (sizePx _ HXF.out.addr)) ?_)
     | (refine wpList_value (by rfl) (exec_eqPx _ _ _ rfl o.p x.p HOF.out.addr HXF.out.addr true HE1.out rfl rfl) ?_)
    )
    refine wp_region_mid 14 17 [true, true, true, true, true, true, true, true, true, true, true, true, true, true, true, true, true] (fun W => Blk W g5 98 x.cells) (fun v W => Own W 0 98 22 (some ⟨bA, 0, none⟩) t.N.length c (nds (t.N.set k { o with is := true })) ∧ Blk W g 93 (tbC t (some ⟨bA, 0, none⟩) c Af cf) ∧ Own W 0 3 1 Af t.F.length cf (ints t.F) ∧ Blk W g5 98 x.cells ∧ Kept (own3 g (some ⟨bA, 0, none⟩) c Af cf) w6 W) (fun A B => A.grownBy B none) (fun A => grown_refl A _) (fun A B C h k => grown_trans h k) (relAt (List.cons (fun v _ => v = .pointer (some ⟨g, 0, none⟩)) (List.cons (fun v _ => v = .pointer (some ⟨g, 0, none⟩)) (List.cons (fun v _ => v = .pointer (some ⟨g, 3, none⟩)) (List.cons (fun v _ => v = .slice (some ⟨bA, 0, none⟩) t.N.length c) (List.cons (fun v _ => v = .int .i64 (k : Int)) (List.cons (fun v _ => v = .pointer (some ⟨g, 0, none⟩)) (List.cons (fun v _ => v = .pointer (some ⟨g, 0, none⟩)) (List.cons (fun v _ => v = .pointer (some ⟨g, 3, none⟩)) (List.cons (fun v _ => v = .slice (some ⟨bA, 0, none⟩) t.N.length c) (List.cons (fun v _ => v = .int .i64 (k : Int)) (List.cons (fun v _ => v = .pointer (some ⟨g5, 19, none⟩)) (List.cons (fun v _ => v = .int .i64 x.v) (List.cons (fun v _ => v = .pointer (some ⟨bA, k * 22, none⟩)) (List.cons (fun v _ => v = .pointer (some ⟨bA, k * 22 + 18, none⟩)) (List.cons (fun _ _ => True) (List.cons (fun v _ => v = .pointer (some ⟨bA, k * 22, none⟩)) (List.cons (fun v _ => v = .pointer (some ⟨bA, k * 22 + 19, none⟩)) ([]))))))))))))))))))) (MonoL.at_ (.cons (mono_val _) (.cons (mono_val _) (.cons (mono_val _) (.cons (mono_val _) (.cons (mono_val _) (.cons (mono_val _) (.cons (mono_val _) (.cons (mono_val _) (.cons (mono_val _) (.cons (mono_val _) (.cons (mono_val _) (.cons (mono_val _) (.cons (mono_val _) (.cons (mono_val _) (.cons ((fun _ _ _ h _ => h)) (.cons (mono_val _) (.cons (mono_val _) .nil)))))))))))))))))) (ConstL.at_ (.cons (fun _ _ _ h => h) (.cons (fun _ _ _ h => h) (.cons (fun _ _ _ h => h) (.cons (fun _ _ _ h => h) (.cons (fun _ _ _ h => h) (.cons (fun _ _ _ h => h) (.cons (fun _ _ _ h => h) (.cons (fun _ _ _ h => h) (.cons (fun _ _ _ h => h) (.cons (fun _ _ _ h => h) (.cons (fun _ _ _ h => h) (.cons (fun _ _ _ h => h) (.cons (fun _ _ _ h => h) (.cons (fun _ _ _ h => h) (.cons (fun _ _ _ h => h) (.cons (fun _ _ _ h => h) (.cons (fun _ _ _ h => h) .nil)))))))))))))))))) (fun v W h => True.intro) (fun W hX => HX.out.on (bthen (below_drew _) (grow_below hX))) (fun v W h => h.2.2.2.1) (by kernel_rfl) (by kernel_rfl) rfl (by decide) (by kernel_rfl) (by kernel_rfl) _ rfl rfl ⟨?_, ?_, ?_, ?_, ?_, ?_, ?_, ?_, ?_, ?_, ?_, ?_, ?_, ?_, ?_, ?_, ?_, trivial⟩ ?_
    ·refine stepM_anc ?_ ?_ ?_
     ·rfl
     ·kernel_rfl
     intro a vs W hX hR he hf K hK
     refine wn rfl ?_
     have e0 : a.eval (.tmp 0) = .pointer (some ⟨g, 0, none⟩) := hf 0 (by kernel_rfl)
     refine wV hK rfl ?_
     simp only [execOp, e0]
     try go_simp
    ·refine stepM_anc ?_ ?_ ?_
     ·rfl
     ·kernel_rfl
     intro a vs W hX hR he hf K hK
     refine wn rfl ?_
     have e62 : a.eval (.tmp 62) = .pointer (some ⟨g, 0, none⟩) := eH he hR 0 (by kernel_rfl) rfl
     refine wV hK rfl ?_
     simp only [execOp, e62]
     try go_simp
    ·refine stepM_anc ?_ ?_ ?_
     ·rfl
     ·kernel_rfl
     intro a vs W hX hR he hf K hK
     refine wn rfl ?_
     have e63 : a.eval (.tmp 63) = .pointer (some ⟨g, 0, none⟩) := eH he hR 1 (by kernel_rfl) rfl
     refine wV hK rfl ?_
     simp only [execOp, e63]
     try go_simp
    ·refine stepM_anc ?_ ?_ ?_
     ·rfl
     ·kernel_rfl
     intro a vs W hX hR he hf K hK
     refine wn rfl ?_
     have e64 : a.eval (.tmp 64) = .pointer (some ⟨g, 3, none⟩) := eH he hR 2 (by kernel_rfl) rfl
     have hbW := bthen (below_drew _) (grow_below hX)
     have hc : W.cell? ⟨g, 3, none⟩ = some (.slice (some ⟨bA, 0, none⟩) t.N.length c) := (HT6.out.blk.on hbW).cell 3
     refine wV hK rfl ?_
     simp only [execOp, e64]
     try go_simp
    ·refine stepM_anc ?_ ?_ ?_
     ·rfl
     ·kernel_rfl
     intro a vs W hX hR he hf K hK
     refine wn rfl ?_
     have e1 : a.eval (.tmp 1) = .int .i64 (k : Int) := hf 1 (by kernel_rfl)
     refine wV hK rfl ?_
     simp only [execOp, e1]
     try go_simp
    ·refine stepM_anc ?_ ?_ ?_
     ·rfl
     ·kernel_rfl
     intro a vs W hX hR he hf K hK
     refine wn rfl ?_
     have e0 : a.eval (.tmp 0) = .pointer (some ⟨g, 0, none⟩) := hf 0 (by kernel_rfl)
     refine wV hK rfl ?_
     simp only [execOp, e0]
     try go_simp
    ·refine stepM_anc ?_ ?_ ?_
     ·rfl
     ·kernel_rfl
     intro a vs W hX hR he hf K hK
     refine wn rfl ?_
     have e67 : a.eval (.tmp 67) = .pointer (some ⟨g, 0, none⟩) := eH he hR 5 (by kernel_rfl) rfl
     refine wV hK rfl ?_
     simp only [execOp, e67]
     try go_simp
    ·refine stepM_anc ?_ ?_ ?_
     ·rfl
     ·kernel_rfl
     intro a vs W hX hR he hf K hK
     refine wn rfl ?_
     have e68 : a.eval (.tmp 68) = .pointer (some ⟨g, 0, none⟩) := eH he hR 6 (by kernel_rfl) rfl
     refine wV hK rfl ?_
     simp only [execOp, e68]
     try go_simp
    ·refine stepM_anc ?_ ?_ ?_
     ·rfl
     ·kernel_rfl
     intro a vs W hX hR he hf K hK
     refine wn rfl ?_
     have e69 : a.eval (.tmp 69) = .pointer (some ⟨g, 3, none⟩) := eH he hR 7 (by kernel_rfl) rfl
     have hbW := bthen (below_drew _) (grow_below hX)
     have hc : W.cell? ⟨g, 3, none⟩ = some (.slice (some ⟨bA, 0, none⟩) t.N.length c) := (HT6.out.blk.on hbW).cell 3
     refine wV hK rfl ?_
     simp only [execOp, e69]
     try go_simp
    ·refine stepM_calm ?_ ?_ ?_
     ·rfl
     ·kernel_rfl
     intro a vs W hS hR he hf K hK
     refine wn rfl ?_
     have e1 : a.eval (.tmp 1) = .int .i64 (k : Int) := hf 1 (by kernel_rfl)
     refine wp_value (v := .int .i64 (k : Int)) ?_ (hK _ rfl)
     simp only [execOp, e1]
     try go_simp
    ·refine stepM_calm ?_ ?_ ?_
     ·rfl
     ·kernel_rfl
     intro a vs W hS hR he hf K hK
     refine wn rfl ?_
     have e5 : a.eval (.tmp 5) = .pointer (some ⟨g5, 0, none⟩) := hf 5 (by kernel_rfl)
     refine wp_value (v := .pointer (some ⟨g5, 19, none⟩)) ?_ (hK _ rfl)
     simp only [execOp, e5]
     try go_simp
    ·refine stepM_calm ?_ ?_ ?_
     ·rfl
     ·kernel_rfl
     intro a vs W hS hR he hf K hK
     refine wn rfl ?_
     have e72 : a.eval (.tmp 72) = .pointer (some ⟨g5, 19, none⟩) := (he 10 72 (by kernel_rfl) rfl).trans (hR 10 (by kernel_rfl) rfl)
     have hc : W.cell? ⟨g5, 19, none⟩ = some (.int .i64 x.v) := (hS.cell 19).trans (x.get_v HXF.out.addr)
     refine wp_value (v := _) ?_ (hK _ rfl)
     simp only [execOp, e72]
     try go_simp
    ·refine stepM_anc ?_ ?_ ?_
     ·rfl
     ·kernel_rfl
     intro a vs W hX hR he hf K hK
     refine wn rfl ?_
     have e65 : a.eval (.tmp 65) = .slice (some ⟨bA, 0, none⟩) t.N.length c := eH he hR 3 (by kernel_rfl) rfl
     have e66 : a.eval (.tmp 66) = .int .i64 (k : Int) := eH he hR 4 (by kernel_rfl) rfl
     refine wV hK rfl ?_
     simp only [execOp, e65, e66]
     go_simp
    ·refine stepM_anc ?_ ?_ ?_
     ·rfl
     ·kernel_rfl
     intro a vs W hX hR he hf K hK
     refine wn rfl ?_
     have e74 : a.eval (.tmp 74) = .pointer (some ⟨bA, k * 22, none⟩) := eH he hR 12 (by kernel_rfl) rfl
     refine wV hK rfl ?_
     simp only [execOp, e74]
     try go_simp
    ·refine stepM_heavy ?_ ?_
     ·rfl
     intro a vs W hX hR he hf K hK
     refine wn rfl ?_
     have e75 : a.eval (.tmp 75) = .pointer (some ⟨bA, k * 22 + 18, none⟩) := eH he hR 13 (by kernel_rfl) rfl
     have hbW := bthen (below_drew _) (grow_below hX)
     have hT2 := HT6.out.on hbW
     refine wp_store_ownB _ _ rfl bA (k * 22 + 18) true e75 rfl hT2.nodes (by have := HKL.out; omega) ?_
     intro W7 hoW hgW hsW
     rw [nds_set t.N HFIT.out k o { o with is := true } HNO.out 18 (by omega) _ (o.set_is HOF.out.addr true)] at hoW
     refine hK _ _ ⟨hoW, hT2.blk.grown hgW (fun e => HNE.out (by injection e with e; exact e.symm)), hT2.free.kept hgW (fun b hb e => HT6.out.nf bA HBLK.out (by injection e with e; rw [e]; exact hb)), (HX.out.on hbW).grown hgW (fun e => ?_), (Kept.of_below hbW).trans (Kept.of_grown (S := own3 g (some ⟨bA, 0, none⟩) c Af cf) hgW (fun j hj => by injection hj with hj; exact .inr (.inl (by rw [← hj]; exact HBLK.out)))) (fun x hx _ => hx)⟩
     injection e with e
     have := HOWN.out bA (.inr (.inl HBLK.out))
     have := HWG.out
     omega
    ·refine stepM_calm ?_ ?_ ?_
     ·rfl
     ·kernel_rfl
     intro a vs W hS hR he hf K hK
     refine wn rfl ?_
     have e70 : a.eval (.tmp 70) = .slice (some ⟨bA, 0, none⟩) t.N.length c := (he 8 70 (by kernel_rfl) rfl).trans (hR 8 (by kernel_rfl) rfl)
     have e71 : a.eval (.tmp 71) = .int .i64 (k : Int) := (he 9 71 (by kernel_rfl) rfl).trans (hR 9 (by kernel_rfl) rfl)
     refine wp_value (v := .pointer (some ⟨bA, k * 22, none⟩)) ?_ (hK _ rfl)
     simp only [execOp, e70, e71]
     go_simp
    ·refine stepM_calm ?_ ?_ ?_
     ·rfl
     ·kernel_rfl
     intro a vs W hS hR he hf K hK
     refine wn rfl ?_
     have e76 : a.eval (.tmp 76) = .pointer (some ⟨bA, k * 22, none⟩) := (he 15 76 (by kernel_rfl) rfl).trans (hR 15 (by kernel_rfl) rfl)
     refine wp_value (v := .pointer (some ⟨bA, k * 22 + 19, none⟩)) ?_ (hK _ rfl)
     simp only [execOp, e76]
     try go_simp
    intro vs wx hPx hR
    have q0 := hR 0 (by decide) rfl
    change vs 0 = .pointer (some ⟨g, 0, none⟩) at q0
    have q1 := hR 1 (by decide) rfl
    change vs 1 = .pointer (some ⟨g, 0, none⟩) at q1
    have q2 := hR 2 (by decide) rfl
    change vs 2 = .pointer (some ⟨g, 3, none⟩) at q2
    have q3 := hR 3 (by decide) rfl
    change vs 3 = .slice (some ⟨bA, 0, none⟩) t.N.length c at q3
    have q4 := hR 4 (by decide) rfl
    change vs 4 = .int .i64 (k : Int) at q4
    have q5 := hR 5 (by decide) rfl
    change vs 5 = .pointer (some ⟨g, 0, none⟩) at q5
    have q6 := hR 6 (by decide) rfl
    change vs 6 = .pointer (some ⟨g, 0, none⟩) at q6
    have q7 := hR 7 (by decide) rfl
    change vs 7 = .pointer (some ⟨g, 3, none⟩) at q7
    have q8 := hR 8 (by decide) rfl
    change vs 8 = .slice (some ⟨bA, 0, none⟩) t.N.length c at q8
    have q9 := hR 9 (by decide) rfl
    change vs 9 = .int .i64 (k : Int) at q9
    have q10 := hR 10 (by decide) rfl
    change vs 10 = .pointer (some ⟨g5, 19, none⟩) at q10
    have q11 := hR 11 (by decide) rfl
    change vs 11 = .int .i64 x.v at q11
    have q12 := hR 12 (by decide) rfl
    change vs 12 = .pointer (some ⟨bA, k * 22, none⟩) at q12
    have q13 := hR 13 (by decide) rfl
    change vs 13 = .pointer (some ⟨bA, k * 22 + 18, none⟩) at q13
    have q15 := hR 15 (by decide) rfl
    change vs 15 = .pointer (some ⟨bA, k * 22, none⟩) at q15
    have q16 := hR 16 (by decide) rfl
    change vs 16 = .pointer (some ⟨bA, k * 22 + 19, none⟩) at q16
    simp only [putAll, Act.put, List.setIfInBounds_toArray, List.set_cons_zero, List.set_cons_succ, List.take_succ_cons, List.take_zero, q0, q1, q2, q3, q4, q5, q6, q7, q8, q9, q10, q11, q12, q13, q15, q16]
    clear q0 q1 q2 q3 q4 q5 q6 q7 q8 q9 q10 q11 q12 q13 q15 q16
    clear hR
    generalize vs 14 = vh at hPx ⊢
    obtain ⟨ho7, hk7, hf7, hx7, hkp7⟩ := hPx
    refine wp_store_ownI _ _ rfl bA (k * 22 + 19) x.v rfl rfl ho7 (by have := HKL.out; omega) ?_
    intro wy hoy hgy hsy
    try simp only [List.getElem_toArray, List.getElem_cons_succ, List.getElem_cons_zero, Act.put, List.setIfInBounds_toArray, List.set_cons_zero, List.set_cons_succ]
    rw [nds_set (t.N.set k { o with is := true }) (set_fit HFIT.out HOF.out) k { o with is := true } { o with is := true, v := x.v } (List.getElem?_set_self HKL.out) 19 (by omega) _ (Nd.set_v { o with is := true } HOF.out.addr x.v), List.set_set] at hoy
    have hT9 : Tab wy g { t with N := t.N.set k { o with is := true, v := x.v } } (some ⟨bA, 0, none⟩) c Af cf := by
     refine ⟨?_, ?_, hf7.kept hgy (fun b hb e => HT6.out.nf bA HBLK.out (by injection e with e; rw [e]; exact hb)), set_fit HFIT.out HOF.out, HT6.out.ng, HT6.out.fg, HT6.out.nf⟩
     ·have := hk7.grown hgy (fun e => HNE.out (by injection e with e; exact e.symm))
      simpa [tbC] using this
     simpa using hoy
    have hk9 : Kept (own3 g (some ⟨bA, 0, none⟩) c Af cf) w wy := (Kept.of_below HW6.out).trans (hkp7.trans (Kept.of_grown (S := own3 g (some ⟨bA, 0, none⟩) c Af cf) hgy (fun j hj => by injection hj with hj; exact .inr (.inl (by rw [← hj]; exact HBLK.out)))) (fun x hx _ => hx)) (fun x hx _ => hx)
    have HFIN := Hh (show TabTo w g (some ⟨bA, 0, none⟩) c Af cf wy _ (some ⟨bA, 0, none⟩) c Af cf from ⟨hT9, hk9, fun b hb => .inl hb⟩)
    clear hT9 hk9 hoy hgy hsy ho7 hk7 hf7 hx7 hkp7 c0
    go_wp2_with fail
    go_ret
    have h9 := HRES.out
    injection h9 with h9
    injection h9 with h9 h10
    subst h9 h10
    exact ⟨_, c, Af, cf, rfl, HFIN.out⟩
   rw [if_neg he1] at hr
   have HE1 := Hh (decide_eq_false he1)
   clear he1
   by_cases he2 : cc = o.p
   ·rw [if_pos he2] at hr
    have HE2 := Hh (decide_eq_true he2)
    clear he2
    obtain ⟨s, hs⟩ : ∃ s, bitN x.p.addr o.p.len = s := ⟨_, rfl⟩
    rw [hs] at hr
    have hs2 : (s : Int) < 2 := by rw [← hs]; have := bitN_lt x.p.addr o.p.len; omega
    cases hbn : belowN f t (o.kid s) x with
    | none => rw [hbn] at hr; cases hr
    | some kt =>
     obtain ⟨kid, t1⟩ := kt
     rw [hbn] at hr
     simp only [] at hr
     cases hn1 : t1.N[k]? with
     | none => rw [hn1] at hr; cases hr
     | some o1 =>
      rw [hn1] at hr
      simp only [] at hr
      have HRES := Hh hr
      have HBN := Hh hbn
      have HN1 := Hh hn1
      have HS := Hh hs
      clear hr hbn hn1 hs
      go_wp2_with (first
       | (refine wpList_value (by rfl) (exec_load 30 _ rfl g7 (by rfl) 30 o.p.cells _ HP7.out Try.underlying30 rfl (sizePx _ HOF.out.addr)) ?_)
       | (refine wpList_value (by rfl) (exec_load 30 _ rfl g8 (by rfl) 30 cc.cells _ HP8.out Try.underlying30 rfl (sizePx _ HCF.out.addr)) ?_)
       | (refine wpList_value (by rfl) (exec_load_mid 30 _ rfl g5 0 (by rfl) x.p.cells _ HXR.out Try.underlying30 rfl (sizePx _ HXF.out.addr)) ?_)
       | (refine wpList_value (by rfl) (exec_eqPx _ _ _ rfl o.p x.p HOF.out.addr HXF.out.addr false HE1.out rfl rfl) ?_)
       | (refine wpList_value (by rfl) (exec_eqPx _ _ _ rfl cc o.p HCF.out.addr HOF.out.addr true HE2.out rfl rfl) ?_)
      )
      refine (tside_any w6 g t _ _ _ _ HT6.out k o HNO.out x.p HXF.out).mono ?_
      rintro e w7 ⟨rfl, hb⟩
      rw [HS.out]
      have HT7 := Hh (HT6.out.on hb)
      have HX7 := Hh (HX.out.on hb)
      have HXR7 := Hh (range_below hb HBA6.out HXR6.out)
      have HBA7 := Hh (Nat.lt_of_lt_of_le HBA6.out hb.size)
      have HW7 := Hh (bthen HW6.out hb)
      clear hb c0
      go_wp2_with fail
      refine wp_region_mid 12 13 [true, true, true, true, true, true, true, true, true, true, true, true, true] (fun _ => True) (fun v W => v = .int .i64 ((kid : Nat) : Int) ∧ ∃ A' c' Af' cf', TabTo w7 g (some ⟨bA, 0, none⟩) c Af cf W t1 A' c' Af' cf') (fun A B => A.grownBy B none) (fun A => grown_refl A _) (fun A B C h k => grown_trans h k) (relAt (List.cons (fun v _ => v = .pointer (some ⟨g, 0, none⟩)) (List.cons (fun v _ => v = .pointer (some ⟨g, 0, none⟩)) (List.cons (fun v _ => v = .pointer (some ⟨g, 0, none⟩)) (List.cons (fun v _ => v = .pointer (some ⟨g, 3, none⟩)) (List.cons (fun v _ => v = .slice (some ⟨bA, 0, none⟩) t.N.length c) (List.cons (fun v _ => v = .int .i64 (k : Int)) (List.cons (fun v _ => v = .int .i64 (s : Int)) (List.cons (fun v _ => v = .pointer (some ⟨bA, k * 22, none⟩)) (List.cons (fun v _ => v = .pointer (some ⟨bA, k * 22 + 20, none⟩)) (List.cons (fun v _ => v = .pointer (some ⟨bA, k * 22 + (20 + s), none⟩)) (List.cons (fun v _ => v = .int .i64 ((o.kid s : Nat) : Int)) (List.cons (fun v _ => v = .agg x.cells.toArray) (List.cons (fun _ _ => True) ([]))))))))))))))) (MonoL.at_ (.cons (mono_val _) (.cons (mono_val _) (.cons (mono_val _) (.cons (mono_val _) (.cons (mono_val _) (.cons (mono_val _) (.cons (mono_val _) (.cons (mono_val _) (.cons (mono_val _) (.cons (mono_val _) (.cons (mono_val _) (.cons (mono_val _) (.cons ((fun _ _ _ h _ => h)) .nil)))))))))))))) (ConstL.at_ (.cons (fun _ _ _ h => h) (.cons (fun _ _ _ h => h) (.cons (fun _ _ _ h => h) (.cons (fun _ _ _ h => h) (.cons (fun _ _ _ h => h) (.cons (fun _ _ _ h => h) (.cons (fun _ _ _ h => h) (.cons (fun _ _ _ h => h) (.cons (fun _ _ _ h => h) (.cons (fun _ _ _ h => h) (.cons (fun _ _ _ h => h) (.cons (fun _ _ _ h => h) (.cons (fun _ _ _ h => h) .nil)))))))))))))) (fun v W h => True.intro) (fun W hX => True.intro) (fun v W h => True.intro) (by kernel_rfl) (by kernel_rfl) rfl (by decide) (by kernel_rfl) (by kernel_rfl) _ rfl rfl ⟨?_, ?_, ?_, ?_, ?_, ?_, ?_, ?_, ?_, ?_, ?_, ?_, ?_, trivial⟩ ?_
      ·refine stepM_anc ?_ ?_ ?_
       ·rfl
       ·kernel_rfl
       intro a vs W hX hR he hf K hK
       refine wn rfl ?_
       have e0 : a.eval (.tmp 0) = .pointer (some ⟨g, 0, none⟩) := hf 0 (by kernel_rfl)
       refine wV hK rfl ?_
       simp only [execOp, e0]
       try go_simp
      ·refine stepM_anc ?_ ?_ ?_
       ·rfl
       ·kernel_rfl
       intro a vs W hX hR he hf K hK
       refine wn rfl ?_
       have e0 : a.eval (.tmp 0) = .pointer (some ⟨g, 0, none⟩) := hf 0 (by kernel_rfl)
       refine wV hK rfl ?_
       simp only [execOp, e0]
       try go_simp
      ·refine stepM_anc ?_ ?_ ?_
       ·rfl
       ·kernel_rfl
       intro a vs W hX hR he hf K hK
       refine wn rfl ?_
       have e89 : a.eval (.tmp 89) = .pointer (some ⟨g, 0, none⟩) := eH he hR 1 (by kernel_rfl) rfl
       refine wV hK rfl ?_
       simp only [execOp, e89]
       try go_simp
      ·refine stepM_anc ?_ ?_ ?_
       ·rfl
       ·kernel_rfl
       intro a vs W hX hR he hf K hK
       refine wn rfl ?_
       have e90 : a.eval (.tmp 90) = .pointer (some ⟨g, 0, none⟩) := eH he hR 2 (by kernel_rfl) rfl
       refine wV hK rfl ?_
       simp only [execOp, e90]
       try go_simp
      ·refine stepM_anc ?_ ?_ ?_
       ·rfl
       ·kernel_rfl
       intro a vs W hX hR he hf K hK
       refine wn rfl ?_
       have e91 : a.eval (.tmp 91) = .pointer (some ⟨g, 3, none⟩) := eH he hR 3 (by kernel_rfl) rfl
       have hbW := bthen (below_drew _) (grow_below hX)
       have hc : W.cell? ⟨g, 3, none⟩ = some (.slice (some ⟨bA, 0, none⟩) t.N.length c) := (HT7.out.blk.on hbW).cell 3
       refine wV hK rfl ?_
       simp only [execOp, e91]
       try go_simp
      ·refine stepM_anc ?_ ?_ ?_
       ·rfl
       ·kernel_rfl
       intro a vs W hX hR he hf K hK
       refine wn rfl ?_
       have e1 : a.eval (.tmp 1) = .int .i64 (k : Int) := hf 1 (by kernel_rfl)
       refine wV hK rfl ?_
       simp only [execOp, e1]
       try go_simp
      ·refine stepM_anc ?_ ?_ ?_
       ·rfl
       ·kernel_rfl
       intro a vs W hX hR he hf K hK
       refine wn rfl ?_
       have e10 : a.eval (.tmp 10) = .int .i64 (s : Int) := hf 10 (by kernel_rfl)
       refine wV hK rfl ?_
       simp only [execOp, e10]
       try go_simp
      ·refine stepM_anc ?_ ?_ ?_
       ·rfl
       ·kernel_rfl
       intro a vs W hX hR he hf K hK
       refine wn rfl ?_
       have e92 : a.eval (.tmp 92) = .slice (some ⟨bA, 0, none⟩) t.N.length c := eH he hR 4 (by kernel_rfl) rfl
       have e93 : a.eval (.tmp 93) = .int .i64 (k : Int) := eH he hR 5 (by kernel_rfl) rfl
       refine wV hK rfl ?_
       simp only [execOp, e92, e93]
       go_simp
      ·refine stepM_anc ?_ ?_ ?_
       ·rfl
       ·kernel_rfl
       intro a vs W hX hR he hf K hK
       refine wn rfl ?_
       have e95 : a.eval (.tmp 95) = .pointer (some ⟨bA, k * 22, none⟩) := eH he hR 7 (by kernel_rfl) rfl
       refine wV hK rfl ?_
       simp only [execOp, e95]
       try go_simp
      ·refine stepM_anc ?_ ?_ ?_
       ·rfl
       ·kernel_rfl
       intro a vs W hX hR he hf K hK
       refine wn rfl ?_
       have e96 : a.eval (.tmp 96) = .pointer (some ⟨bA, k * 22 + 20, none⟩) := eH he hR 8 (by kernel_rfl) rfl
       have e94 : a.eval (.tmp 94) = .int .i64 (s : Int) := eH he hR 6 (by kernel_rfl) rfl
       refine wV hK rfl ?_
       simp only [execOp, e96, e94]
       go_simp
       try omega
      ·refine stepM_anc ?_ ?_ ?_
       ·rfl
       ·kernel_rfl
       intro a vs W hX hR he hf K hK
       refine wn rfl ?_
       have e97 : a.eval (.tmp 97) = .pointer (some ⟨bA, k * 22 + (20 + s), none⟩) := eH he hR 9 (by kernel_rfl) rfl
       have hbW := bthen (below_drew _) (grow_below hX)
       have hc : W.cell? ⟨bA, k * 22 + (20 + s), none⟩ = some (.int .i64 ((o.kid s : Nat) : Int)) := range_below hbW HBA7.out HXR7.out (20 + s) _ (o.get_kid HOF.out.addr s (by omega))
       refine wV hK rfl ?_
       simp only [execOp, e97]
       try go_simp
      ·refine stepM_anc ?_ ?_ ?_
       ·rfl
       ·kernel_rfl
       intro a vs W hX hR he hf K hK
       refine wn rfl ?_
       have e5 : a.eval (.tmp 5) = .pointer (some ⟨g5, 0, none⟩) := hf 5 (by kernel_rfl)
       have hbW := bthen (below_drew _) (grow_below hX)
       exact wp_value (exec_load 98 _ rfl g5 e5 98 x.cells _ (HX7.out.on hbW) Try.underlying98 rfl (sizeNd _ HXF.out.addr)) (gK hK rfl)
      ·refine stepM_heavy ?_ ?_
       ·rfl
       intro a vs W hX hR he hf K hK
       refine wn rfl ?_
       have e88 : a.eval (.tmp 88) = .pointer (some ⟨g, 0, none⟩) := eH he hR 0 (by kernel_rfl) rfl
       have e98 : a.eval (.tmp 98) = .int .i64 ((o.kid s : Nat) : Int) := eH he hR 10 (by kernel_rfl) rfl
       have e99 : a.eval (.tmp 99) = .agg x.cells.toArray := eH he hR 11 (by kernel_rfl) rfl
       have hbW := bthen (below_drew _) (grow_below hX)
       refine wp_enter (f := 55) (args := #[.pointer (some ⟨g, 0, none⟩), .int .i64 ((o.kid s : Nat) : Int), .agg x.cells.toArray]) (by simp only [execOp, e88, e98, e99]; go_simp; exact ⟨by simpa [Act.eval] using e88, by simpa [Act.eval] using e98, by simpa [Act.eval] using e99⟩) ((IH.out W g t _ _ _ _ (HT7.out.on hbW) (o.kid s) x HXG.out kid t1 HBN.out).mono ?_)
       rintro e w' ⟨A', c', Af', cf', rfl, hto⟩
       exact ⟨_, rfl, hK _ _ ⟨rfl, A', c', Af', cf', TabTo.of hbW hto⟩⟩
      intro vs wx hPx hR
      have q0 := hR 0 (by decide) rfl
      change vs 0 = .pointer (some ⟨g, 0, none⟩) at q0
      have q1 := hR 1 (by decide) rfl
      change vs 1 = .pointer (some ⟨g, 0, none⟩) at q1
      have q2 := hR 2 (by decide) rfl
      change vs 2 = .pointer (some ⟨g, 0, none⟩) at q2
      have q3 := hR 3 (by decide) rfl
      change vs 3 = .pointer (some ⟨g, 3, none⟩) at q3
      have q4 := hR 4 (by decide) rfl
      change vs 4 = .slice (some ⟨bA, 0, none⟩) t.N.length c at q4
      have q5 := hR 5 (by decide) rfl
      change vs 5 = .int .i64 (k : Int) at q5
      have q6 := hR 6 (by decide) rfl
      change vs 6 = .int .i64 (s : Int) at q6
      have q7 := hR 7 (by decide) rfl
      change vs 7 = .pointer (some ⟨bA, k * 22, none⟩) at q7
      have q8 := hR 8 (by decide) rfl
      change vs 8 = .pointer (some ⟨bA, k * 22 + 20, none⟩) at q8
      have q9 := hR 9 (by decide) rfl
      change vs 9 = .pointer (some ⟨bA, k * 22 + (20 + s), none⟩) at q9
      have q10 := hR 10 (by decide) rfl
      change vs 10 = .int .i64 ((o.kid s : Nat) : Int) at q10
      have q11 := hR 11 (by decide) rfl
      change vs 11 = .agg x.cells.toArray at q11
      simp only [putAll, Act.put, List.setIfInBounds_toArray, List.set_cons_zero, List.set_cons_succ, List.take_succ_cons, List.take_zero, q0, q1, q2, q3, q4, q5, q6, q7, q8, q9, q10, q11]
      clear q0 q1 q2 q3 q4 q5 q6 q7 q8 q9 q10 q11
      clear hR
      generalize vs 12 = vh at hPx ⊢
      obtain ⟨rfl, A', c', Af', cf', hto⟩ := hPx
      refine wp_value (v := .int .i64 ((kid : Nat) : Int)) (w' := wx) (by simp only [execOp]; go_simp) ?_
      try simp only [List.getElem_toArray, List.getElem_cons_succ, List.getElem_cons_zero, Act.put, List.setIfInBounds_toArray, List.set_cons_zero, List.set_cons_succ]
      obtain ⟨b1, hA1, hblk1, hb1, hne1, _, _, hk1', hk1c⟩ := hto.1.node HN1.out
      subst hA1
      have HTO := Hh hto
      have HO1F := Hh (hto.1.fit o1 (List.mem_of_getElem? HN1.out))
      have c1 : wx.cell? ⟨g, 3, none⟩ = some (.slice (some ⟨b1, 0, none⟩) t1.N.length c') := hto.1.blk.cell 3
      have HB1 := Hh hblk1
      have HNE1 := Hh hne1
      have hlt1 : (k : Int) < (t1.N.length : Int) := by omega
      have HK1' := Hh hk1'
      clear hto hblk1 hne1 hb1
      go_wp2_with (refine wpList_store_ownI (by rfl) _ _ rfl b1 (k * 22 + 20 + s) ((kid : Nat) : Int) rfl rfl HTO.out.1.nodes (by have := HK1'.out; omega) ?_; intro wy hoy hgy hsy)
      rw [Nat.add_assoc, nds_set t1.N HTO.out.1.fit k o1 (o1.setKid s kid) HN1.out (20 + s) (by omega) _ (o1.set_kid HO1F.out.addr s (by omega) kid)] at hoy
      have hT9 : Tab wy g { t1 with N := t1.N.set k (o1.setKid s kid) } (some ⟨b1, 0, none⟩) c' Af' cf' := by
       refine ⟨?_, ?_, HTO.out.1.free.kept hgy (fun b hb e => HTO.out.1.nf b1 HB1.out (by injection e with e; rw [e]; exact hb)), set_fit HTO.out.1.fit (by rw [Nd.setKid_p]; exact HO1F.out), HTO.out.1.ng, HTO.out.1.fg, HTO.out.1.nf⟩
       ·have := HTO.out.1.blk.grown hgy (fun e => HNE1.out (by injection e with e; exact e.symm))
        simpa [tbC] using this
       simpa using hoy
      have hk9 : TabTo wx g (some ⟨b1, 0, none⟩) c' Af' cf' wy _ (some ⟨b1, 0, none⟩) c' Af' cf' := ⟨hT9, Kept.of_grown (S := own3 g (some ⟨b1, 0, none⟩) c' Af' cf') hgy (fun j hj => by injection hj with hj; exact .inr (.inl (by rw [← hj]; exact HB1.out))), fun b hb => .inl hb⟩
      have HFIN := Hh (TabTo.of HW7.out (HTO.out.trans hk9))
      clear hT9 hk9 hoy hgy hsy c1
      go_ret
      have h9 := HRES.out
      injection h9 with h9
      injection h9 with h9 h10
      subst h9 h10
      exact ⟨_, c', Af', cf', rfl, HFIN.out⟩
   rw [if_neg he2] at hr
   have HE2 := Hh (decide_eq_false he2)
   clear he2
   by_cases he3 : cc = x.p
   ·rw [if_pos he3] at hr
    have HE3 := Hh (decide_eq_true he3)
    have HRES := Hh (show addT t (x.setKid (bitN o.p.addr cc.len) k) = (r, t') by injection hr)
    clear he3 hr
    obtain ⟨s, hs⟩ : ∃ s, bitN o.p.addr cc.len = s := ⟨_, rfl⟩
    have hs2 : (s : Int) < 2 := by rw [← hs]; have := bitN_lt o.p.addr cc.len; omega
    have HS := Hh hs
    rw [hs] at HRES
    have hra := HP7.out.range 1 16
    rw [o.p.drop_addr HOF.out.addr] at hra
    have HRA := Hh hra
    have c8 : w6.cell? ⟨g8, 17, none⟩ = some (.int .i64 cc.len) := (HP8.out.cell 17).trans (cc.get_len HCF.out.addr)
    clear hs hra c0
    go_wp2_with (first
     | (refine wpList_value (by rfl) (exec_load 30 _ rfl g7 (by rfl) 30 o.p.cells _ HP7.out Try.underlying30 rfl (sizePx _ HOF.out.addr)) ?_)
     | (refine wpList_value (by rfl) (exec_load 30 _ rfl g8 (by rfl) 30 cc.cells _ HP8.out Try.underlying30 rfl (sizePx _ HCF.out.addr)) ?_)
     | (refine wpList_value (by rfl) (exec_load_mid 30 _ rfl g5 0 (by rfl) x.p.cells _ HXR.out Try.underlying30 rfl (sizePx _ HXF.out.addr)) ?_)
     | (refine wpList_value (by rfl) (exec_eqPx _ _ _ rfl o.p x.p HOF.out.addr HXF.out.addr false HE1.out rfl rfl) ?_)
     | (refine wpList_value (by rfl) (exec_eqPx _ _ _ rfl cc o.p HCF.out.addr HOF.out.addr false HE2.out rfl rfl) ?_)
     | (refine wpList_value (by rfl) (exec_eqPx _ _ _ rfl cc x.p HCF.out.addr HXF.out.addr true HE3.out rfl rfl) ?_)
     | (refine wpList_value (by rfl) (exec_load_mid 23 _ rfl g7 1 (by rfl) (bv o.p.addr) _ HRA.out Try.underlying23 rfl (size16 _ HOF.out.addr)) ?_)
    )
    refine (bit_any o.p.addr HOF.out.addr cc.len HCF.out.len.1 HCF.out.len.2 w6).mono ?_
    rintro e w7 ⟨rfl, hb⟩
    rw [bitI_N, HS.out]
    have HX7 := Hh (HX.out.on hb)
    have HT7 := Hh (HT6.out.on hb)
    have HW7 := Hh (bthen HW6.out hb)
    have HG5 := Hh (show ∀ b, own3 g (some ⟨bA, 0, none⟩) c Af cf b → b ≠ g5 by intro b hb; have := HOWN.out b hb; have := HWG.out; omega)
    clear hb c8
    go_upto_region 19 with (refine wpList_store_int (by rfl) _ _ rfl g5 (20 + s) ((k : Nat) : Int) rfl rfl 98 _ _ HX7.out (x.get_kid HXF.out.addr s (by omega)) ?_; intro w8 hk8 hg8' hs8)
    rw [x.set_kid HXF.out.addr s (by omega) k] at hk8
    have hT8 := HT7.out.kept (S := fun b => b = g5) (Kept.of_grown hg8' (fun j hj => by injection hj with hj; exact hj.symm)) (fun b hb => HG5.out b hb)
    have HT8 := Hh hT8
    have HX8 := Hh hk8
    have HXF8 := Hh (show (x.setKid s k).p.fit by rw [Nd.setKid_p]; exact HXF.out)
    have hB8 : Below w.heap.size w w8 := bgrown HW7.out hg8' HW7.out.size HWG.out
    have HW8 := Hh hB8
    clear hk8 hg8' hs8 hT8 hB8
    go_wp2_with (refine wpList_value (by rfl) (exec_load 98 _ rfl g5 (by rfl) 98 (x.setKid s k).cells _ HX8.out Try.underlying98 rfl (sizeNd _ HXF8.out.addr)) ?_)
    refine (tadd_any w8 g t _ _ _ _ HT8.out HOK.out (x.setKid s k) HXF8.out).mono ?_
    rintro e w9 ⟨A', c', Af', cf', rfl, hto⟩
    rw [HRES.out] at hto
    have HTO := Hh hto
    rw [HRES.out]
    clear hto
    go_wp2_with fail
    go_ret
    exact ⟨A', c', Af', cf', rfl, TabTo.of HW8.out HTO.out⟩
   rw [if_neg he3] at hr
   have HE3 := Hh (decide_eq_false he3)
   clear he3
   obtain ⟨s, hs⟩ : ∃ s, bitN o.p.addr cc.len = s := ⟨_, rfl⟩
   obtain ⟨s2, hs2⟩ : ∃ s, bitN x.p.addr cc.len = s := ⟨_, rfl⟩
   have hsb : (s : Int) < 2 := by rw [← hs]; have := bitN_lt o.p.addr cc.len; omega
   have hs2b : (s2 : Int) < 2 := by rw [← hs2]; have := bitN_lt x.p.addr cc.len; omega
   rw [hs, hs2] at hr
   obtain ⟨⟨r1, t1⟩, hat⟩ : ∃ y, addT t x = y := ⟨_, rfl⟩
   rw [hat] at hr
   simp only [] at hr
   by_cases hok1 : addOk t1
   case neg => rw [if_neg hok1] at hr; cases hr
   rw [if_pos hok1] at hr
   have HOK1 := Hh hok1
   have HAD := Hh hat
   have HS := Hh hs
   have HS2 := Hh hs2
   have HRES := Hh (show addT t1 (((Nd.of cc).setKid s k).setKid s2 r1) = (r, t') by injection hr)
   have hra := HP7.out.range 1 16
   rw [o.p.drop_addr HOF.out.addr] at hra
   have HRA := Hh hra
   have c8 : w6.cell? ⟨g8, 17, none⟩ = some (.int .i64 cc.len) := (HP8.out.cell 17).trans (cc.get_len HCF.out.addr)
   have HNC := Hh ((Nd.of cc).cells_length HCF.out.addr)
   have HGO := Hh (show ∀ b, own3 g (some ⟨bA, 0, none⟩) c Af cf b → b < g5 by intro b hb; have := HOWN.out b hb; have := HWG.out; omega)
   clear hr hat hok1 hs hs2 hra c0 c8
   go_upto_region 6 with (first
    | (refine wpList_value (by rfl) (exec_load 30 _ rfl g7 (by rfl) 30 o.p.cells _ HP7.out Try.underlying30 rfl (sizePx _ HOF.out.addr)) ?_)
    | (refine wpList_value (by rfl) (exec_load 30 _ rfl g8 (by rfl) 30 cc.cells _ HP8.out Try.underlying30 rfl (sizePx _ HCF.out.addr)) ?_)
    | (refine wpList_value (by rfl) (exec_load_mid 30 _ rfl g5 0 (by rfl) x.p.cells _ HXR.out Try.underlying30 rfl (sizePx _ HXF.out.addr)) ?_)
    | (refine wpList_value (by rfl) (exec_eqPx _ _ _ rfl o.p x.p HOF.out.addr HXF.out.addr false HE1.out rfl rfl) ?_)
    | (refine wpList_value (by rfl) (exec_eqPx _ _ _ rfl cc o.p HCF.out.addr HOF.out.addr false HE2.out rfl rfl) ?_)
    | (refine wpList_value (by rfl) (exec_eqPx _ _ _ rfl cc x.p HCF.out.addr HXF.out.addr false HE3.out rfl rfl) ?_)
    | (refine wpList_value (by rfl) (exec_buildNd1 _ rfl cc HCF.out.addr rfl) ?_)
    | (refine wpList_alloc_blk (by rfl) 98 rfl Nd.zero.cells zeroNd ?_; intro wa hba hBa hsa; clear hsa)
    | (refine wpList_store_all (by rfl) 98 _ _ rfl w6.heap.size (Nd.of cc).cells rfl rfl 98 _ hba (sizeNd _ HCF.out.addr) (by rw [HNC.out]; rfl) (Nd.of cc).one ?_; intro wb hbb hgb hsb')
   )
   have hBb : Below w6.heap.size w6 wb := bgrown hBa hgb hBa.size (Nat.le_refl _)
   obtain ⟨g12, hg12⟩ : ∃ g, w6.heap.size = g := ⟨_, rfl⟩
   have h812 : g8 < g12 := by rw [← hg12]; exact HP8.out.lt
   have h512 : g5 < g12 := by rw [← hg12]; exact HX.out.lt
   have HXb := Hh (HX.out.on hBb)
   have HPb := Hh (HP8.out.on hBb)
   have HTb := Hh (HT6.out.on hBb)
   have HWb := Hh (bthen HW6.out hBb)
   have h7b : g7 < w6.heap.size := HP7.out.lt
   replace HRA := Hh (range_below hBb h7b HRA.out)
   rw [hg12] at hbb
   try rw [hg12]
   have HFb := Hh hbb
   have c8 : wb.cell? ⟨g8, 17, none⟩ = some (.int .i64 cc.len) := (HPb.out.cell 17).trans (cc.get_len HCF.out.addr)
   have HW12 := Hh (show w.heap.size ≤ g12 by have := HWG.out; omega)
   have HG12 := Hh (show ¬ own3 g (some ⟨bA, 0, none⟩) c Af cf g12 by intro h9; have := HGO.out g12 h9; omega)
   clear hba hBa hbb hgb hsb' hBb hg12 h7b
   go_wp2_with (refine wpList_value (by rfl) (exec_load_mid 23 _ rfl g7 1 (by rfl) (bv o.p.addr) _ HRA.out Try.underlying23 rfl (size16 _ HOF.out.addr)) ?_)
   refine (bit_any o.p.addr HOF.out.addr cc.len HCF.out.len.1 HCF.out.len.2 wb).mono ?_
   rintro e w7 ⟨rfl, hb⟩
   rw [bitI_N, HS.out]
   have HX7 := Hh (HXb.out.on hb)
   have HP87 := Hh (HPb.out.on hb)
   have HF7 := Hh (HFb.out.on hb)
   have HT7 := Hh (HTb.out.on hb)
   have HW7 := Hh (bthen HWb.out hb)
   have H812 := Hh h812
   have H512 := Hh h512
   clear hb c8 h812 h512
   go_upto_region 7 with (refine wpList_store_int (by rfl) _ _ rfl g12 (20 + s) ((k : Nat) : Int) rfl rfl 98 _ _ HF7.out ((Nd.of cc).get_kid HCF.out.addr s (by omega)) ?_; intro w8 hk8 hg8' hs8)
   rw [(Nd.of cc).set_kid HCF.out.addr s (by omega) k] at hk8
   obtain ⟨fk, hfk⟩ : ∃ y, (Nd.of cc).setKid s k = y := ⟨_, rfl⟩
   have HFKF := Hh (show fk.p.fit by rw [← hfk, Nd.setKid_p]; exact HCF.out)
   rw [hfk] at hk8
   rw [hfk] at HRES
   have HT8 := Hh (HT7.out.kept (S := fun b => b = g12) (Kept.of_grown hg8' (fun j hj => by injection hj with hj; exact hj.symm)) (fun b hb e => HG12.out (e ▸ hb)))
   have HX8 := Hh (HX7.out.grown hg8' (fun e => by injection e with e; have := H512.out; omega))
   have HP88 := Hh (HP87.out.grown hg8' (fun e => by injection e with e; have := H812.out; omega))
   have HF12 := Hh hk8
   have HW8 := Hh (bgrown HW7.out hg8' HW7.out.size HW12.out)
   clear hk8 hg8' hs8 hfk
   refine wp_region_mid 8 11 [true, true, true, true, true, true, true, true, true, true, true] (fun _ => True) (fun v W => v = .int .i64 ((r1 : Nat) : Int) ∧ Blk W g12 98 fk.cells ∧ ∃ A' c' Af' cf', TabTo w8 g (some ⟨bA, 0, none⟩) c Af cf W t1 A' c' Af' cf') (fun A B => A.grownBy B none) (fun A => grown_refl A _) (fun A B C h k => grown_trans h k) (relAt (List.cons (fun v _ => v = .pointer (some ⟨g5, 0, none⟩)) (List.cons (fun v _ => v = .pointer (some ⟨g5, 1, none⟩)) (List.cons (fun v _ => v = .agg (bv x.p.addr).toArray) (List.cons (fun v _ => v = .pointer (some ⟨g8, 17, none⟩)) (List.cons (fun v _ => v = .int .i64 cc.len) (List.cons (fun v _ => v = .int .i64 (s2 : Int)) (List.cons (fun v _ => v = .pointer (some ⟨g, 0, none⟩)) (List.cons (fun v _ => v = .agg x.cells.toArray) (List.cons (fun _ _ => True) (List.cons (fun v _ => v = .pointer (some ⟨g12, 20, none⟩)) (List.cons (fun v _ => v = .pointer (some ⟨g12, 20 + s2, none⟩)) ([]))))))))))))) (MonoL.at_ (.cons (mono_val _) (.cons (mono_val _) (.cons (mono_val _) (.cons (mono_val _) (.cons (mono_val _) (.cons (mono_val _) (.cons (mono_val _) (.cons (mono_val _) (.cons ((fun _ _ _ h _ => h)) (.cons (mono_val _) (.cons (mono_val _) .nil)))))))))))) (ConstL.at_ (.cons (fun _ _ _ h => h) (.cons (fun _ _ _ h => h) (.cons (fun _ _ _ h => h) (.cons (fun _ _ _ h => h) (.cons (fun _ _ _ h => h) (.cons (fun _ _ _ h => h) (.cons (fun _ _ _ h => h) (.cons (fun _ _ _ h => h) (.cons (fun _ _ _ h => h) (.cons (fun _ _ _ h => h) (.cons (fun _ _ _ h => h) .nil)))))))))))) (fun v W h => True.intro) (fun W hX => True.intro) (fun v W h => True.intro) (by kernel_rfl) (by kernel_rfl) rfl (by decide) (by kernel_rfl) (by kernel_rfl) _ rfl rfl ⟨?_, ?_, ?_, ?_, ?_, ?_, ?_, ?_, ?_, ?_, ?_, trivial⟩ ?_
   ·refine stepM_anc ?_ ?_ ?_
    ·rfl
    ·kernel_rfl
    intro a vs W hX hR he hf K hK
    refine wn rfl ?_
    have e5 : a.eval (.tmp 5) = .pointer (some ⟨g5, 0, none⟩) := hf 5 (by kernel_rfl)
    refine wV hK rfl ?_
    simp only [execOp, e5]
    try go_simp
   ·refine stepM_anc ?_ ?_ ?_
    ·rfl
    ·kernel_rfl
    intro a vs W hX hR he hf K hK
    refine wn rfl ?_
    have e43 : a.eval (.tmp 43) = .pointer (some ⟨g5, 0, none⟩) := eH he hR 0 (by kernel_rfl) rfl
    refine wV hK rfl ?_
    simp only [execOp, e43]
    try go_simp
   ·refine stepM_anc ?_ ?_ ?_
    ·rfl
    ·kernel_rfl
    intro a vs W hX hR he hf K hK
    refine wn rfl ?_
    have e44 : a.eval (.tmp 44) = .pointer (some ⟨g5, 1, none⟩) := eH he hR 1 (by kernel_rfl) rfl
    have hbW := bthen (below_drew _) (grow_below hX)
    have hr := (HX8.out.on hbW).range 1 16
    rw [x.drop_addr HXF.out.addr] at hr
    exact wp_value (exec_load_mid 23 _ rfl g5 1 e44 _ _ hr Try.underlying23 rfl (size16 _ HXF.out.addr)) (gK hK rfl)
   ·refine stepM_anc ?_ ?_ ?_
    ·rfl
    ·kernel_rfl
    intro a vs W hX hR he hf K hK
    refine wn rfl ?_
    have e8 : a.eval (.tmp 8) = .pointer (some ⟨g8, 0, none⟩) := hf 8 (by kernel_rfl)
    refine wV hK rfl ?_
    simp only [execOp, e8]
    try go_simp
   ·refine stepM_anc ?_ ?_ ?_
    ·rfl
    ·kernel_rfl
    intro a vs W hX hR he hf K hK
    refine wn rfl ?_
    have e46 : a.eval (.tmp 46) = .pointer (some ⟨g8, 17, none⟩) := eH he hR 3 (by kernel_rfl) rfl
    have hbW := bthen (below_drew _) (grow_below hX)
    have hc : W.cell? ⟨g8, 17, none⟩ = some (.int .i64 cc.len) := ((HP88.out.on hbW).cell 17).trans (cc.get_len HCF.out.addr)
    refine wV hK rfl ?_
    simp only [execOp, e46]
    try go_simp
   ·refine stepM_anc ?_ ?_ ?_
    ·rfl
    ·kernel_rfl
    intro a vs W hX hR he hf K hK
    refine wn rfl ?_
    have e45 : a.eval (.tmp 45) = .agg (bv x.p.addr).toArray := eH he hR 2 (by kernel_rfl) rfl
    have e47 : a.eval (.tmp 47) = .int .i64 cc.len := eH he hR 4 (by kernel_rfl) rfl
    refine wp_enter (f := 57) (args := #[.agg (bv x.p.addr).toArray, .int .i64 cc.len]) (by simp only [execOp, e45, e47]; go_simp; exact ⟨by simpa [Act.eval] using e45, by simpa [Act.eval] using e47⟩) ((bit_any x.p.addr HXF.out.addr cc.len HCF.out.len.1 HCF.out.len.2 W).mono ?_)
    rintro e w' ⟨rfl, hb⟩
    rw [bitI_N, HS2.out]
    exact ⟨_, rfl, hK _ _ rfl (below_grow hb _)⟩
   ·refine stepM_anc ?_ ?_ ?_
    ·rfl
    ·kernel_rfl
    intro a vs W hX hR he hf K hK
    refine wn rfl ?_
    have e0 : a.eval (.tmp 0) = .pointer (some ⟨g, 0, none⟩) := hf 0 (by kernel_rfl)
    refine wV hK rfl ?_
    simp only [execOp, e0]
    try go_simp
   ·refine stepM_anc ?_ ?_ ?_
    ·rfl
    ·kernel_rfl
    intro a vs W hX hR he hf K hK
    refine wn rfl ?_
    have e5 : a.eval (.tmp 5) = .pointer (some ⟨g5, 0, none⟩) := hf 5 (by kernel_rfl)
    have hbW := bthen (below_drew _) (grow_below hX)
    exact wp_value (exec_load 98 _ rfl g5 e5 98 x.cells _ (HX8.out.on hbW) Try.underlying98 rfl (sizeNd _ HXF.out.addr)) (gK hK rfl)
   ·refine stepM_heavy ?_ ?_
    ·rfl
    intro a vs W hX hR he hf K hK
    refine wn rfl ?_
    have e49 : a.eval (.tmp 49) = .pointer (some ⟨g, 0, none⟩) := eH he hR 6 (by kernel_rfl) rfl
    have e50 : a.eval (.tmp 50) = .agg x.cells.toArray := eH he hR 7 (by kernel_rfl) rfl
    have hbW := bthen (below_drew _) (grow_below hX)
    refine wp_enter (f := 70) (args := #[.pointer (some ⟨g, 0, none⟩), .agg x.cells.toArray]) (by simp only [execOp, e49, e50]; go_simp; exact ⟨by simpa [Act.eval] using e49, by simpa [Act.eval] using e50⟩) ((tadd_any W g t _ _ _ _ (HT8.out.on hbW) HOK.out x HXF.out).mono ?_)
    rintro e w' ⟨A', c', Af', cf', rfl, hto⟩
    rw [HAD.out] at hto
    rw [HAD.out]
    exact ⟨_, rfl, hK _ _ ⟨rfl, hto.2.1.blk (HF12.out.on hbW) HG12.out, A', c', Af', cf', TabTo.of hbW hto⟩⟩
   ·refine stepM_calm ?_ ?_ ?_
    ·rfl
    ·kernel_rfl
    intro a vs W hS hR he hf K hK
    refine wn rfl ?_
    have e12 : a.eval (.tmp 12) = .pointer (some ⟨g12, 0, none⟩) := hf 12 (by kernel_rfl)
    refine wp_value (v := .pointer (some ⟨g12, 20, none⟩)) ?_ (hK _ rfl)
    simp only [execOp, e12]
    try go_simp
   ·refine stepM_calm ?_ ?_ ?_
    ·rfl
    ·kernel_rfl
    intro a vs W hS hR he hf K hK
    refine wn rfl ?_
    have e52 : a.eval (.tmp 52) = .pointer (some ⟨g12, 20, none⟩) := (he 9 52 (by kernel_rfl) rfl).trans (hR 9 (by kernel_rfl) rfl)
    have e48 : a.eval (.tmp 48) = .int .i64 (s2 : Int) := (he 5 48 (by kernel_rfl) rfl).trans (hR 5 (by kernel_rfl) rfl)
    refine wp_value (v := .pointer (some ⟨g12, 20 + s2, none⟩)) ?_ (hK _ rfl)
    simp only [execOp, e52, e48]
    go_simp
    try omega
   intro vs wx hPx hR
   have q0 := hR 0 (by decide) rfl
   change vs 0 = .pointer (some ⟨g5, 0, none⟩) at q0
   have q1 := hR 1 (by decide) rfl
   change vs 1 = .pointer (some ⟨g5, 1, none⟩) at q1
   have q2 := hR 2 (by decide) rfl
   change vs 2 = .agg (bv x.p.addr).toArray at q2
   have q3 := hR 3 (by decide) rfl
   change vs 3 = .pointer (some ⟨g8, 17, none⟩) at q3
   have q4 := hR 4 (by decide) rfl
   change vs 4 = .int .i64 cc.len at q4
   have q5 := hR 5 (by decide) rfl
   change vs 5 = .int .i64 (s2 : Int) at q5
   have q6 := hR 6 (by decide) rfl
   change vs 6 = .pointer (some ⟨g, 0, none⟩) at q6
   have q7 := hR 7 (by decide) rfl
   change vs 7 = .agg x.cells.toArray at q7
   have q9 := hR 9 (by decide) rfl
   change vs 9 = .pointer (some ⟨g12, 20, none⟩) at q9
   have q10 := hR 10 (by decide) rfl
   change vs 10 = .pointer (some ⟨g12, 20 + s2, none⟩) at q10
   simp only [putAll, Act.put, List.setIfInBounds_toArray, List.set_cons_zero, List.set_cons_succ, List.take_succ_cons, List.take_zero, q0, q1, q2, q3, q4, q5, q6, q7, q9, q10]
   clear q0 q1 q2 q3 q4 q5 q6 q7 q9 q10
   clear hR
   generalize vs 8 = vh at hPx ⊢
   obtain ⟨rfl, hf9, A', c', Af', cf', hto⟩ := hPx
   refine wp_store_int _ _ rfl g12 (20 + s2) ((r1 : Nat) : Int) rfl rfl 98 _ _ hf9 (fk.get_kid HFKF.out.addr s2 (by omega)) ?_
   intro wy hky hgy hsy
   try simp only [List.getElem_toArray, List.getElem_cons_succ, List.getElem_cons_zero, Act.put, List.setIfInBounds_toArray, List.set_cons_zero, List.set_cons_succ]
   rw [fk.set_kid HFKF.out.addr s2 (by omega) r1] at hky
   have hg12 : ∀ b, own3 g A' c' Af' cf' b → b ≠ g12 := by
    intro b hb e
    rcases hto.2.2 b hb with h | h
    ·exact HG12.out (e ▸ h)
    have := HF12.out.lt
    omega
   have HT9 := Hh (hto.1.kept (S := fun b => b = g12) (Kept.of_grown hgy (fun j hj => by injection hj with hj; exact hj.symm)) hg12)
   have HTO1 := Hh (show TabTo w g (some ⟨bA, 0, none⟩) c Af cf wy t1 A' c' Af' cf' from ⟨HT9.out, ((Kept.of_below HW8.out).trans hto.2.1 (fun x hx _ => hx)).trans (Kept.of_grown (S := fun b => b = g12) hgy (fun j hj => by injection hj with hj; exact hj.symm)) (fun x hx hlt => by have := HW12.out; omega), fun b hb => by
    rcases hto.2.2 b hb with h | h
    ·exact .inl h
    have := HW8.out.size
    exact .inr (by omega)⟩)
   have HF9 := Hh hky
   have HFF9 := Hh (show (fk.setKid s2 r1).p.fit by rw [Nd.setKid_p]; exact HFKF.out)
   clear hky hgy hsy hg12 hto hf9
   go_wp2_with (refine wpList_value (by rfl) (exec_load 98 _ rfl g12 (by rfl) 98 (fk.setKid s2 r1).cells _ HF9.out Try.underlying98 rfl (sizeNd _ HFF9.out.addr)) ?_)
   refine (tadd_any wy g t1 _ _ _ _ HT9.out HOK1.out (fk.setKid s2 r1) HFF9.out).mono ?_
   rintro e w9 ⟨A2, c2, Af2, cf2, rfl, hto⟩
   rw [HRES.out] at hto
   have HTO := Hh hto
   rw [HRES.out]
   clear hto
   go_wp2_with fail
   go_ret
   exact ⟨A2, c2, Af2, cf2, rfl, HTO1.out.trans HTO.out⟩
end Go.Proofs.Ytdmgomknamdcfaa


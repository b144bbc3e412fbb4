/- Texts of this claim put together, in build order: each one's own remark stands ahead of it. -/
import Derived.Test.YtdmgomknamdcfaaG02
import Derived.Test.YtdmgomknamdcfaaG15
import Derived.Deep.DeepCutAuto
/- What the table's without (layer 9) computes. No condition but sizes. -/
namespace Go.Proofs.Ytdmgomknamdcfaa
open Go.RowKit
set_option linter.unusedVariables false
set_option maxRecDepth 20000
set_option linter.unusedSimpArgs false

/-- a node's kids and value, with a prefix taken out there or below -/
def cutN (rec : Tb → Nat → Option (Nat × Tb)) (t : Tb) (k : Nat) (n : Nd) (p : Px) : Option Tb :=
 if n.p = p then some { t with N := t.N.set k { n with is := false, v := 0 } } else
 match rec t (n.kid (bitN p.addr n.p.len)) with
 | none => none
 | some (kid, t1) =>
  match t1.N[k]? with
  | none => none
  | some n1 => some { t1 with N := t1.N.set k (n1.setKid (bitN p.addr n.p.len) kid) }
/-- what stands there then -/
def joinN (t2 : Tb) (k : Nat) : Option (Nat × Tb) :=
 match t2.N[k]? with
 | none => none
 | some n2 => if n2.is = true then some (k, t2) else if n2.k0 ≠ 0 ∧ n2.k1 ≠ 0 then some (k, t2)
  else if t2.F.length ≤ 1000000 ∧ n2.k0 ≤ 1000000000 ∧ n2.k1 ≤ 1000000000 then some (n2.k0 + n2.k1, dropT t2 k) else none
/-- the node that stands in a node's place, with a prefix taken out, step by step -/
def withoutN : Nat → Tb → Nat → Px → Option (Nat × Tb)
 | 0, _, _, _ => none
 | f + 1, t, k, p =>
  match t.N[k]? with
  | none => none
  | some n =>
   match cutN (fun t k => withoutN f t k p) t k n p with
   | none => none
   | some t2 => joinN t2 k
set_option maxHeartbeats 4000000 in
theorem twithout_any : ∀ (f : Nat) (w : World) (g : Nat) (t : Tb) (A Af : Option Addr) (c cf : Nat) (hT : Tab w g t A c Af cf) (k : Nat) (p : Px) (hf : p.fit) (r : Nat) (t' : Tb) (hr : withoutN f t k p = some (r, t')),
  Calls Try.prog 67 #[.pointer (some ⟨g, 0, none⟩), .int .i64 (k : Int), .agg p.cells.toArray] w fun e w' => ∃ Af' cf', e = .returned (.int .i64 ((r : Nat) : Int)) ∧ TabTo w g A c Af cf w' t' A c Af' cf' := by
 intro f
 induction f with
 | zero => intro w g t A Af c cf hT k p hf r t' hr; cases hr
 | succ f ih =>
  intro w g t A Af c cf hT k p hf r t' hr
  have IH := Hh ih
  have HF := Hh hf
  have HT := Hh hT
  have HFIT := Hh hT.fit
  unfold withoutN at hr
  cases hn : t.N[k]? with
  | none => rw [hn] at hr; cases hr
  | some n =>
   rw [hn] at hr
   simp only [] at hr
   cases hcut : cutN (fun t k => withoutN f t k p) t k n p with
   | none => rw [hcut] at hr; cases hr
   | some t2 =>
    rw [hcut] at hr
    simp only [] at hr
    have HJ := Hh hr
    unfold cutN at hcut
    have HN := Hh hn
    have HNF := Hh (HFIT.out n (List.mem_of_getElem? hn))
    obtain ⟨bA, hA, hblkA, hbA, hneA, hrr, _, hk1, _⟩ := HT.out.node hn
    subst hA
    have HBLK := Hh hblkA
    have HNE := Hh hneA
    have HKL := Hh hk1
    have HGL := Hh hT.blk.lt
    have hlt : (k : Int) < (t.N.length : Int) := by omega
    have c0 : w.cell? ⟨g, 3, none⟩ = some (.slice (some ⟨bA, 0, none⟩) t.N.length c) := HT.out.blk.cell 3
    go_enter Try.func67, Try.ntmps67
    go_upto_region 1 with (refine wpList_box_blk (by rfl) 30 (.tmp 2) rfl p.cells rfl ?_; intro w1 hb1 hB1 hs1; clear hs1)
    obtain ⟨g5, hg5⟩ : ∃ g, w.heap.size = g := ⟨_, rfl⟩
    replace c0 : w1.cell? ⟨g, 3, none⟩ = some (.slice (some ⟨bA, 0, none⟩) t.N.length c) := (hB1.cell (p := ⟨g, _, none⟩) HGL.out).trans c0
    have HNR := Hh (range_below hB1 hbA hrr)
    have HBA := Hh (Nat.lt_of_lt_of_le hbA hB1.size)
    have HW := Hh hB1
    have HT1 := Hh (HT.out.on hB1)
    have HOWN := Hh (show ∀ b, own3 g (some ⟨bA, 0, none⟩) c Af cf b → b < w.heap.size from HT.out.lt)
    have HWG := Hh (show w.heap.size ≤ g5 by omega)
    rw [hg5] at hb1
    try rw [hg5]
    have HP := Hh hb1
    clear hT hf ih hn hr hrr hbA hblkA hneA hk1 hb1 hB1 hg5
    go_wp2_with fail
    clear c0
    by_cases he : n.p = p
    ·rw [if_pos he] at hcut
     have HEQ := Hh (decide_eq_true he)
     have HT2E := Hh (show { t with N := t.N.set k { n with is := false, v := 0 } } = t2 by injection hcut)
     clear hcut he
     refine wp_region_rel (fun A B => A.grownBy B none) (fun A => grown_refl A _) (fun A B C h k => grown_trans h k) (relAt (eqs [.pointer (some ⟨bA, k * 22, none⟩), .pointer (some ⟨bA, k * 22, none⟩), .pointer (some ⟨bA, k * 22, none⟩), .agg n.p.cells.toArray, .agg p.cells.toArray, .bool false])) (MonoL.at_ (eqs_mono _)) (by kernel_rfl) (by kernel_rfl) ⟨?_, ?_, ?_, ?_, ?_, ?_, trivial⟩ ?_
     ·intro a vs W hX hR he hf K hK
      refine wn rfl ?_
      have e7 : a.eval (.tmp 7) = .pointer (some ⟨bA, k * 22, none⟩) := hf 7 (by kernel_rfl)
      refine wV hK rfl ?_
      simp only [execOp, e7]
      try go_simp
     ·intro a vs W hX hR he hf K hK
      refine wn rfl ?_
      have e16 : a.eval (.tmp 16) = .pointer (some ⟨bA, k * 22, none⟩) := eH he hR 0 (by kernel_rfl) rfl
      refine wV hK rfl ?_
      simp only [execOp, e16]
      try go_simp
     ·intro a vs W hX hR he hf K hK
      refine wn rfl ?_
      have e17 : a.eval (.tmp 17) = .pointer (some ⟨bA, k * 22, none⟩) := eH he hR 1 (by kernel_rfl) rfl
      refine wV hK rfl ?_
      simp only [execOp, e17]
      try go_simp
     ·intro a vs W hX hR he hf K hK
      refine wn rfl ?_
      have e18 : a.eval (.tmp 18) = .pointer (some ⟨bA, k * 22, none⟩) := eH he hR 2 (by kernel_rfl) rfl
      have hbW := bthen (below_drew _) (grow_below hX)
      exact wp_value (exec_load_mid 30 _ rfl bA (k * 22) e18 n.p.cells _ (range_below hbW HBA.out (Nd.px_range HNR.out)) Try.underlying30 rfl (sizePx _ HNF.out.addr)) (gK hK rfl)
     ·intro a vs W hX hR he hf K hK
      refine wn rfl ?_
      have e5 : a.eval (.tmp 5) = .pointer (some ⟨g5, 0, none⟩) := hf 5 (by kernel_rfl)
      have hbW := bthen (below_drew _) (grow_below hX)
      exact wp_value (exec_load 30 _ rfl g5 e5 30 p.cells _ (HP.out.on hbW) Try.underlying30 rfl (sizePx _ HF.out.addr)) (gK hK rfl)
     ·intro a vs W hX hR he hf K hK
      refine wn rfl ?_
      have e19 : a.eval (.tmp 19) = .agg n.p.cells.toArray := eH he hR 3 (by kernel_rfl) rfl
      have e20 : a.eval (.tmp 20) = .agg p.cells.toArray := eH he hR 4 (by kernel_rfl) rfl
      exact wp_value (exec_nePx _ _ _ rfl n.p p HNF.out.addr HF.out.addr true HEQ.out e19 e20) (gK hK rfl)
     intro vs wx hXx hR
     rw [put_eqs hR rfl]
     simp only [putL, Act.put, List.setIfInBounds_toArray, List.set_cons_zero, List.set_cons_succ]
     clear hR
     replace HP := Hh (HP.out.on (bthen (below_drew _) (grow_below hXx)))
     replace HT1 := Hh (HT1.out.on (bthen (below_drew _) (grow_below hXx)))
     replace HW := Hh (bthen HW.out (bthen (below_drew _) (grow_below hXx)))
     replace HNR := Hh (range_below (bthen (below_drew _) (grow_below hXx)) HBA.out HNR.out)
     replace HBA := Hh (Nat.lt_of_lt_of_le HBA.out (bthen (below_drew _) (grow_below hXx)).size)
     clear hXx
     go_upto_region 6 with (first
      | (refine wpList_store_ownB (by rfl) _ _ rfl bA (k * 22 + 18) false rfl rfl HT1.out.nodes (by have := HKL.out; omega) ?_; intro wa hoa hga hsa)
      | (refine wpList_store_ownI (by rfl) _ _ rfl bA (k * 22 + 19) 0 rfl rfl hoa (by have := HKL.out; omega) ?_; intro wz hoz hgz hsz))
     rw [nds_set t.N HFIT.out k n { n with is := false } HN.out 18 (by omega) _ (n.set_is HNF.out.addr false)] at hoz
     rw [nds_set (t.N.set k { n with is := false }) (set_fit HFIT.out HNF.out) k { n with is := false } { n with is := false, v := 0 } (List.getElem?_set_self HKL.out) 19 (by omega) _ (Nd.set_v { n with is := false } HNF.out.addr 0), List.set_set] at hoz
     have hgaz : wx.grownBy wz (some bA) := grown_trans hga hgz
     have hTz : Tab wz g { t with N := t.N.set k { n with is := false, v := 0 } } (some ⟨bA, 0, none⟩) c Af cf := by
      refine ⟨?_, ?_, HT1.out.free.kept hgaz (fun b hb e => HT.out.nf bA HBLK.out (by injection e with e; rw [e]; exact hb)), set_fit HFIT.out HNF.out, HT.out.ng, HT.out.fg, HT.out.nf⟩
      ·have := HT1.out.blk.grown hgaz (fun e => HNE.out (by injection e with e; exact e.symm))
       simpa [tbC] using this
      simpa using hoz
     have hkz : Kept (own3 g (some ⟨bA, 0, none⟩) c Af cf) w wz := (Kept.of_below HW.out).trans (Kept.of_grown (S := own3 g (some ⟨bA, 0, none⟩) c Af cf) hgaz (fun j hj => by injection hj with hj; exact .inr (.inl (by rw [← hj]; exact HBLK.out)))) (fun x hx _ => hx)
     have hto : TabTo w g (some ⟨bA, 0, none⟩) c Af cf wz t2 (some ⟨bA, 0, none⟩) c Af cf := by rw [← HT2E.out]; exact ⟨hTz, hkz, fun b hb => .inl hb⟩
     obtain ⟨n2, hn2⟩ : ∃ n2, t2.N[k]? = some n2 := ⟨_, by rw [← HT2E.out]; exact List.getElem?_set_self HKL.out⟩
     obtain ⟨b9, h9, _, hb9, _, hr9, _, hk9, _⟩ := hto.1.node hn2
     injection h9 with h9
     injection h9 with h9
     subst h9
     have HTO := Hh hto
     have HN2 := Hh hn2
     have HN2F := Hh (hto.1.fit n2 (List.mem_of_getElem? hn2))
     have HR2 := Hh hr9
     have HB2 := Hh hb9
     have HK2 := Hh hk9
     clear hoa hga hsa hoz hgz hsz hgaz hTz hkz hto hn2 hb9 hr9 hk9
     have hj := HJ.out
     unfold joinN at hj
     rw [HN2.out] at hj
     simp only [] at hj
     cases hi : n2.is
     ·rw [hi] at hj
      simp only [Bool.false_eq_true, if_false] at hj
      by_cases h0 : n2.k0 = 0
      ·rw [if_neg (fun h => h.1 h0)] at hj
       by_cases hbd : t2.F.length ≤ 1000000 ∧ n2.k0 ≤ 1000000000 ∧ n2.k1 ≤ 1000000000
       case neg => rw [if_neg hbd] at hj; cases hj
       rw [if_pos hbd] at hj
       have HBD := Hh (show t2.F.length ≤ 1000000 ∧ n2.k0 ≤ 1000000000 ∧ n2.k1 ≤ 1000000000 from hbd)
       have HRES := Hh (show (n2.k0 + n2.k1, dropT t2 k) = (r, t') by injection hj)
       have d0 : wz.cell? ⟨bA, k * 22 + 18, none⟩ = some (.bool n2.is) := HR2.out 18 _ (n2.get_is HN2F.out.addr)
       have d1 : wz.cell? ⟨bA, k * 22 + 20, none⟩ = some (.int .i64 (n2.k0 : Int)) := HR2.out 20 _ (n2.get_kid HN2F.out.addr 0 (by omega))
       have d2 : wz.cell? ⟨bA, k * 22 + 21, none⟩ = some (.int .i64 (n2.k1 : Int)) := HR2.out 21 _ (n2.get_kid HN2F.out.addr 1 (by omega))
       clear hj hbd
       have g0 : ((n2.k0 : Int) != 0) = false := by simp [h0]
       rw [hi] at d0
       clear h0 hi
       go_wp2_with fail
       clear d0 d1 d2
       refine wp_region_rel (fun A B => A.grownBy B none) (fun A => grown_refl A _) (fun A B C h k => grown_trans h k) (relAt (eqs [.pointer (some ⟨bA, k * 22, none⟩), .pointer (some ⟨bA, k * 22, none⟩), .pointer (some ⟨bA, k * 22 + 20, none⟩), .pointer (some ⟨bA, k * 22 + 20, none⟩), .int .i64 ((n2.k0 : Nat) : Int), .pointer (some ⟨bA, k * 22, none⟩), .pointer (some ⟨bA, k * 22, none⟩), .pointer (some ⟨bA, k * 22 + 20, none⟩), .pointer (some ⟨bA, k * 22 + 21, none⟩), .int .i64 ((n2.k1 : Nat) : Int), .int .i64 (((n2.k0 + n2.k1 : Nat)) : Int), .int .i64 (((n2.k0 + n2.k1 : Nat)) : Int)])) (MonoL.at_ (eqs_mono _)) (by kernel_rfl) (by kernel_rfl) ⟨?_, ?_, ?_, ?_, ?_, ?_, ?_, ?_, ?_, ?_, ?_, ?_, trivial⟩ ?_
       ·intro a vs W hX hR he hf K hK
        refine wn rfl ?_
        have e7 : a.eval (.tmp 7) = .pointer (some ⟨bA, k * 22, none⟩) := hf 7 (by kernel_rfl)
        refine wV hK rfl ?_
        simp only [execOp, e7]
        try go_simp
       ·intro a vs W hX hR he hf K hK
        refine wn rfl ?_
        have e67 : a.eval (.tmp 67) = .pointer (some ⟨bA, k * 22, none⟩) := eH he hR 0 (by kernel_rfl) rfl
        refine wV hK rfl ?_
        simp only [execOp, e67]
        try go_simp
       ·intro a vs W hX hR he hf K hK
        refine wn rfl ?_
        have e68 : a.eval (.tmp 68) = .pointer (some ⟨bA, k * 22, none⟩) := eH he hR 1 (by kernel_rfl) rfl
        refine wV hK rfl ?_
        simp only [execOp, e68]
        try go_simp
       ·intro a vs W hX hR he hf K hK
        refine wn rfl ?_
        have e69 : a.eval (.tmp 69) = .pointer (some ⟨bA, k * 22 + 20, none⟩) := eH he hR 2 (by kernel_rfl) rfl
        refine wV hK rfl ?_
        simp only [execOp, e69]
        try go_simp
       ·intro a vs W hX hR he hf K hK
        refine wn rfl ?_
        have e70 : a.eval (.tmp 70) = .pointer (some ⟨bA, k * 22 + 20, none⟩) := eH he hR 3 (by kernel_rfl) rfl
        have hbW := bthen (below_drew _) (grow_below hX)
        have hc : W.cell? ⟨bA, k * 22 + 20, none⟩ = some (.int .i64 ((n2.k0 : Nat) : Int)) := range_below hbW HB2.out HR2.out 20 _ (n2.get_kid HN2F.out.addr 0 (by omega))
        refine wV hK rfl ?_
        simp only [execOp, e70]
        try go_simp
       ·intro a vs W hX hR he hf K hK
        refine wn rfl ?_
        have e7 : a.eval (.tmp 7) = .pointer (some ⟨bA, k * 22, none⟩) := hf 7 (by kernel_rfl)
        refine wV hK rfl ?_
        simp only [execOp, e7]
        try go_simp
       ·intro a vs W hX hR he hf K hK
        refine wn rfl ?_
        have e72 : a.eval (.tmp 72) = .pointer (some ⟨bA, k * 22, none⟩) := eH he hR 5 (by kernel_rfl) rfl
        refine wV hK rfl ?_
        simp only [execOp, e72]
        try go_simp
       ·intro a vs W hX hR he hf K hK
        refine wn rfl ?_
        have e73 : a.eval (.tmp 73) = .pointer (some ⟨bA, k * 22, none⟩) := eH he hR 6 (by kernel_rfl) rfl
        refine wV hK rfl ?_
        simp only [execOp, e73]
        try go_simp
       ·intro a vs W hX hR he hf K hK
        refine wn rfl ?_
        have e74 : a.eval (.tmp 74) = .pointer (some ⟨bA, k * 22 + 20, none⟩) := eH he hR 7 (by kernel_rfl) rfl
        refine wV hK rfl ?_
        simp only [execOp, e74]
        try go_simp
       ·intro a vs W hX hR he hf K hK
        refine wn rfl ?_
        have e75 : a.eval (.tmp 75) = .pointer (some ⟨bA, k * 22 + 21, none⟩) := eH he hR 8 (by kernel_rfl) rfl
        have hbW := bthen (below_drew _) (grow_below hX)
        have hc : W.cell? ⟨bA, k * 22 + 21, none⟩ = some (.int .i64 ((n2.k1 : Nat) : Int)) := range_below hbW HB2.out HR2.out 21 _ (n2.get_kid HN2F.out.addr 1 (by omega))
        refine wV hK rfl ?_
        simp only [execOp, e75]
        try go_simp
       ·intro a vs W hX hR he hf K hK
        refine wn rfl ?_
        have e71 : a.eval (.tmp 71) = .int .i64 ((n2.k0 : Nat) : Int) := eH he hR 4 (by kernel_rfl) rfl
        have e76 : a.eval (.tmp 76) = .int .i64 ((n2.k1 : Nat) : Int) := eH he hR 9 (by kernel_rfl) rfl
        refine wV hK rfl ?_
        have h9 := HBD.out
        simp only [execOp, e71, e76]
        go_simp
        first | omega | (simp only [IntKind.wrap_i64]; omega)
       ·intro a vs W hX hR he hf K hK
        refine wn rfl ?_
        have e77 : a.eval (.tmp 77) = .int .i64 (((n2.k0 + n2.k1 : Nat)) : Int) := eH he hR 10 (by kernel_rfl) rfl
        refine wV hK rfl ?_
        simp only [execOp, e77]
        try go_simp
       intro vs wv hXv hR
       rw [put_eqs hR rfl]
       simp only [putL, Act.put, List.setIfInBounds_toArray, List.set_cons_zero, List.set_cons_succ]
       clear hR
       have hbv := bthen (below_drew _) (grow_below hXv)
       have HTOv := Hh (HTO.out.on hbv)
       clear hbv hXv
       go_wp2_with fail
       refine (tdrop_any wv g t2 _ _ _ _ HTOv.out.1 k HK2.out HBD.out.1).mono ?_
       rintro e w9 ⟨Af9, cf9, rfl, hto⟩
       have HTO9 := Hh (HTOv.out.trans hto)
       clear hto
       go_wp2_with fail
       go_ret
       have h9 := HRES.out
       injection h9 with h9 h10
       subst h9 h10
       exact ⟨Af9, cf9, rfl, HTO9.out⟩
      by_cases h1 : n2.k1 = 0
      ·rw [if_neg (fun h => h.2 h1)] at hj
       by_cases hbd : t2.F.length ≤ 1000000 ∧ n2.k0 ≤ 1000000000 ∧ n2.k1 ≤ 1000000000
       case neg => rw [if_neg hbd] at hj; cases hj
       rw [if_pos hbd] at hj
       have HBD := Hh (show t2.F.length ≤ 1000000 ∧ n2.k0 ≤ 1000000000 ∧ n2.k1 ≤ 1000000000 from hbd)
       have HRES := Hh (show (n2.k0 + n2.k1, dropT t2 k) = (r, t') by injection hj)
       have d0 : wz.cell? ⟨bA, k * 22 + 18, none⟩ = some (.bool n2.is) := HR2.out 18 _ (n2.get_is HN2F.out.addr)
       have d1 : wz.cell? ⟨bA, k * 22 + 20, none⟩ = some (.int .i64 (n2.k0 : Int)) := HR2.out 20 _ (n2.get_kid HN2F.out.addr 0 (by omega))
       have d2 : wz.cell? ⟨bA, k * 22 + 21, none⟩ = some (.int .i64 (n2.k1 : Int)) := HR2.out 21 _ (n2.get_kid HN2F.out.addr 1 (by omega))
       clear hj hbd
       have g0 : ((n2.k0 : Int) != 0) = true := by simp; omega
       have g1 : ((n2.k1 : Int) != 0) = false := by simp [h1]
       rw [hi] at d0
       clear h0 h1 hi
       go_wp2_with fail
       clear d0 d1 d2
       refine wp_region_rel (fun A B => A.grownBy B none) (fun A => grown_refl A _) (fun A B C h k => grown_trans h k) (relAt (eqs [.pointer (some ⟨bA, k * 22, none⟩), .pointer (some ⟨bA, k * 22, none⟩), .pointer (some ⟨bA, k * 22 + 20, none⟩), .pointer (some ⟨bA, k * 22 + 20, none⟩), .int .i64 ((n2.k0 : Nat) : Int), .pointer (some ⟨bA, k * 22, none⟩), .pointer (some ⟨bA, k * 22, none⟩), .pointer (some ⟨bA, k * 22 + 20, none⟩), .pointer (some ⟨bA, k * 22 + 21, none⟩), .int .i64 ((n2.k1 : Nat) : Int), .int .i64 (((n2.k0 + n2.k1 : Nat)) : Int), .int .i64 (((n2.k0 + n2.k1 : Nat)) : Int)])) (MonoL.at_ (eqs_mono _)) (by kernel_rfl) (by kernel_rfl) ⟨?_, ?_, ?_, ?_, ?_, ?_, ?_, ?_, ?_, ?_, ?_, ?_, trivial⟩ ?_
       ·intro a vs W hX hR he hf K hK
        refine wn rfl ?_
        have e7 : a.eval (.tmp 7) = .pointer (some ⟨bA, k * 22, none⟩) := hf 7 (by kernel_rfl)
        refine wV hK rfl ?_
        simp only [execOp, e7]
        try go_simp
       ·intro a vs W hX hR he hf K hK
        refine wn rfl ?_
        have e67 : a.eval (.tmp 67) = .pointer (some ⟨bA, k * 22, none⟩) := eH he hR 0 (by kernel_rfl) rfl
        refine wV hK rfl ?_
        simp only [execOp, e67]
        try go_simp
       ·intro a vs W hX hR he hf K hK
        refine wn rfl ?_
        have e68 : a.eval (.tmp 68) = .pointer (some ⟨bA, k * 22, none⟩) := eH he hR 1 (by kernel_rfl) rfl
        refine wV hK rfl ?_
        simp only [execOp, e68]
        try go_simp
       ·intro a vs W hX hR he hf K hK
        refine wn rfl ?_
        have e69 : a.eval (.tmp 69) = .pointer (some ⟨bA, k * 22 + 20, none⟩) := eH he hR 2 (by kernel_rfl) rfl
        refine wV hK rfl ?_
        simp only [execOp, e69]
        try go_simp
       ·intro a vs W hX hR he hf K hK
        refine wn rfl ?_
        have e70 : a.eval (.tmp 70) = .pointer (some ⟨bA, k * 22 + 20, none⟩) := eH he hR 3 (by kernel_rfl) rfl
        have hbW := bthen (below_drew _) (grow_below hX)
        have hc : W.cell? ⟨bA, k * 22 + 20, none⟩ = some (.int .i64 ((n2.k0 : Nat) : Int)) := range_below hbW HB2.out HR2.out 20 _ (n2.get_kid HN2F.out.addr 0 (by omega))
        refine wV hK rfl ?_
        simp only [execOp, e70]
        try go_simp
       ·intro a vs W hX hR he hf K hK
        refine wn rfl ?_
        have e7 : a.eval (.tmp 7) = .pointer (some ⟨bA, k * 22, none⟩) := hf 7 (by kernel_rfl)
        refine wV hK rfl ?_
        simp only [execOp, e7]
        try go_simp
       ·intro a vs W hX hR he hf K hK
        refine wn rfl ?_
        have e72 : a.eval (.tmp 72) = .pointer (some ⟨bA, k * 22, none⟩) := eH he hR 5 (by kernel_rfl) rfl
        refine wV hK rfl ?_
        simp only [execOp, e72]
        try go_simp
       ·intro a vs W hX hR he hf K hK
        refine wn rfl ?_
        have e73 : a.eval (.tmp 73) = .pointer (some ⟨bA, k * 22, none⟩) := eH he hR 6 (by kernel_rfl) rfl
        refine wV hK rfl ?_
        simp only [execOp, e73]
        try go_simp
       ·intro a vs W hX hR he hf K hK
        refine wn rfl ?_
        have e74 : a.eval (.tmp 74) = .pointer (some ⟨bA, k * 22 + 20, none⟩) := eH he hR 7 (by kernel_rfl) rfl
        refine wV hK rfl ?_
        simp only [execOp, e74]
        try go_simp
       ·intro a vs W hX hR he hf K hK
        refine wn rfl ?_
        have e75 : a.eval (.tmp 75) = .pointer (some ⟨bA, k * 22 + 21, none⟩) := eH he hR 8 (by kernel_rfl) rfl
        have hbW := bthen (below_drew _) (grow_below hX)
        have hc : W.cell? ⟨bA, k * 22 + 21, none⟩ = some (.int .i64 ((n2.k1 : Nat) : Int)) := range_below hbW HB2.out HR2.out 21 _ (n2.get_kid HN2F.out.addr 1 (by omega))
        refine wV hK rfl ?_
        simp only [execOp, e75]
        try go_simp
       ·intro a vs W hX hR he hf K hK
        refine wn rfl ?_
        have e71 : a.eval (.tmp 71) = .int .i64 ((n2.k0 : Nat) : Int) := eH he hR 4 (by kernel_rfl) rfl
        have e76 : a.eval (.tmp 76) = .int .i64 ((n2.k1 : Nat) : Int) := eH he hR 9 (by kernel_rfl) rfl
        refine wV hK rfl ?_
        have h9 := HBD.out
        simp only [execOp, e71, e76]
        go_simp
        first | omega | (simp only [IntKind.wrap_i64]; omega)
       ·intro a vs W hX hR he hf K hK
        refine wn rfl ?_
        have e77 : a.eval (.tmp 77) = .int .i64 (((n2.k0 + n2.k1 : Nat)) : Int) := eH he hR 10 (by kernel_rfl) rfl
        refine wV hK rfl ?_
        simp only [execOp, e77]
        try go_simp
       intro vs wv hXv hR
       rw [put_eqs hR rfl]
       simp only [putL, Act.put, List.setIfInBounds_toArray, List.set_cons_zero, List.set_cons_succ]
       clear hR
       have hbv := bthen (below_drew _) (grow_below hXv)
       have HTOv := Hh (HTO.out.on hbv)
       clear hbv hXv
       go_wp2_with fail
       refine (tdrop_any wv g t2 _ _ _ _ HTOv.out.1 k HK2.out HBD.out.1).mono ?_
       rintro e w9 ⟨Af9, cf9, rfl, hto⟩
       have HTO9 := Hh (HTOv.out.trans hto)
       clear hto
       go_wp2_with fail
       go_ret
       have h9 := HRES.out
       injection h9 with h9 h10
       subst h9 h10
       exact ⟨Af9, cf9, rfl, HTO9.out⟩
      rw [if_pos ⟨h0, h1⟩] at hj
      have HRES := Hh (show (k, t2) = (r, t') by injection hj)
      have d0 : wz.cell? ⟨bA, k * 22 + 18, none⟩ = some (.bool n2.is) := HR2.out 18 _ (n2.get_is HN2F.out.addr)
      have d1 : wz.cell? ⟨bA, k * 22 + 20, none⟩ = some (.int .i64 (n2.k0 : Int)) := HR2.out 20 _ (n2.get_kid HN2F.out.addr 0 (by omega))
      have d2 : wz.cell? ⟨bA, k * 22 + 21, none⟩ = some (.int .i64 (n2.k1 : Int)) := HR2.out 21 _ (n2.get_kid HN2F.out.addr 1 (by omega))
      clear hj
      have g0 : ((n2.k0 : Int) != 0) = true := by simp; omega
      have g1 : ((n2.k1 : Int) != 0) = true := by simp; omega
      rw [hi] at d0
      clear h0 h1 hi
      go_wp2_with fail
      go_ret
      have h9 := HRES.out
      injection h9 with h9 h10
      subst h9 h10
      first
       | exact ⟨_, _, rfl, HTO.out⟩
       | exact ⟨rfl, _, _, HTO.out⟩
     rw [hi] at hj
     rw [if_pos rfl] at hj
     have HRES := Hh (show (k, t2) = (r, t') by injection hj)
     have d0 : wz.cell? ⟨bA, k * 22 + 18, none⟩ = some (.bool n2.is) := HR2.out 18 _ (n2.get_is HN2F.out.addr)
     have d1 : wz.cell? ⟨bA, k * 22 + 20, none⟩ = some (.int .i64 (n2.k0 : Int)) := HR2.out 20 _ (n2.get_kid HN2F.out.addr 0 (by omega))
     have d2 : wz.cell? ⟨bA, k * 22 + 21, none⟩ = some (.int .i64 (n2.k1 : Int)) := HR2.out 21 _ (n2.get_kid HN2F.out.addr 1 (by omega))
     clear hj
     rw [hi] at d0
     clear hi
     go_wp2_with fail
     go_ret
     have h9 := HRES.out
     injection h9 with h9 h10
     subst h9 h10
     first
      | exact ⟨_, _, rfl, HTO.out⟩
      | exact ⟨rfl, _, _, HTO.out⟩
    rw [if_neg he] at hcut
    have HEQ := Hh (decide_eq_false he)
    clear he
    obtain ⟨s, hs⟩ : ∃ s, bitN p.addr n.p.len = s := ⟨_, rfl⟩
    rw [hs] at hcut
    have hs2 : (s : Int) < 2 := by rw [← hs]; have := bitN_lt p.addr n.p.len; omega
    cases hbn : withoutN f t (n.kid s) p with
    | none => rw [hbn] at hcut; cases hcut
    | some kt =>
     obtain ⟨kid, t1⟩ := kt
     rw [hbn] at hcut
     simp only [] at hcut
     cases hn1 : t1.N[k]? with
     | none => rw [hn1] at hcut; cases hcut
     | some n1 =>
      rw [hn1] at hcut
      simp only [] at hcut
      have HT2E := Hh (show { t1 with N := t1.N.set k (n1.setKid s kid) } = t2 by injection hcut)
      have HBN := Hh hbn
      have HN1 := Hh hn1
      have HS := Hh hs
      clear hcut hbn hn1 hs
      refine wp_region_rel (fun A B => A.grownBy B none) (fun A => grown_refl A _) (fun A B C h k => grown_trans h k) (relAt (eqs [.pointer (some ⟨bA, k * 22, none⟩), .pointer (some ⟨bA, k * 22, none⟩), .pointer (some ⟨bA, k * 22, none⟩), .agg n.p.cells.toArray, .agg p.cells.toArray, .bool true])) (MonoL.at_ (eqs_mono _)) (by kernel_rfl) (by kernel_rfl) ⟨?_, ?_, ?_, ?_, ?_, ?_, trivial⟩ ?_
      ·intro a vs W hX hR he hf K hK
       refine wn rfl ?_
       have e7 : a.eval (.tmp 7) = .pointer (some ⟨bA, k * 22, none⟩) := hf 7 (by kernel_rfl)
       refine wV hK rfl ?_
       simp only [execOp, e7]
       try go_simp
      ·intro a vs W hX hR he hf K hK
       refine wn rfl ?_
       have e16 : a.eval (.tmp 16) = .pointer (some ⟨bA, k * 22, none⟩) := eH he hR 0 (by kernel_rfl) rfl
       refine wV hK rfl ?_
       simp only [execOp, e16]
       try go_simp
      ·intro a vs W hX hR he hf K hK
       refine wn rfl ?_
       have e17 : a.eval (.tmp 17) = .pointer (some ⟨bA, k * 22, none⟩) := eH he hR 1 (by kernel_rfl) rfl
       refine wV hK rfl ?_
       simp only [execOp, e17]
       try go_simp
      ·intro a vs W hX hR he hf K hK
       refine wn rfl ?_
       have e18 : a.eval (.tmp 18) = .pointer (some ⟨bA, k * 22, none⟩) := eH he hR 2 (by kernel_rfl) rfl
       have hbW := bthen (below_drew _) (grow_below hX)
       exact wp_value (exec_load_mid 30 _ rfl bA (k * 22) e18 n.p.cells _ (range_below hbW HBA.out (Nd.px_range HNR.out)) Try.underlying30 rfl (sizePx _ HNF.out.addr)) (gK hK rfl)
      ·intro a vs W hX hR he hf K hK
       refine wn rfl ?_
       have e5 : a.eval (.tmp 5) = .pointer (some ⟨g5, 0, none⟩) := hf 5 (by kernel_rfl)
       have hbW := bthen (below_drew _) (grow_below hX)
       exact wp_value (exec_load 30 _ rfl g5 e5 30 p.cells _ (HP.out.on hbW) Try.underlying30 rfl (sizePx _ HF.out.addr)) (gK hK rfl)
      ·intro a vs W hX hR he hf K hK
       refine wn rfl ?_
       have e19 : a.eval (.tmp 19) = .agg n.p.cells.toArray := eH he hR 3 (by kernel_rfl) rfl
       have e20 : a.eval (.tmp 20) = .agg p.cells.toArray := eH he hR 4 (by kernel_rfl) rfl
       exact wp_value (exec_nePx _ _ _ rfl n.p p HNF.out.addr HF.out.addr false HEQ.out e19 e20) (gK hK rfl)
      intro vs wx hXx hR
      rw [put_eqs hR rfl]
      simp only [putL, Act.put, List.setIfInBounds_toArray, List.set_cons_zero, List.set_cons_succ]
      clear hR
      replace HP := Hh (HP.out.on (bthen (below_drew _) (grow_below hXx)))
      replace HT1 := Hh (HT1.out.on (bthen (below_drew _) (grow_below hXx)))
      replace HW := Hh (bthen HW.out (bthen (below_drew _) (grow_below hXx)))
      replace HNR := Hh (range_below (bthen (below_drew _) (grow_below hXx)) HBA.out HNR.out)
      replace HBA := Hh (Nat.lt_of_lt_of_le HBA.out (bthen (below_drew _) (grow_below hXx)).size)
      clear hXx
      go_wp2_with (refine wpList_value (by rfl) (exec_load 30 _ rfl g5 (by rfl) 30 p.cells _ HP.out Try.underlying30 rfl (sizePx _ HF.out.addr)) ?_)
      refine (tside_any wx g t _ _ _ _ HT1.out k n HN.out p HF.out).mono ?_
      rintro e wy ⟨rfl, hb⟩
      rw [HS.out]
      have HTy := Hh (HT1.out.on hb)
      have HPy := Hh (HP.out.on hb)
      have HWy := Hh (bthen HW.out hb)
      have HNRy := Hh (range_below hb HBA.out HNR.out)
      have HBAy := Hh (Nat.lt_of_lt_of_le HBA.out hb.size)
      clear hb
      go_wp2_with fail
      refine wp_region_mid 10 14 [true, true, true, true, true, true, true, true, true, true, true, true, true, true] (fun _ => True) (fun v W => v = .int .i64 ((kid : Nat) : Int) ∧ ∃ Af' cf', TabTo wy g (some ⟨bA, 0, none⟩) c Af cf W t1 (some ⟨bA, 0, none⟩) c Af' cf') (fun A B => A.grownBy B none) (fun A => grown_refl A _) (fun A B C h k => grown_trans h k) (relAt (List.cons (fun v _ => v = .pointer (some ⟨bA, k * 22, none⟩)) (List.cons (fun v _ => v = .int .i64 (s : Int)) (List.cons (fun v _ => v = .pointer (some ⟨g, 0, none⟩)) (List.cons (fun v _ => v = .pointer (some ⟨bA, k * 22, none⟩)) (List.cons (fun v _ => v = .int .i64 (s : Int)) (List.cons (fun v _ => v = .pointer (some ⟨bA, k * 22, none⟩)) (List.cons (fun v _ => v = .pointer (some ⟨bA, k * 22 + 20, none⟩)) (List.cons (fun v _ => v = .pointer (some ⟨bA, k * 22 + (20 + s), none⟩)) (List.cons (fun v _ => v = .int .i64 ((n.kid s : Nat) : Int)) (List.cons (fun v _ => v = .agg p.cells.toArray) (List.cons (fun _ _ => True) (List.cons (fun v _ => v = .pointer (some ⟨bA, k * 22, none⟩)) (List.cons (fun v _ => v = .pointer (some ⟨bA, k * 22 + 20, none⟩)) (List.cons (fun v _ => v = .pointer (some ⟨bA, k * 22 + (20 + s), none⟩)) ([])))))))))))))))) (MonoL.at_ (.cons (mono_val _) (.cons (mono_val _) (.cons (mono_val _) (.cons (mono_val _) (.cons (mono_val _) (.cons (mono_val _) (.cons (mono_val _) (.cons (mono_val _) (.cons (mono_val _) (.cons (mono_val _) (.cons ((fun _ _ _ h _ => h)) (.cons (mono_val _) (.cons (mono_val _) (.cons (mono_val _) .nil))))))))))))))) (ConstL.at_ (.cons (fun _ _ _ h => h) (.cons (fun _ _ _ h => h) (.cons (fun _ _ _ h => h) (.cons (fun _ _ _ h => h) (.cons (fun _ _ _ h => h) (.cons (fun _ _ _ h => h) (.cons (fun _ _ _ h => h) (.cons (fun _ _ _ h => h) (.cons (fun _ _ _ h => h) (.cons (fun _ _ _ h => h) (.cons (fun _ _ _ h => h) (.cons (fun _ _ _ h => h) (.cons (fun _ _ _ h => h) (.cons (fun _ _ _ h => h) .nil))))))))))))))) (fun v W h => True.intro) (fun W hX => True.intro) (fun v W h => True.intro) (by kernel_rfl) (by kernel_rfl) rfl (by decide) (by kernel_rfl) (by kernel_rfl) _ rfl rfl ⟨?_, ?_, ?_, ?_, ?_, ?_, ?_, ?_, ?_, ?_, ?_, ?_, ?_, ?_, trivial⟩ ?_
      ·refine stepM_calm ?_ ?_ ?_
       ·rfl
       ·kernel_rfl
       intro a vs W hS hR he hf K hK
       refine wn rfl ?_
       have e7 : a.eval (.tmp 7) = .pointer (some ⟨bA, k * 22, none⟩) := hf 7 (by kernel_rfl)
       refine wp_value (v := .pointer (some ⟨bA, k * 22, none⟩)) ?_ (hK _ rfl)
       simp only [execOp, e7]
       try go_simp
      ·refine stepM_calm ?_ ?_ ?_
       ·rfl
       ·kernel_rfl
       intro a vs W hS hR he hf K hK
       refine wn rfl ?_
       have e8 : a.eval (.tmp 8) = .int .i64 (s : Int) := hf 8 (by kernel_rfl)
       refine wp_value (v := .int .i64 (s : Int)) ?_ (hK _ rfl)
       simp only [execOp, e8]
       try go_simp
      ·refine stepM_anc ?_ ?_ ?_
       ·rfl
       ·kernel_rfl
       intro a vs W hX hR he hf K hK
       refine wn rfl ?_
       have e0 : a.eval (.tmp 0) = .pointer (some ⟨g, 0, none⟩) := hf 0 (by kernel_rfl)
       refine wV hK rfl ?_
       simp only [execOp, e0]
       try go_simp
      ·refine stepM_anc ?_ ?_ ?_
       ·rfl
       ·kernel_rfl
       intro a vs W hX hR he hf K hK
       refine wn rfl ?_
       have e7 : a.eval (.tmp 7) = .pointer (some ⟨bA, k * 22, none⟩) := hf 7 (by kernel_rfl)
       refine wV hK rfl ?_
       simp only [execOp, e7]
       try go_simp
      ·refine stepM_anc ?_ ?_ ?_
       ·rfl
       ·kernel_rfl
       intro a vs W hX hR he hf K hK
       refine wn rfl ?_
       have e8 : a.eval (.tmp 8) = .int .i64 (s : Int) := hf 8 (by kernel_rfl)
       refine wV hK rfl ?_
       simp only [execOp, e8]
       try go_simp
      ·refine stepM_anc ?_ ?_ ?_
       ·rfl
       ·kernel_rfl
       intro a vs W hX hR he hf K hK
       refine wn rfl ?_
       have e29 : a.eval (.tmp 29) = .pointer (some ⟨bA, k * 22, none⟩) := eH he hR 3 (by kernel_rfl) rfl
       refine wV hK rfl ?_
       simp only [execOp, e29]
       try go_simp
      ·refine stepM_anc ?_ ?_ ?_
       ·rfl
       ·kernel_rfl
       intro a vs W hX hR he hf K hK
       refine wn rfl ?_
       have e31 : a.eval (.tmp 31) = .pointer (some ⟨bA, k * 22, none⟩) := eH he hR 5 (by kernel_rfl) rfl
       refine wV hK rfl ?_
       simp only [execOp, e31]
       try go_simp
      ·refine stepM_anc ?_ ?_ ?_
       ·rfl
       ·kernel_rfl
       intro a vs W hX hR he hf K hK
       refine wn rfl ?_
       have e32 : a.eval (.tmp 32) = .pointer (some ⟨bA, k * 22 + 20, none⟩) := eH he hR 6 (by kernel_rfl) rfl
       have e30 : a.eval (.tmp 30) = .int .i64 (s : Int) := eH he hR 4 (by kernel_rfl) rfl
       refine wV hK rfl ?_
       simp only [execOp, e32, e30]
       go_simp
       try omega
      ·refine stepM_anc ?_ ?_ ?_
       ·rfl
       ·kernel_rfl
       intro a vs W hX hR he hf K hK
       refine wn rfl ?_
       have e33 : a.eval (.tmp 33) = .pointer (some ⟨bA, k * 22 + (20 + s), none⟩) := eH he hR 7 (by kernel_rfl) rfl
       have hbW := bthen (below_drew _) (grow_below hX)
       have hc : W.cell? ⟨bA, k * 22 + (20 + s), none⟩ = some (.int .i64 ((n.kid s : Nat) : Int)) := range_below hbW HBAy.out HNRy.out (20 + s) _ (n.get_kid HNF.out.addr s (by omega))
       refine wV hK rfl ?_
       simp only [execOp, e33]
       try go_simp
      ·refine stepM_anc ?_ ?_ ?_
       ·rfl
       ·kernel_rfl
       intro a vs W hX hR he hf K hK
       refine wn rfl ?_
       have e5 : a.eval (.tmp 5) = .pointer (some ⟨g5, 0, none⟩) := hf 5 (by kernel_rfl)
       have hbW := bthen (below_drew _) (grow_below hX)
       exact wp_value (exec_load 30 _ rfl g5 e5 30 p.cells _ (HPy.out.on hbW) Try.underlying30 rfl (sizePx _ HF.out.addr)) (gK hK rfl)
      ·refine stepM_heavy ?_ ?_
       ·rfl
       intro a vs W hX hR he hf K hK
       refine wn rfl ?_
       have e28 : a.eval (.tmp 28) = .pointer (some ⟨g, 0, none⟩) := eH he hR 2 (by kernel_rfl) rfl
       have e34 : a.eval (.tmp 34) = .int .i64 ((n.kid s : Nat) : Int) := eH he hR 8 (by kernel_rfl) rfl
       have e35 : a.eval (.tmp 35) = .agg p.cells.toArray := eH he hR 9 (by kernel_rfl) rfl
       have hbW := bthen (below_drew _) (grow_below hX)
       refine wp_enter (f := 67) (args := #[.pointer (some ⟨g, 0, none⟩), .int .i64 ((n.kid s : Nat) : Int), .agg p.cells.toArray]) (by simp only [execOp, e28, e34, e35]; go_simp; exact ⟨by simpa [Act.eval] using e28, by simpa [Act.eval] using e34, by simpa [Act.eval] using e35⟩) ((IH.out W g t _ _ _ _ (HTy.out.on hbW) (n.kid s) p HF.out kid t1 HBN.out).mono ?_)
       rintro e w' ⟨Af', cf', rfl, hto⟩
       exact ⟨_, rfl, hK _ _ ⟨rfl, Af', cf', TabTo.of hbW hto⟩⟩
      ·refine stepM_calm ?_ ?_ ?_
       ·rfl
       ·kernel_rfl
       intro a vs W hS hR he hf K hK
       refine wn rfl ?_
       have e26 : a.eval (.tmp 26) = .pointer (some ⟨bA, k * 22, none⟩) := (he 0 26 (by kernel_rfl) rfl).trans (hR 0 (by kernel_rfl) rfl)
       refine wp_value (v := .pointer (some ⟨bA, k * 22, none⟩)) ?_ (hK _ rfl)
       simp only [execOp, e26]
       try go_simp
      ·refine stepM_calm ?_ ?_ ?_
       ·rfl
       ·kernel_rfl
       intro a vs W hS hR he hf K hK
       refine wn rfl ?_
       have e37 : a.eval (.tmp 37) = .pointer (some ⟨bA, k * 22, none⟩) := (he 11 37 (by kernel_rfl) rfl).trans (hR 11 (by kernel_rfl) rfl)
       refine wp_value (v := .pointer (some ⟨bA, k * 22 + 20, none⟩)) ?_ (hK _ rfl)
       simp only [execOp, e37]
       try go_simp
      ·refine stepM_calm ?_ ?_ ?_
       ·rfl
       ·kernel_rfl
       intro a vs W hS hR he hf K hK
       refine wn rfl ?_
       have e38 : a.eval (.tmp 38) = .pointer (some ⟨bA, k * 22 + 20, none⟩) := (he 12 38 (by kernel_rfl) rfl).trans (hR 12 (by kernel_rfl) rfl)
       have e27 : a.eval (.tmp 27) = .int .i64 (s : Int) := (he 1 27 (by kernel_rfl) rfl).trans (hR 1 (by kernel_rfl) rfl)
       refine wp_value (v := .pointer (some ⟨bA, k * 22 + (20 + s), none⟩)) ?_ (hK _ rfl)
       simp only [execOp, e38, e27]
       go_simp
       try omega
      intro vs wv hPv hR
      have q0 := hR 0 (by decide) rfl
      change vs 0 = .pointer (some ⟨bA, k * 22, none⟩) at q0
      have q1 := hR 1 (by decide) rfl
      change vs 1 = .int .i64 (s : Int) at q1
      have q2 := hR 2 (by decide) rfl
      change vs 2 = .pointer (some ⟨g, 0, none⟩) at q2
      have q3 := hR 3 (by decide) rfl
      change vs 3 = .pointer (some ⟨bA, k * 22, none⟩) at q3
      have q4 := hR 4 (by decide) rfl
      change vs 4 = .int .i64 (s : Int) at q4
      have q5 := hR 5 (by decide) rfl
      change vs 5 = .pointer (some ⟨bA, k * 22, none⟩) at q5
      have q6 := hR 6 (by decide) rfl
      change vs 6 = .pointer (some ⟨bA, k * 22 + 20, none⟩) at q6
      have q7 := hR 7 (by decide) rfl
      change vs 7 = .pointer (some ⟨bA, k * 22 + (20 + s), none⟩) at q7
      have q8 := hR 8 (by decide) rfl
      change vs 8 = .int .i64 ((n.kid s : Nat) : Int) at q8
      have q9 := hR 9 (by decide) rfl
      change vs 9 = .agg p.cells.toArray at q9
      have q11 := hR 11 (by decide) rfl
      change vs 11 = .pointer (some ⟨bA, k * 22, none⟩) at q11
      have q12 := hR 12 (by decide) rfl
      change vs 12 = .pointer (some ⟨bA, k * 22 + 20, none⟩) at q12
      have q13 := hR 13 (by decide) rfl
      change vs 13 = .pointer (some ⟨bA, k * 22 + (20 + s), none⟩) at q13
      simp only [putAll, Act.put, List.setIfInBounds_toArray, List.set_cons_zero, List.set_cons_succ, List.take_succ_cons, List.take_zero, q0, q1, q2, q3, q4, q5, q6, q7, q8, q9, q11, q12, q13]
      clear q0 q1 q2 q3 q4 q5 q6 q7 q8 q9 q11 q12 q13
      clear hR
      generalize vs 10 = vh at hPv ⊢
      obtain ⟨rfl, Af1, cf1, hto⟩ := hPv
      obtain ⟨b1, hA1, hblk1, hb1, hne1, _, _, hk1', hk1c⟩ := hto.1.node HN1.out
      injection hA1 with hA1
      injection hA1 with hA1
      subst hA1
      refine wp_store_ownI _ _ rfl bA (k * 22 + (20 + s)) ((kid : Nat) : Int) rfl rfl hto.1.nodes (by omega) ?_
      intro wz hoz hgz hsz
      try simp only [List.getElem_toArray, List.getElem_cons_succ, List.getElem_cons_zero, Act.put, List.setIfInBounds_toArray, List.set_cons_zero, List.set_cons_succ]
      have HN1F := Hh (hto.1.fit n1 (List.mem_of_getElem? HN1.out))
      rw [nds_set t1.N hto.1.fit k n1 (n1.setKid s kid) HN1.out (20 + s) (by omega) _ (n1.set_kid HN1F.out.addr s (by omega) kid)] at hoz
      have hTz : Tab wz g { t1 with N := t1.N.set k (n1.setKid s kid) } (some ⟨bA, 0, none⟩) c Af1 cf1 := by
       refine ⟨?_, ?_, hto.1.free.kept hgz (fun b hb e => hto.1.nf bA hblk1 (by injection e with e; rw [e]; exact hb)), set_fit hto.1.fit (by rw [Nd.setKid_p]; exact HN1F.out), hto.1.ng, hto.1.fg, hto.1.nf⟩
       ·have := hto.1.blk.grown hgz (fun e => hne1 (by injection e with e; exact e.symm))
        simpa [tbC] using this
       simpa using hoz
      have hk9 : TabTo wv g (some ⟨bA, 0, none⟩) c Af1 cf1 wz t2 (some ⟨bA, 0, none⟩) c Af1 cf1 := by
       rw [← HT2E.out]
       exact ⟨hTz, Kept.of_grown (S := own3 g (some ⟨bA, 0, none⟩) c Af1 cf1) hgz (fun j hj => by injection hj with hj; exact .inr (.inl (by rw [← hj]; exact hblk1))), fun b hb => .inl hb⟩
      have hto2 := TabTo.of HWy.out (hto.trans hk9)
      obtain ⟨n2, hn2⟩ : ∃ n2, t2.N[k]? = some n2 := ⟨_, by rw [← HT2E.out]; exact List.getElem?_set_self hk1'⟩
      obtain ⟨b9, h9, _, hb9, _, hr9, _, hk9', _⟩ := hto2.1.node hn2
      injection h9 with h9
      injection h9 with h9
      subst h9
      have HTO := Hh hto2
      have HN2 := Hh hn2
      have HN2F := Hh (hto2.1.fit n2 (List.mem_of_getElem? hn2))
      have HR2 := Hh hr9
      have HB2 := Hh hb9
      have HK2 := Hh hk9'
      clear hto hblk1 hb1 hne1 hk1' hk1c hoz hgz hsz hTz hk9 hto2 hn2 hb9 hr9 hk9'
      have hj := HJ.out
      unfold joinN at hj
      rw [HN2.out] at hj
      simp only [] at hj
      cases hi : n2.is
      ·rw [hi] at hj
       simp only [Bool.false_eq_true, if_false] at hj
       by_cases h0 : n2.k0 = 0
       ·rw [if_neg (fun h => h.1 h0)] at hj
        by_cases hbd : t2.F.length ≤ 1000000 ∧ n2.k0 ≤ 1000000000 ∧ n2.k1 ≤ 1000000000
        case neg => rw [if_neg hbd] at hj; cases hj
        rw [if_pos hbd] at hj
        have HBD := Hh (show t2.F.length ≤ 1000000 ∧ n2.k0 ≤ 1000000000 ∧ n2.k1 ≤ 1000000000 from hbd)
        have HRES := Hh (show (n2.k0 + n2.k1, dropT t2 k) = (r, t') by injection hj)
        have d0 : wz.cell? ⟨bA, k * 22 + 18, none⟩ = some (.bool n2.is) := HR2.out 18 _ (n2.get_is HN2F.out.addr)
        have d1 : wz.cell? ⟨bA, k * 22 + 20, none⟩ = some (.int .i64 (n2.k0 : Int)) := HR2.out 20 _ (n2.get_kid HN2F.out.addr 0 (by omega))
        have d2 : wz.cell? ⟨bA, k * 22 + 21, none⟩ = some (.int .i64 (n2.k1 : Int)) := HR2.out 21 _ (n2.get_kid HN2F.out.addr 1 (by omega))
        clear hj hbd
        have g0 : ((n2.k0 : Int) != 0) = false := by simp [h0]
        rw [hi] at d0
        clear h0 hi
        go_wp2_with fail
        clear d0 d1 d2
        refine wp_region_rel (fun A B => A.grownBy B none) (fun A => grown_refl A _) (fun A B C h k => grown_trans h k) (relAt (eqs [.pointer (some ⟨bA, k * 22, none⟩), .pointer (some ⟨bA, k * 22, none⟩), .pointer (some ⟨bA, k * 22 + 20, none⟩), .pointer (some ⟨bA, k * 22 + 20, none⟩), .int .i64 ((n2.k0 : Nat) : Int), .pointer (some ⟨bA, k * 22, none⟩), .pointer (some ⟨bA, k * 22, none⟩), .pointer (some ⟨bA, k * 22 + 20, none⟩), .pointer (some ⟨bA, k * 22 + 21, none⟩), .int .i64 ((n2.k1 : Nat) : Int), .int .i64 (((n2.k0 + n2.k1 : Nat)) : Int), .int .i64 (((n2.k0 + n2.k1 : Nat)) : Int)])) (MonoL.at_ (eqs_mono _)) (by kernel_rfl) (by kernel_rfl) ⟨?_, ?_, ?_, ?_, ?_, ?_, ?_, ?_, ?_, ?_, ?_, ?_, trivial⟩ ?_
        ·intro a vs W hX hR he hf K hK
         refine wn rfl ?_
         have e7 : a.eval (.tmp 7) = .pointer (some ⟨bA, k * 22, none⟩) := hf 7 (by kernel_rfl)
         refine wV hK rfl ?_
         simp only [execOp, e7]
         try go_simp
        ·intro a vs W hX hR he hf K hK
         refine wn rfl ?_
         have e67 : a.eval (.tmp 67) = .pointer (some ⟨bA, k * 22, none⟩) := eH he hR 0 (by kernel_rfl) rfl
         refine wV hK rfl ?_
         simp only [execOp, e67]
         try go_simp
        ·intro a vs W hX hR he hf K hK
         refine wn rfl ?_
         have e68 : a.eval (.tmp 68) = .pointer (some ⟨bA, k * 22, none⟩) := eH he hR 1 (by kernel_rfl) rfl
         refine wV hK rfl ?_
         simp only [execOp, e68]
         try go_simp
        ·intro a vs W hX hR he hf K hK
         refine wn rfl ?_
         have e69 : a.eval (.tmp 69) = .pointer (some ⟨bA, k * 22 + 20, none⟩) := eH he hR 2 (by kernel_rfl) rfl
         refine wV hK rfl ?_
         simp only [execOp, e69]
         try go_simp
        ·intro a vs W hX hR he hf K hK
         refine wn rfl ?_
         have e70 : a.eval (.tmp 70) = .pointer (some ⟨bA, k * 22 + 20, none⟩) := eH he hR 3 (by kernel_rfl) rfl
         have hbW := bthen (below_drew _) (grow_below hX)
         have hc : W.cell? ⟨bA, k * 22 + 20, none⟩ = some (.int .i64 ((n2.k0 : Nat) : Int)) := range_below hbW HB2.out HR2.out 20 _ (n2.get_kid HN2F.out.addr 0 (by omega))
         refine wV hK rfl ?_
         simp only [execOp, e70]
         try go_simp
        ·intro a vs W hX hR he hf K hK
         refine wn rfl ?_
         have e7 : a.eval (.tmp 7) = .pointer (some ⟨bA, k * 22, none⟩) := hf 7 (by kernel_rfl)
         refine wV hK rfl ?_
         simp only [execOp, e7]
         try go_simp
        ·intro a vs W hX hR he hf K hK
         refine wn rfl ?_
         have e72 : a.eval (.tmp 72) = .pointer (some ⟨bA, k * 22, none⟩) := eH he hR 5 (by kernel_rfl) rfl
         refine wV hK rfl ?_
         simp only [execOp, e72]
         try go_simp
        ·intro a vs W hX hR he hf K hK
         refine wn rfl ?_
         have e73 : a.eval (.tmp 73) = .pointer (some ⟨bA, k * 22, none⟩) := eH he hR 6 (by kernel_rfl) rfl
         refine wV hK rfl ?_
         simp only [execOp, e73]
         try go_simp
        ·intro a vs W hX hR he hf K hK
         refine wn rfl ?_
         have e74 : a.eval (.tmp 74) = .pointer (some ⟨bA, k * 22 + 20, none⟩) := eH he hR 7 (by kernel_rfl) rfl
         refine wV hK rfl ?_
         simp only [execOp, e74]
         try go_simp
        ·intro a vs W hX hR he hf K hK
         refine wn rfl ?_
         have e75 : a.eval (.tmp 75) = .pointer (some ⟨bA, k * 22 + 21, none⟩) := eH he hR 8 (by kernel_rfl) rfl
         have hbW := bthen (below_drew _) (grow_below hX)
         have hc : W.cell? ⟨bA, k * 22 + 21, none⟩ = some (.int .i64 ((n2.k1 : Nat) : Int)) := range_below hbW HB2.out HR2.out 21 _ (n2.get_kid HN2F.out.addr 1 (by omega))
         refine wV hK rfl ?_
         simp only [execOp, e75]
         try go_simp
        ·intro a vs W hX hR he hf K hK
         refine wn rfl ?_
         have e71 : a.eval (.tmp 71) = .int .i64 ((n2.k0 : Nat) : Int) := eH he hR 4 (by kernel_rfl) rfl
         have e76 : a.eval (.tmp 76) = .int .i64 ((n2.k1 : Nat) : Int) := eH he hR 9 (by kernel_rfl) rfl
         refine wV hK rfl ?_
         have h9 := HBD.out
         simp only [execOp, e71, e76]
         go_simp
         first | omega | (simp only [IntKind.wrap_i64]; omega)
        ·intro a vs W hX hR he hf K hK
         refine wn rfl ?_
         have e77 : a.eval (.tmp 77) = .int .i64 (((n2.k0 + n2.k1 : Nat)) : Int) := eH he hR 10 (by kernel_rfl) rfl
         refine wV hK rfl ?_
         simp only [execOp, e77]
         try go_simp
        intro vs wv hXv hR
        rw [put_eqs hR rfl]
        simp only [putL, Act.put, List.setIfInBounds_toArray, List.set_cons_zero, List.set_cons_succ]
        clear hR
        have hbv := bthen (below_drew _) (grow_below hXv)
        have HTOv := Hh (HTO.out.on hbv)
        clear hbv hXv
        go_wp2_with fail
        refine (tdrop_any wv g t2 _ _ _ _ HTOv.out.1 k HK2.out HBD.out.1).mono ?_
        rintro e w9 ⟨Af9, cf9, rfl, hto⟩
        have HTO9 := Hh (HTOv.out.trans hto)
        clear hto
        go_wp2_with fail
        go_ret
        have h9 := HRES.out
        injection h9 with h9 h10
        subst h9 h10
        exact ⟨Af9, cf9, rfl, HTO9.out⟩
       by_cases h1 : n2.k1 = 0
       ·rw [if_neg (fun h => h.2 h1)] at hj
        by_cases hbd : t2.F.length ≤ 1000000 ∧ n2.k0 ≤ 1000000000 ∧ n2.k1 ≤ 1000000000
        case neg => rw [if_neg hbd] at hj; cases hj
        rw [if_pos hbd] at hj
        have HBD := Hh (show t2.F.length ≤ 1000000 ∧ n2.k0 ≤ 1000000000 ∧ n2.k1 ≤ 1000000000 from hbd)
        have HRES := Hh (show (n2.k0 + n2.k1, dropT t2 k) = (r, t') by injection hj)
        have d0 : wz.cell? ⟨bA, k * 22 + 18, none⟩ = some (.bool n2.is) := HR2.out 18 _ (n2.get_is HN2F.out.addr)
        have d1 : wz.cell? ⟨bA, k * 22 + 20, none⟩ = some (.int .i64 (n2.k0 : Int)) := HR2.out 20 _ (n2.get_kid HN2F.out.addr 0 (by omega))
        have d2 : wz.cell? ⟨bA, k * 22 + 21, none⟩ = some (.int .i64 (n2.k1 : Int)) := HR2.out 21 _ (n2.get_kid HN2F.out.addr 1 (by omega))
        clear hj hbd
        have g0 : ((n2.k0 : Int) != 0) = true := by simp; omega
        have g1 : ((n2.k1 : Int) != 0) = false := by simp [h1]
        rw [hi] at d0
        clear h0 h1 hi
        go_wp2_with fail
        clear d0 d1 d2
        refine wp_region_rel (fun A B => A.grownBy B none) (fun A => grown_refl A _) (fun A B C h k => grown_trans h k) (relAt (eqs [.pointer (some ⟨bA, k * 22, none⟩), .pointer (some ⟨bA, k * 22, none⟩), .pointer (some ⟨bA, k * 22 + 20, none⟩), .pointer (some ⟨bA, k * 22 + 20, none⟩), .int .i64 ((n2.k0 : Nat) : Int), .pointer (some ⟨bA, k * 22, none⟩), .pointer (some ⟨bA, k * 22, none⟩), .pointer (some ⟨bA, k * 22 + 20, none⟩), .pointer (some ⟨bA, k * 22 + 21, none⟩), .int .i64 ((n2.k1 : Nat) : Int), .int .i64 (((n2.k0 + n2.k1 : Nat)) : Int), .int .i64 (((n2.k0 + n2.k1 : Nat)) : Int)])) (MonoL.at_ (eqs_mono _)) (by kernel_rfl) (by kernel_rfl) ⟨?_, ?_, ?_, ?_, ?_, ?_, ?_, ?_, ?_, ?_, ?_, ?_, trivial⟩ ?_
        ·intro a vs W hX hR he hf K hK
         refine wn rfl ?_
         have e7 : a.eval (.tmp 7) = .pointer (some ⟨bA, k * 22, none⟩) := hf 7 (by kernel_rfl)
         refine wV hK rfl ?_
         simp only [execOp, e7]
         try go_simp
        ·intro a vs W hX hR he hf K hK
         refine wn rfl ?_
         have e67 : a.eval (.tmp 67) = .pointer (some ⟨bA, k * 22, none⟩) := eH he hR 0 (by kernel_rfl) rfl
         refine wV hK rfl ?_
         simp only [execOp, e67]
         try go_simp
        ·intro a vs W hX hR he hf K hK
         refine wn rfl ?_
         have e68 : a.eval (.tmp 68) = .pointer (some ⟨bA, k * 22, none⟩) := eH he hR 1 (by kernel_rfl) rfl
         refine wV hK rfl ?_
         simp only [execOp, e68]
         try go_simp
        ·intro a vs W hX hR he hf K hK
         refine wn rfl ?_
         have e69 : a.eval (.tmp 69) = .pointer (some ⟨bA, k * 22 + 20, none⟩) := eH he hR 2 (by kernel_rfl) rfl
         refine wV hK rfl ?_
         simp only [execOp, e69]
         try go_simp
        ·intro a vs W hX hR he hf K hK
         refine wn rfl ?_
         have e70 : a.eval (.tmp 70) = .pointer (some ⟨bA, k * 22 + 20, none⟩) := eH he hR 3 (by kernel_rfl) rfl
         have hbW := bthen (below_drew _) (grow_below hX)
         have hc : W.cell? ⟨bA, k * 22 + 20, none⟩ = some (.int .i64 ((n2.k0 : Nat) : Int)) := range_below hbW HB2.out HR2.out 20 _ (n2.get_kid HN2F.out.addr 0 (by omega))
         refine wV hK rfl ?_
         simp only [execOp, e70]
         try go_simp
        ·intro a vs W hX hR he hf K hK
         refine wn rfl ?_
         have e7 : a.eval (.tmp 7) = .pointer (some ⟨bA, k * 22, none⟩) := hf 7 (by kernel_rfl)
         refine wV hK rfl ?_
         simp only [execOp, e7]
         try go_simp
        ·intro a vs W hX hR he hf K hK
         refine wn rfl ?_
         have e72 : a.eval (.tmp 72) = .pointer (some ⟨bA, k * 22, none⟩) := eH he hR 5 (by kernel_rfl) rfl
         refine wV hK rfl ?_
         simp only [execOp, e72]
         try go_simp
        ·intro a vs W hX hR he hf K hK
         refine wn rfl ?_
         have e73 : a.eval (.tmp 73) = .pointer (some ⟨bA, k * 22, none⟩) := eH he hR 6 (by kernel_rfl) rfl
         refine wV hK rfl ?_
         simp only [execOp, e73]
         try go_simp
        ·intro a vs W hX hR he hf K hK
         refine wn rfl ?_
         have e74 : a.eval (.tmp 74) = .pointer (some ⟨bA, k * 22 + 20, none⟩) := eH he hR 7 (by kernel_rfl) rfl
         refine wV hK rfl ?_
         simp only [execOp, e74]
         try go_simp
        ·intro a vs W hX hR he hf K hK
         refine wn rfl ?_
         have e75 : a.eval (.tmp 75) = .pointer (some ⟨bA, k * 22 + 21, none⟩) := eH he hR 8 (by kernel_rfl) rfl
         have hbW := bthen (below_drew _) (grow_below hX)
         have hc : W.cell? ⟨bA, k * 22 + 21, none⟩ = some (.int .i64 ((n2.k1 : Nat) : Int)) := range_below hbW HB2.out HR2.out 21 _ (n2.get_kid HN2F.out.addr 1 (by omega))
         refine wV hK rfl ?_
         simp only [execOp, e75]
         try go_simp
        ·intro a vs W hX hR he hf K hK
         refine wn rfl ?_
         have e71 : a.eval (.tmp 71) = .int .i64 ((n2.k0 : Nat) : Int) := eH he hR 4 (by kernel_rfl) rfl
         have e76 : a.eval (.tmp 76) = .int .i64 ((n2.k1 : Nat) : Int) := eH he hR 9 (by kernel_rfl) rfl
         refine wV hK rfl ?_
         have h9 := HBD.out
         simp only [execOp, e71, e76]
         go_simp
         first | omega | (simp only [IntKind.wrap_i64]; omega)
        ·intro a vs W hX hR he hf K hK
         refine wn rfl ?_
         have e77 : a.eval (.tmp 77) = .int .i64 (((n2.k0 + n2.k1 : Nat)) : Int) := eH he hR 10 (by kernel_rfl) rfl
         refine wV hK rfl ?_
         simp only [execOp, e77]
         try go_simp
        intro vs wv hXv hR
        rw [put_eqs hR rfl]
        simp only [putL, Act.put, List.setIfInBounds_toArray, List.set_cons_zero, List.set_cons_succ]
        clear hR
        have hbv := bthen (below_drew _) (grow_below hXv)
        have HTOv := Hh (HTO.out.on hbv)
        clear hbv hXv
        go_wp2_with fail
        refine (tdrop_any wv g t2 _ _ _ _ HTOv.out.1 k HK2.out HBD.out.1).mono ?_
        rintro e w9 ⟨Af9, cf9, rfl, hto⟩
        have HTO9 := Hh (HTOv.out.trans hto)
        clear hto
        go_wp2_with fail
        go_ret
        have h9 := HRES.out
        injection h9 with h9 h10
        subst h9 h10
        exact ⟨Af9, cf9, rfl, HTO9.out⟩
       rw [if_pos ⟨h0, h1⟩] at hj
       have HRES := Hh (show (k, t2) = (r, t') by injection hj)
       have d0 : wz.cell? ⟨bA, k * 22 + 18, none⟩ = some (.bool n2.is) := HR2.out 18 _ (n2.get_is HN2F.out.addr)
       have d1 : wz.cell? ⟨bA, k * 22 + 20, none⟩ = some (.int .i64 (n2.k0 : Int)) := HR2.out 20 _ (n2.get_kid HN2F.out.addr 0 (by omega))
       have d2 : wz.cell? ⟨bA, k * 22 + 21, none⟩ = some (.int .i64 (n2.k1 : Int)) := HR2.out 21 _ (n2.get_kid HN2F.out.addr 1 (by omega))
       clear hj
       have g0 : ((n2.k0 : Int) != 0) = true := by simp; omega
       have g1 : ((n2.k1 : Int) != 0) = true := by simp; omega
       rw [hi] at d0
       clear h0 h1 hi
       go_wp2_with fail
       go_ret
       have h9 := HRES.out
       injection h9 with h9 h10
       subst h9 h10
       first
        | exact ⟨_, _, rfl, HTO.out⟩
        | exact ⟨rfl, _, _, HTO.out⟩
      rw [hi] at hj
      rw [if_pos rfl] at hj
      have HRES := Hh (show (k, t2) = (r, t') by injection hj)
      have d0 : wz.cell? ⟨bA, k * 22 + 18, none⟩ = some (.bool n2.is) := HR2.out 18 _ (n2.get_is HN2F.out.addr)
      have d1 : wz.cell? ⟨bA, k * 22 + 20, none⟩ = some (.int .i64 (n2.k0 : Int)) := HR2.out 20 _ (n2.get_kid HN2F.out.addr 0 (by omega))
      have d2 : wz.cell? ⟨bA, k * 22 + 21, none⟩ = some (.int .i64 (n2.k1 : Int)) := HR2.out 21 _ (n2.get_kid HN2F.out.addr 1 (by omega))
      clear hj
      rw [hi] at d0
      clear hi
      go_wp2_with fail
      go_ret
      have h9 := HRES.out
      injection h9 with h9 h10
      subst h9 h10
      first
       | exact ⟨_, _, rfl, HTO.out⟩
       | exact ⟨rfl, _, _, HTO.out⟩
end Go.Proofs.Ytdmgomknamdcfaa


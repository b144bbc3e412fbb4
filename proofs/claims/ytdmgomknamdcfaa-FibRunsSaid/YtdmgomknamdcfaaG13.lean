/- Texts of this claim put together, in build order: each one's own remark stands ahead of it. -/
import Derived.Test.YtdmgomknamdcfaaG02
import Derived.Test.YtdmgomknamdcfaaG12
/- What the table's find (layer 9) computes. No condition but sizes. -/
namespace Go.Proofs.Ytdmgomknamdcfaa
open Go.RowKit
set_option linter.unusedVariables false
set_option maxRecDepth 20000
set_option linter.unusedSimpArgs false

theorem exec_nePx {w : World} {o : Oper} {c : Act} (x y : Operand) (ty : TypeId) (ho : o.op = .binOp .neq 30 x y ty) (p q : Px) (hp : p.addr.length = 16) (hq : q.addr.length = 16) (r : Bool) (hr : decide (p = q) = r) (hx : c.eval x = .agg p.cells.toArray) (hy : c.eval y = .agg q.cells.toArray) : (execOp c.eval o).run Try.prog w = .ok (.value (.bool (!r))) w := by
 unfold execOp
 simp only [ho, hx, hy, Sem.run_bind, run_eqGuard_agg w .neq 30 x y _ _ (show Try.prog.eqGuardType Try.prog.depth 30 = false by kernel_rfl), run_neq_struct, eqPx p q hp hq w, hr, Result.andThen_ok]
 rfl
/-- the node of a prefix, step by step -/
def findN (N : List Nd) (p : Px) : Nat → Nat → Option Nat
 | 0, _ => none
 | f + 1, k => if k = 0 then some 0 else
  match N[k]? with
  | none => none
  | some x => if x.p = p then some k else if (covP x.p p && !(decide (x.p.len = p.len))) = true then findN N p f (x.kid (bitN p.addr x.p.len)) else some 0
/-- how many steps it takes -/
def cntN (N : List Nd) (p : Px) : Nat → Nat → Nat
 | 0, _ => 0
 | f + 1, k => if k = 0 then 0 else
  match N[k]? with
  | none => 0
  | some x => if x.p = p then 0 else if (covP x.p p && !(decide (x.p.len = p.len))) = true then 1 + cntN N p f (x.kid (bitN p.addr x.p.len)) else 0
theorem cntN_more (N : List Nd) (p : Px) : ∀ (f k r : Nat), findN N p f k = some r → ∀ F, f ≤ F → cntN N p F k = cntN N p f k
 | 0, k, r, h, _, _ => by cases h
 | f + 1, k, r, h, F, hF => by
  obtain ⟨G, rfl⟩ : ∃ G, F = G + 1 := ⟨F - 1, by omega⟩
  unfold findN at h
  unfold cntN
  split
  ·rfl
  rename_i hk
  rw [if_neg hk] at h
  split
  ·rfl
  rename_i x hx
  rw [hx] at h
  simp only [] at h
  split
  ·rfl
  rename_i hp
  rw [if_neg hp] at h
  split
  ·rename_i hc
   rw [if_pos hc] at h
   rw [cntN_more N p f _ r h G (by omega)]
  rfl
set_option maxHeartbeats 4000000 in
theorem tfind_any (w : World) (g : Nat) (t : Tb) (A Af : Option Addr) (c cf : Nat) (hT : Tab w g t A c Af cf) (p : Px) (hf : p.fit) (F r : Nat) (hr : findN t.N p F t.root = some r) :
  Calls Try.prog 58 #[.pointer (some ⟨g, 0, none⟩), .agg p.cells.toArray] w fun e w' => e = .returned (.int .i64 ((r : Nat) : Int)) ∧ Below w.heap.size w w' := by
 have HF := Hh hf
 have HT := Hh hT
 have HFD := Hh hr
 have c0 : w.cell? ⟨g, 5, none⟩ = some (.int .i64 (t.root : Int)) := hT.blk.cell 5
 have hgl := hT.blk.lt
 clear hf hT hr
 go_enter Try.func58, Try.ntmps58
 go_upto_region 1 with (refine wpList_box_blk (by rfl) 30 (.tmp 1) rfl p.cells rfl ?_; intro w1 hb1 hB1 hs1; clear hs1)
 obtain ⟨g1, hg1⟩ : ∃ g, w.heap.size = g := ⟨_, rfl⟩
 have HW1 := Hh hB1
 replace c0 : w1.cell? ⟨g, 5, none⟩ = some (.int .i64 (t.root : Int)) := (hB1.cell (p := ⟨g, _, none⟩) hgl).trans c0
 replace HT := Hh (HT.out.on hB1)
 rw [hg1] at hb1
 try rw [hg1]
 have HP := Hh hb1
 clear hb1 hB1 hg1 hgl
 go_wp2_with fail
 clear c0
 go_loopw [5] (fun i wr => ∃ f k : Nat, f ≤ F ∧ i = .int .i64 (k : Nat) ∧ findN t.N p f k = some r ∧ Below w1.heap.size w1 wr) (fun i _ => cntN t.N p F (intOf i).toNat)
 case atStart => exact ⟨F, t.root, Nat.le_refl _, rfl, HFD.out, Below.refl _ _⟩
 case round =>
  obtain ⟨f, k, hfF, rfl, hfd, hbe⟩ := hrel
  have HFK := Hh hfd
  have hBE := Hh hbe
  have HW := Hh (bthen HW1.out hbe)
  replace HP := Hh (HP.out.on hbe)
  have HTR := Hh (HT.out.on hbe)
  clear hbe
  obtain ⟨f, rfl⟩ : ∃ f', f = f' + 1 := ⟨f - 1, by cases f with | zero => cases hfd | succ f => rfl⟩
  unfold findN at hfd
  by_cases hk : k = 0
  ·subst hk
   have hr0 : r = 0 := by simpa using hfd.symm
   subst hr0
   clear hfd
   go_wp2_with fail
   refine wp_region_rel (fun A B => A.grownBy B none) (fun A => grown_refl A _) (fun A B C h k => grown_trans h k) (relAt (eqs [.int .i64 0, .bool false, .bool false, undef, undef, undef, undef, undef, undef, undef, undef, undef, undef, .bool false])) (MonoL.at_ (eqs_mono _)) (by kernel_rfl) (by kernel_rfl) ⟨?_, ?_, ?_, ?_, ?_, ?_, ?_, ?_, ?_, ?_, ?_, ?_, ?_, ?_, trivial⟩ ?_
   ·intro a vs W hX hR he hf K hK
    refine wn rfl ?_
    have e5 : a.eval (.tmp 5) = .int .i64 0 := hf 5 (by kernel_rfl)
    refine wV hK rfl ?_
    simp only [execOp, e5]
    try go_simp
   ·intro a vs W hX hR he hf K hK
    refine wn rfl ?_
    have e10 : a.eval (.tmp 10) = .int .i64 0 := eH he hR 0 (by kernel_rfl) rfl
    refine wV hK rfl ?_
    simp only [execOp, e10]
    try go_simp
   ·intro a vs W hX hR he hf K hK
    refine wn rfl ?_
    have e11 : a.eval (.tmp 11) = .bool false := eH he hR 1 (by kernel_rfl) rfl
    refine wV hK rfl ?_
    simp only [execOp, e11]
    try go_simp
   ·intro a vs W hX hR he hf K hK
    have e12 : a.eval (.tmp 12) = .bool false := eH he hR 2 (by kernel_rfl) rfl
    exact gN e12 rfl rfl rfl (gK hK rfl)
   ·intro a vs W hX hR he hf K hK
    have e12 : a.eval (.tmp 12) = .bool false := eH he hR 2 (by kernel_rfl) rfl
    exact gN e12 rfl rfl rfl (gK hK rfl)
   ·intro a vs W hX hR he hf K hK
    have e12 : a.eval (.tmp 12) = .bool false := eH he hR 2 (by kernel_rfl) rfl
    exact gN e12 rfl rfl rfl (gK hK rfl)
   ·intro a vs W hX hR he hf K hK
    have e12 : a.eval (.tmp 12) = .bool false := eH he hR 2 (by kernel_rfl) rfl
    exact gN e12 rfl rfl rfl (gK hK rfl)
   ·intro a vs W hX hR he hf K hK
    have e12 : a.eval (.tmp 12) = .bool false := eH he hR 2 (by kernel_rfl) rfl
    exact gN e12 rfl rfl rfl (gK hK rfl)
   ·intro a vs W hX hR he hf K hK
    have e12 : a.eval (.tmp 12) = .bool false := eH he hR 2 (by kernel_rfl) rfl
    exact gN e12 rfl rfl rfl (gK hK rfl)
   ·intro a vs W hX hR he hf K hK
    have e12 : a.eval (.tmp 12) = .bool false := eH he hR 2 (by kernel_rfl) rfl
    exact gN e12 rfl rfl rfl (gK hK rfl)
   ·intro a vs W hX hR he hf K hK
    have e12 : a.eval (.tmp 12) = .bool false := eH he hR 2 (by kernel_rfl) rfl
    exact gN e12 rfl rfl rfl (gK hK rfl)
   ·intro a vs W hX hR he hf K hK
    have e12 : a.eval (.tmp 12) = .bool false := eH he hR 2 (by kernel_rfl) rfl
    exact gN e12 rfl rfl rfl (gK hK rfl)
   ·intro a vs W hX hR he hf K hK
    have e12 : a.eval (.tmp 12) = .bool false := eH he hR 2 (by kernel_rfl) rfl
    exact gN e12 rfl rfl rfl (gK hK rfl)
   ·intro a vs W hX hR he hf K hK
    refine wn rfl ?_
    have e12 : a.eval (.tmp 12) = .bool false := eH he hR 2 (by kernel_rfl) rfl
    have e22 : a.eval (.tmp 22) = undef := eH he hR 12 (by kernel_rfl) rfl
    refine wV hK rfl ?_
    simp only [execOp, e12, e22]
    try go_simp
   intro vs wx hXx hR
   rw [put_eqs hR rfl]
   simp only [putL, Act.put, List.setIfInBounds_toArray, List.set_cons_zero, List.set_cons_succ]
   clear hR
   replace hBE := Hh (hBE.out.trans ((bthen (below_drew _) (grow_below hXx)).mono hBE.out.size))
   replace HP := Hh (HP.out.on (bthen (below_drew _) (grow_below hXx)))
   replace HW := Hh (bthen HW.out (bthen (below_drew _) (grow_below hXx)))
   replace HTR := Hh (HTR.out.on (bthen (below_drew _) (grow_below hXx)))
   clear hXx
   go_wp2_with fail
   go_ret
   exact ⟨rfl, HW.out⟩
  rw [if_neg hk] at hfd
  cases hx : t.N[k]? with
  | none => rw [hx] at hfd; cases hfd
  | some x =>
   rw [hx] at hfd
   simp only [] at hfd
   obtain ⟨bA, hA, _, hba, hne, hrr, _, hk1, _⟩ := HTR.out.node hx
   subst hA
   have HXF := Hh (HT.out.fit x (List.mem_of_getElem? hx))
   have HXR := Hh hrr
   have HBA := Hh hba
   have HNX := Hh hx
   have hlt : (k : Int) < (t.N.length : Int) := by omega
   have HKN := Hh (show ¬ (k : Int) = 0 by omega)
   clear hrr hba hx hk hk1 hne
   by_cases hpq : x.p = p
   ·rw [if_pos hpq] at hfd
    have hrk : k = r := by simpa using hfd
    subst hrk
    have HEQ := Hh (decide_eq_true hpq)
    clear hfd hpq
    go_wp2_with fail
    refine wp_region_rel (fun A B => A.grownBy B none) (fun A => grown_refl A _) (fun A B C h k => grown_trans h k) (relAt (eqs [.int .i64 (k : Int), .bool true, .bool true, .pointer (some ⟨g, 0, none⟩), .pointer (some ⟨g, 0, none⟩), .pointer (some ⟨g, 3, none⟩), .slice (some ⟨bA, 0, none⟩) t.N.length c, .int .i64 (k : Int), .pointer (some ⟨bA, k * 22, none⟩), .pointer (some ⟨bA, k * 22, none⟩), .agg x.p.cells.toArray, .agg p.cells.toArray, .bool false, .bool false])) (MonoL.at_ (eqs_mono _)) (by kernel_rfl) (by kernel_rfl) ⟨?_, ?_, ?_, ?_, ?_, ?_, ?_, ?_, ?_, ?_, ?_, ?_, ?_, ?_, trivial⟩ ?_
    ·intro a vs W hX hR he hf K hK
     refine wn rfl ?_
     have e5 : a.eval (.tmp 5) = .int .i64 (k : Int) := hf 5 (by kernel_rfl)
     refine wV hK rfl ?_
     simp only [execOp, e5]
     try go_simp
    ·intro a vs W hX hR he hf K hK
     refine wn rfl ?_
     have e10 : a.eval (.tmp 10) = .int .i64 (k : Int) := eH he hR 0 (by kernel_rfl) rfl
     refine wV hK rfl ?_
     have h9 := HKN.out
     simp only [execOp, e10]
     go_simp
     try omega
    ·intro a vs W hX hR he hf K hK
     refine wn rfl ?_
     have e11 : a.eval (.tmp 11) = .bool true := eH he hR 1 (by kernel_rfl) rfl
     refine wV hK rfl ?_
     simp only [execOp, e11]
     try go_simp
    ·intro a vs W hX hR he hf K hK
     have e12 : a.eval (.tmp 12) = .bool true := eH he hR 2 (by kernel_rfl) rfl
     refine gT e12 rfl rfl rfl ?_
     have e0 : a.eval (.tmp 0) = .pointer (some ⟨g, 0, none⟩) := hf 0 (by kernel_rfl)
     refine wV hK rfl ?_
     simp only [execOp, e0]
     try go_simp
    ·intro a vs W hX hR he hf K hK
     have e12 : a.eval (.tmp 12) = .bool true := eH he hR 2 (by kernel_rfl) rfl
     refine gT e12 rfl rfl rfl ?_
     have e13 : a.eval (.tmp 13) = .pointer (some ⟨g, 0, none⟩) := eH he hR 3 (by kernel_rfl) rfl
     refine wV hK rfl ?_
     simp only [execOp, e13]
     try go_simp
    ·intro a vs W hX hR he hf K hK
     have e12 : a.eval (.tmp 12) = .bool true := eH he hR 2 (by kernel_rfl) rfl
     refine gT e12 rfl rfl rfl ?_
     have e14 : a.eval (.tmp 14) = .pointer (some ⟨g, 0, none⟩) := eH he hR 4 (by kernel_rfl) rfl
     refine wV hK rfl ?_
     simp only [execOp, e14]
     try go_simp
    ·intro a vs W hX hR he hf K hK
     have e12 : a.eval (.tmp 12) = .bool true := eH he hR 2 (by kernel_rfl) rfl
     refine gT e12 rfl rfl rfl ?_
     have e15 : a.eval (.tmp 15) = .pointer (some ⟨g, 3, none⟩) := eH he hR 5 (by kernel_rfl) rfl
     have hbW := bthen (below_drew _) (grow_below hX)
     have hc : W.cell? ⟨g, 3, none⟩ = some (.slice (some ⟨bA, 0, none⟩) t.N.length c) := (HTR.out.blk.on hbW).cell 3
     refine wV hK rfl ?_
     simp only [execOp, e15]
     try go_simp
    ·intro a vs W hX hR he hf K hK
     have e12 : a.eval (.tmp 12) = .bool true := eH he hR 2 (by kernel_rfl) rfl
     refine gT e12 rfl rfl rfl ?_
     have e5 : a.eval (.tmp 5) = .int .i64 (k : Int) := hf 5 (by kernel_rfl)
     refine wV hK rfl ?_
     simp only [execOp, e5]
     try go_simp
    ·intro a vs W hX hR he hf K hK
     have e12 : a.eval (.tmp 12) = .bool true := eH he hR 2 (by kernel_rfl) rfl
     refine gT e12 rfl rfl rfl ?_
     have e16 : a.eval (.tmp 16) = .slice (some ⟨bA, 0, none⟩) t.N.length c := eH he hR 6 (by kernel_rfl) rfl
     have e17 : a.eval (.tmp 17) = .int .i64 (k : Int) := eH he hR 7 (by kernel_rfl) rfl
     refine wV hK rfl ?_
     simp only [execOp, e16, e17]
     go_simp
    ·intro a vs W hX hR he hf K hK
     have e12 : a.eval (.tmp 12) = .bool true := eH he hR 2 (by kernel_rfl) rfl
     refine gT e12 rfl rfl rfl ?_
     have e18 : a.eval (.tmp 18) = .pointer (some ⟨bA, k * 22, none⟩) := eH he hR 8 (by kernel_rfl) rfl
     refine wV hK rfl ?_
     simp only [execOp, e18]
     try go_simp
    ·intro a vs W hX hR he hf K hK
     have e12 : a.eval (.tmp 12) = .bool true := eH he hR 2 (by kernel_rfl) rfl
     refine gT e12 rfl rfl rfl ?_
     have e19 : a.eval (.tmp 19) = .pointer (some ⟨bA, k * 22, none⟩) := eH he hR 9 (by kernel_rfl) rfl
     have hbW := bthen (below_drew _) (grow_below hX)
     exact wp_value (exec_load_mid 30 _ rfl bA (k * 22) e19 x.p.cells _ (range_below hbW HBA.out (Nd.px_range HXR.out)) Try.underlying30 rfl (sizePx _ HXF.out.addr)) (gK hK rfl)
    ·intro a vs W hX hR he hf K hK
     have e12 : a.eval (.tmp 12) = .bool true := eH he hR 2 (by kernel_rfl) rfl
     refine gT e12 rfl rfl rfl ?_
     have e3 : a.eval (.tmp 3) = .pointer (some ⟨g1, 0, none⟩) := hf 3 (by kernel_rfl)
     have hbW := bthen (below_drew _) (grow_below hX)
     exact wp_value (exec_load 30 _ rfl g1 e3 30 p.cells _ (HP.out.on hbW) Try.underlying30 rfl (sizePx _ HF.out.addr)) (gK hK rfl)
    ·intro a vs W hX hR he hf K hK
     have e12 : a.eval (.tmp 12) = .bool true := eH he hR 2 (by kernel_rfl) rfl
     refine gT e12 rfl rfl rfl ?_
     have e20 : a.eval (.tmp 20) = .agg x.p.cells.toArray := eH he hR 10 (by kernel_rfl) rfl
     have e21 : a.eval (.tmp 21) = .agg p.cells.toArray := eH he hR 11 (by kernel_rfl) rfl
     exact wp_value (exec_nePx _ _ _ rfl x.p p HXF.out.addr HF.out.addr true HEQ.out e20 e21) (gK hK rfl)
    ·intro a vs W hX hR he hf K hK
     refine wn rfl ?_
     have e12 : a.eval (.tmp 12) = .bool true := eH he hR 2 (by kernel_rfl) rfl
     have e22 : a.eval (.tmp 22) = .bool false := eH he hR 12 (by kernel_rfl) rfl
     refine wV hK rfl ?_
     simp only [execOp, e12, e22]
     try go_simp
    intro vs wx hXx hR
    rw [put_eqs hR rfl]
    simp only [putL, Act.put, List.setIfInBounds_toArray, List.set_cons_zero, List.set_cons_succ]
    clear hR
    replace hBE := Hh (hBE.out.trans ((bthen (below_drew _) (grow_below hXx)).mono hBE.out.size))
    replace HP := Hh (HP.out.on (bthen (below_drew _) (grow_below hXx)))
    replace HW := Hh (bthen HW.out (bthen (below_drew _) (grow_below hXx)))
    replace HTR := Hh (HTR.out.on (bthen (below_drew _) (grow_below hXx)))
    clear hXx
    go_wp2_with fail
    go_ret
    exact ⟨rfl, HW.out⟩
   rw [if_neg hpq] at hfd
   have HEQ := Hh (decide_eq_false hpq)
   have HPQ := Hh hpq
   clear hpq
   cases hcv : covP x.p p
   ·rw [hcv] at hfd
    have hr0 : r = 0 := by simpa using hfd.symm
    subst hr0
    have HCV := Hh hcv
    clear hfd hcv
    go_wp2_with fail
    refine wp_region_rel (fun A B => A.grownBy B none) (fun A => grown_refl A _) (fun A B C h k => grown_trans h k) (relAt (eqs [.int .i64 (k : Int), .bool true, .bool true, .pointer (some ⟨g, 0, none⟩), .pointer (some ⟨g, 0, none⟩), .pointer (some ⟨g, 3, none⟩), .slice (some ⟨bA, 0, none⟩) t.N.length c, .int .i64 (k : Int), .pointer (some ⟨bA, k * 22, none⟩), .pointer (some ⟨bA, k * 22, none⟩), .agg x.p.cells.toArray, .agg p.cells.toArray, .bool true, .bool true])) (MonoL.at_ (eqs_mono _)) (by kernel_rfl) (by kernel_rfl) ⟨?_, ?_, ?_, ?_, ?_, ?_, ?_, ?_, ?_, ?_, ?_, ?_, ?_, ?_, trivial⟩ ?_
    ·intro a vs W hX hR he hf K hK
     refine wn rfl ?_
     have e5 : a.eval (.tmp 5) = .int .i64 (k : Int) := hf 5 (by kernel_rfl)
     refine wV hK rfl ?_
     simp only [execOp, e5]
     try go_simp
    ·intro a vs W hX hR he hf K hK
     refine wn rfl ?_
     have e10 : a.eval (.tmp 10) = .int .i64 (k : Int) := eH he hR 0 (by kernel_rfl) rfl
     refine wV hK rfl ?_
     have h9 := HKN.out
     simp only [execOp, e10]
     go_simp
     try omega
    ·intro a vs W hX hR he hf K hK
     refine wn rfl ?_
     have e11 : a.eval (.tmp 11) = .bool true := eH he hR 1 (by kernel_rfl) rfl
     refine wV hK rfl ?_
     simp only [execOp, e11]
     try go_simp
    ·intro a vs W hX hR he hf K hK
     have e12 : a.eval (.tmp 12) = .bool true := eH he hR 2 (by kernel_rfl) rfl
     refine gT e12 rfl rfl rfl ?_
     have e0 : a.eval (.tmp 0) = .pointer (some ⟨g, 0, none⟩) := hf 0 (by kernel_rfl)
     refine wV hK rfl ?_
     simp only [execOp, e0]
     try go_simp
    ·intro a vs W hX hR he hf K hK
     have e12 : a.eval (.tmp 12) = .bool true := eH he hR 2 (by kernel_rfl) rfl
     refine gT e12 rfl rfl rfl ?_
     have e13 : a.eval (.tmp 13) = .pointer (some ⟨g, 0, none⟩) := eH he hR 3 (by kernel_rfl) rfl
     refine wV hK rfl ?_
     simp only [execOp, e13]
     try go_simp
    ·intro a vs W hX hR he hf K hK
     have e12 : a.eval (.tmp 12) = .bool true := eH he hR 2 (by kernel_rfl) rfl
     refine gT e12 rfl rfl rfl ?_
     have e14 : a.eval (.tmp 14) = .pointer (some ⟨g, 0, none⟩) := eH he hR 4 (by kernel_rfl) rfl
     refine wV hK rfl ?_
     simp only [execOp, e14]
     try go_simp
    ·intro a vs W hX hR he hf K hK
     have e12 : a.eval (.tmp 12) = .bool true := eH he hR 2 (by kernel_rfl) rfl
     refine gT e12 rfl rfl rfl ?_
     have e15 : a.eval (.tmp 15) = .pointer (some ⟨g, 3, none⟩) := eH he hR 5 (by kernel_rfl) rfl
     have hbW := bthen (below_drew _) (grow_below hX)
     have hc : W.cell? ⟨g, 3, none⟩ = some (.slice (some ⟨bA, 0, none⟩) t.N.length c) := (HTR.out.blk.on hbW).cell 3
     refine wV hK rfl ?_
     simp only [execOp, e15]
     try go_simp
    ·intro a vs W hX hR he hf K hK
     have e12 : a.eval (.tmp 12) = .bool true := eH he hR 2 (by kernel_rfl) rfl
     refine gT e12 rfl rfl rfl ?_
     have e5 : a.eval (.tmp 5) = .int .i64 (k : Int) := hf 5 (by kernel_rfl)
     refine wV hK rfl ?_
     simp only [execOp, e5]
     try go_simp
    ·intro a vs W hX hR he hf K hK
     have e12 : a.eval (.tmp 12) = .bool true := eH he hR 2 (by kernel_rfl) rfl
     refine gT e12 rfl rfl rfl ?_
     have e16 : a.eval (.tmp 16) = .slice (some ⟨bA, 0, none⟩) t.N.length c := eH he hR 6 (by kernel_rfl) rfl
     have e17 : a.eval (.tmp 17) = .int .i64 (k : Int) := eH he hR 7 (by kernel_rfl) rfl
     refine wV hK rfl ?_
     simp only [execOp, e16, e17]
     go_simp
    ·intro a vs W hX hR he hf K hK
     have e12 : a.eval (.tmp 12) = .bool true := eH he hR 2 (by kernel_rfl) rfl
     refine gT e12 rfl rfl rfl ?_
     have e18 : a.eval (.tmp 18) = .pointer (some ⟨bA, k * 22, none⟩) := eH he hR 8 (by kernel_rfl) rfl
     refine wV hK rfl ?_
     simp only [execOp, e18]
     try go_simp
    ·intro a vs W hX hR he hf K hK
     have e12 : a.eval (.tmp 12) = .bool true := eH he hR 2 (by kernel_rfl) rfl
     refine gT e12 rfl rfl rfl ?_
     have e19 : a.eval (.tmp 19) = .pointer (some ⟨bA, k * 22, none⟩) := eH he hR 9 (by kernel_rfl) rfl
     have hbW := bthen (below_drew _) (grow_below hX)
     exact wp_value (exec_load_mid 30 _ rfl bA (k * 22) e19 x.p.cells _ (range_below hbW HBA.out (Nd.px_range HXR.out)) Try.underlying30 rfl (sizePx _ HXF.out.addr)) (gK hK rfl)
    ·intro a vs W hX hR he hf K hK
     have e12 : a.eval (.tmp 12) = .bool true := eH he hR 2 (by kernel_rfl) rfl
     refine gT e12 rfl rfl rfl ?_
     have e3 : a.eval (.tmp 3) = .pointer (some ⟨g1, 0, none⟩) := hf 3 (by kernel_rfl)
     have hbW := bthen (below_drew _) (grow_below hX)
     exact wp_value (exec_load 30 _ rfl g1 e3 30 p.cells _ (HP.out.on hbW) Try.underlying30 rfl (sizePx _ HF.out.addr)) (gK hK rfl)
    ·intro a vs W hX hR he hf K hK
     have e12 : a.eval (.tmp 12) = .bool true := eH he hR 2 (by kernel_rfl) rfl
     refine gT e12 rfl rfl rfl ?_
     have e20 : a.eval (.tmp 20) = .agg x.p.cells.toArray := eH he hR 10 (by kernel_rfl) rfl
     have e21 : a.eval (.tmp 21) = .agg p.cells.toArray := eH he hR 11 (by kernel_rfl) rfl
     exact wp_value (exec_nePx _ _ _ rfl x.p p HXF.out.addr HF.out.addr false HEQ.out e20 e21) (gK hK rfl)
    ·intro a vs W hX hR he hf K hK
     refine wn rfl ?_
     have e12 : a.eval (.tmp 12) = .bool true := eH he hR 2 (by kernel_rfl) rfl
     have e22 : a.eval (.tmp 22) = .bool true := eH he hR 12 (by kernel_rfl) rfl
     refine wV hK rfl ?_
     simp only [execOp, e12, e22]
     try go_simp
    intro vs wx hXx hR
    rw [put_eqs hR rfl]
    simp only [putL, Act.put, List.setIfInBounds_toArray, List.set_cons_zero, List.set_cons_succ]
    clear hR
    replace hBE := Hh (hBE.out.trans ((bthen (below_drew _) (grow_below hXx)).mono hBE.out.size))
    replace HP := Hh (HP.out.on (bthen (below_drew _) (grow_below hXx)))
    replace HW := Hh (bthen HW.out (bthen (below_drew _) (grow_below hXx)))
    replace HTR := Hh (HTR.out.on (bthen (below_drew _) (grow_below hXx)))
    replace HXR := Hh (range_below (bthen (below_drew _) (grow_below hXx)) HBA.out HXR.out)
    replace HBA := Hh (Nat.lt_of_lt_of_le HBA.out (bthen (below_drew _) (grow_below hXx)).size)
    clear hXx
    go_wp2_with fail
    refine wp_region_rel (fun A B => A.grownBy B none) (fun A => grown_refl A _) (fun A B C h k => grown_trans h k) (relAt (eqs [.pointer (some ⟨g, 0, none⟩), .pointer (some ⟨g, 0, none⟩), .pointer (some ⟨g, 3, none⟩), .slice (some ⟨bA, 0, none⟩) t.N.length c, .int .i64 (k : Int), .pointer (some ⟨bA, k * 22, none⟩), .pointer (some ⟨bA, k * 22, none⟩), .agg x.p.cells.toArray, .agg p.cells.toArray, .bool false, .bool true, .bool true, undef, undef, undef, undef, undef, undef, undef, undef, undef, undef, undef, undef, .bool true])) (MonoL.at_ (eqs_mono _)) (by kernel_rfl) (by kernel_rfl) ⟨?_, ?_, ?_, ?_, ?_, ?_, ?_, ?_, ?_, ?_, ?_, ?_, ?_, ?_, ?_, ?_, ?_, ?_, ?_, ?_, ?_, ?_, ?_, ?_, ?_, trivial⟩ ?_
    ·intro a vs W hX hR he hf K hK
     refine wn rfl ?_
     have e0 : a.eval (.tmp 0) = .pointer (some ⟨g, 0, none⟩) := hf 0 (by kernel_rfl)
     refine wV hK rfl ?_
     simp only [execOp, e0]
     try go_simp
    ·intro a vs W hX hR he hf K hK
     refine wn rfl ?_
     have e24 : a.eval (.tmp 24) = .pointer (some ⟨g, 0, none⟩) := eH he hR 0 (by kernel_rfl) rfl
     refine wV hK rfl ?_
     simp only [execOp, e24]
     try go_simp
    ·intro a vs W hX hR he hf K hK
     refine wn rfl ?_
     have e25 : a.eval (.tmp 25) = .pointer (some ⟨g, 0, none⟩) := eH he hR 1 (by kernel_rfl) rfl
     refine wV hK rfl ?_
     simp only [execOp, e25]
     try go_simp
    ·intro a vs W hX hR he hf K hK
     refine wn rfl ?_
     have e26 : a.eval (.tmp 26) = .pointer (some ⟨g, 3, none⟩) := eH he hR 2 (by kernel_rfl) rfl
     have hbW := bthen (below_drew _) (grow_below hX)
     have hc : W.cell? ⟨g, 3, none⟩ = some (.slice (some ⟨bA, 0, none⟩) t.N.length c) := (HTR.out.blk.on hbW).cell 3
     refine wV hK rfl ?_
     simp only [execOp, e26]
     try go_simp
    ·intro a vs W hX hR he hf K hK
     refine wn rfl ?_
     have e5 : a.eval (.tmp 5) = .int .i64 (k : Int) := hf 5 (by kernel_rfl)
     refine wV hK rfl ?_
     simp only [execOp, e5]
     try go_simp
    ·intro a vs W hX hR he hf K hK
     refine wn rfl ?_
     have e27 : a.eval (.tmp 27) = .slice (some ⟨bA, 0, none⟩) t.N.length c := eH he hR 3 (by kernel_rfl) rfl
     have e28 : a.eval (.tmp 28) = .int .i64 (k : Int) := eH he hR 4 (by kernel_rfl) rfl
     refine wV hK rfl ?_
     simp only [execOp, e27, e28]
     go_simp
    ·intro a vs W hX hR he hf K hK
     refine wn rfl ?_
     have e29 : a.eval (.tmp 29) = .pointer (some ⟨bA, k * 22, none⟩) := eH he hR 5 (by kernel_rfl) rfl
     refine wV hK rfl ?_
     simp only [execOp, e29]
     try go_simp
    ·intro a vs W hX hR he hf K hK
     refine wn rfl ?_
     have e30 : a.eval (.tmp 30) = .pointer (some ⟨bA, k * 22, none⟩) := eH he hR 6 (by kernel_rfl) rfl
     have hbW := bthen (below_drew _) (grow_below hX)
     exact wp_value (exec_load_mid 30 _ rfl bA (k * 22) e30 x.p.cells _ (range_below hbW HBA.out (Nd.px_range HXR.out)) Try.underlying30 rfl (sizePx _ HXF.out.addr)) (gK hK rfl)
    ·intro a vs W hX hR he hf K hK
     refine wn rfl ?_
     have e3 : a.eval (.tmp 3) = .pointer (some ⟨g1, 0, none⟩) := hf 3 (by kernel_rfl)
     have hbW := bthen (below_drew _) (grow_below hX)
     exact wp_value (exec_load 30 _ rfl g1 e3 30 p.cells _ (HP.out.on hbW) Try.underlying30 rfl (sizePx _ HF.out.addr)) (gK hK rfl)
    ·intro a vs W hX hR he hf K hK
     refine wn rfl ?_
     have e31 : a.eval (.tmp 31) = .agg x.p.cells.toArray := eH he hR 7 (by kernel_rfl) rfl
     have e32 : a.eval (.tmp 32) = .agg p.cells.toArray := eH he hR 8 (by kernel_rfl) rfl
     refine wp_enter (f := 40) (args := #[.agg x.p.cells.toArray, .agg p.cells.toArray]) (by simp only [execOp, e31, e32]; go_simp; exact ⟨by simpa [Act.eval] using e31, by simpa [Act.eval] using e32⟩) ((covers_any x.p HXF.out p HF.out W).mono ?_)
     rintro e w' ⟨rfl, hb⟩
     rw [HCV.out]
     exact ⟨_, rfl, hK _ _ rfl (below_grow hb _)⟩
    ·intro a vs W hX hR he hf K hK
     refine wn rfl ?_
     have e33 : a.eval (.tmp 33) = .bool false := eH he hR 9 (by kernel_rfl) rfl
     refine wV hK rfl ?_
     simp only [execOp, e33]
     try go_simp
    ·intro a vs W hX hR he hf K hK
     refine wn rfl ?_
     have e34 : a.eval (.tmp 34) = .bool true := eH he hR 10 (by kernel_rfl) rfl
     refine wV hK rfl ?_
     simp only [execOp, e34]
     try go_simp
    ·intro a vs W hX hR he hf K hK
     have e35 : a.eval (.tmp 35) = .bool true := eH he hR 11 (by kernel_rfl) rfl
     exact gN e35 rfl rfl rfl (gK hK rfl)
    ·intro a vs W hX hR he hf K hK
     have e35 : a.eval (.tmp 35) = .bool true := eH he hR 11 (by kernel_rfl) rfl
     exact gN e35 rfl rfl rfl (gK hK rfl)
    ·intro a vs W hX hR he hf K hK
     have e35 : a.eval (.tmp 35) = .bool true := eH he hR 11 (by kernel_rfl) rfl
     exact gN e35 rfl rfl rfl (gK hK rfl)
    ·intro a vs W hX hR he hf K hK
     have e35 : a.eval (.tmp 35) = .bool true := eH he hR 11 (by kernel_rfl) rfl
     exact gN e35 rfl rfl rfl (gK hK rfl)
    ·intro a vs W hX hR he hf K hK
     have e35 : a.eval (.tmp 35) = .bool true := eH he hR 11 (by kernel_rfl) rfl
     exact gN e35 rfl rfl rfl (gK hK rfl)
    ·intro a vs W hX hR he hf K hK
     have e35 : a.eval (.tmp 35) = .bool true := eH he hR 11 (by kernel_rfl) rfl
     exact gN e35 rfl rfl rfl (gK hK rfl)
    ·intro a vs W hX hR he hf K hK
     have e35 : a.eval (.tmp 35) = .bool true := eH he hR 11 (by kernel_rfl) rfl
     exact gN e35 rfl rfl rfl (gK hK rfl)
    ·intro a vs W hX hR he hf K hK
     have e35 : a.eval (.tmp 35) = .bool true := eH he hR 11 (by kernel_rfl) rfl
     exact gN e35 rfl rfl rfl (gK hK rfl)
    ·intro a vs W hX hR he hf K hK
     have e35 : a.eval (.tmp 35) = .bool true := eH he hR 11 (by kernel_rfl) rfl
     exact gN e35 rfl rfl rfl (gK hK rfl)
    ·intro a vs W hX hR he hf K hK
     have e35 : a.eval (.tmp 35) = .bool true := eH he hR 11 (by kernel_rfl) rfl
     exact gN e35 rfl rfl rfl (gK hK rfl)
    ·intro a vs W hX hR he hf K hK
     have e35 : a.eval (.tmp 35) = .bool true := eH he hR 11 (by kernel_rfl) rfl
     exact gN e35 rfl rfl rfl (gK hK rfl)
    ·intro a vs W hX hR he hf K hK
     have e35 : a.eval (.tmp 35) = .bool true := eH he hR 11 (by kernel_rfl) rfl
     exact gN e35 rfl rfl rfl (gK hK rfl)
    ·intro a vs W hX hR he hf K hK
     refine wn rfl ?_
     have e35 : a.eval (.tmp 35) = .bool true := eH he hR 11 (by kernel_rfl) rfl
     have e47 : a.eval (.tmp 47) = undef := eH he hR 23 (by kernel_rfl) rfl
     refine wV hK rfl ?_
     simp only [execOp, e35, e47]
     try go_simp
    intro vs wx hXx hR
    rw [put_eqs hR rfl]
    simp only [putL, Act.put, List.setIfInBounds_toArray, List.set_cons_zero, List.set_cons_succ]
    clear hR
    replace hBE := Hh (hBE.out.trans ((bthen (below_drew _) (grow_below hXx)).mono hBE.out.size))
    replace HP := Hh (HP.out.on (bthen (below_drew _) (grow_below hXx)))
    replace HW := Hh (bthen HW.out (bthen (below_drew _) (grow_below hXx)))
    replace HTR := Hh (HTR.out.on (bthen (below_drew _) (grow_below hXx)))
    clear hXx
    go_wp2_with fail
    go_ret
    exact ⟨rfl, HW.out⟩
   rw [hcv, Bool.true_and] at hfd
   have HCV := Hh hcv
   by_cases hle : x.p.len = p.len
   ·rw [decide_eq_true hle] at hfd
    have hr0 : r = 0 := by simpa using hfd.symm
    subst hr0
    have HLE := Hh hle
    clear hfd hcv hle
    go_wp2_with fail
    refine wp_region_rel (fun A B => A.grownBy B none) (fun A => grown_refl A _) (fun A B C h k => grown_trans h k) (relAt (eqs [.int .i64 (k : Int), .bool true, .bool true, .pointer (some ⟨g, 0, none⟩), .pointer (some ⟨g, 0, none⟩), .pointer (some ⟨g, 3, none⟩), .slice (some ⟨bA, 0, none⟩) t.N.length c, .int .i64 (k : Int), .pointer (some ⟨bA, k * 22, none⟩), .pointer (some ⟨bA, k * 22, none⟩), .agg x.p.cells.toArray, .agg p.cells.toArray, .bool true, .bool true])) (MonoL.at_ (eqs_mono _)) (by kernel_rfl) (by kernel_rfl) ⟨?_, ?_, ?_, ?_, ?_, ?_, ?_, ?_, ?_, ?_, ?_, ?_, ?_, ?_, trivial⟩ ?_
    ·intro a vs W hX hR he hf K hK
     refine wn rfl ?_
     have e5 : a.eval (.tmp 5) = .int .i64 (k : Int) := hf 5 (by kernel_rfl)
     refine wV hK rfl ?_
     simp only [execOp, e5]
     try go_simp
    ·intro a vs W hX hR he hf K hK
     refine wn rfl ?_
     have e10 : a.eval (.tmp 10) = .int .i64 (k : Int) := eH he hR 0 (by kernel_rfl) rfl
     refine wV hK rfl ?_
     have h9 := HKN.out
     simp only [execOp, e10]
     go_simp
     try omega
    ·intro a vs W hX hR he hf K hK
     refine wn rfl ?_
     have e11 : a.eval (.tmp 11) = .bool true := eH he hR 1 (by kernel_rfl) rfl
     refine wV hK rfl ?_
     simp only [execOp, e11]
     try go_simp
    ·intro a vs W hX hR he hf K hK
     have e12 : a.eval (.tmp 12) = .bool true := eH he hR 2 (by kernel_rfl) rfl
     refine gT e12 rfl rfl rfl ?_
     have e0 : a.eval (.tmp 0) = .pointer (some ⟨g, 0, none⟩) := hf 0 (by kernel_rfl)
     refine wV hK rfl ?_
     simp only [execOp, e0]
     try go_simp
    ·intro a vs W hX hR he hf K hK
     have e12 : a.eval (.tmp 12) = .bool true := eH he hR 2 (by kernel_rfl) rfl
     refine gT e12 rfl rfl rfl ?_
     have e13 : a.eval (.tmp 13) = .pointer (some ⟨g, 0, none⟩) := eH he hR 3 (by kernel_rfl) rfl
     refine wV hK rfl ?_
     simp only [execOp, e13]
     try go_simp
    ·intro a vs W hX hR he hf K hK
     have e12 : a.eval (.tmp 12) = .bool true := eH he hR 2 (by kernel_rfl) rfl
     refine gT e12 rfl rfl rfl ?_
     have e14 : a.eval (.tmp 14) = .pointer (some ⟨g, 0, none⟩) := eH he hR 4 (by kernel_rfl) rfl
     refine wV hK rfl ?_
     simp only [execOp, e14]
     try go_simp
    ·intro a vs W hX hR he hf K hK
     have e12 : a.eval (.tmp 12) = .bool true := eH he hR 2 (by kernel_rfl) rfl
     refine gT e12 rfl rfl rfl ?_
     have e15 : a.eval (.tmp 15) = .pointer (some ⟨g, 3, none⟩) := eH he hR 5 (by kernel_rfl) rfl
     have hbW := bthen (below_drew _) (grow_below hX)
     have hc : W.cell? ⟨g, 3, none⟩ = some (.slice (some ⟨bA, 0, none⟩) t.N.length c) := (HTR.out.blk.on hbW).cell 3
     refine wV hK rfl ?_
     simp only [execOp, e15]
     try go_simp
    ·intro a vs W hX hR he hf K hK
     have e12 : a.eval (.tmp 12) = .bool true := eH he hR 2 (by kernel_rfl) rfl
     refine gT e12 rfl rfl rfl ?_
     have e5 : a.eval (.tmp 5) = .int .i64 (k : Int) := hf 5 (by kernel_rfl)
     refine wV hK rfl ?_
     simp only [execOp, e5]
     try go_simp
    ·intro a vs W hX hR he hf K hK
     have e12 : a.eval (.tmp 12) = .bool true := eH he hR 2 (by kernel_rfl) rfl
     refine gT e12 rfl rfl rfl ?_
     have e16 : a.eval (.tmp 16) = .slice (some ⟨bA, 0, none⟩) t.N.length c := eH he hR 6 (by kernel_rfl) rfl
     have e17 : a.eval (.tmp 17) = .int .i64 (k : Int) := eH he hR 7 (by kernel_rfl) rfl
     refine wV hK rfl ?_
     simp only [execOp, e16, e17]
     go_simp
    ·intro a vs W hX hR he hf K hK
     have e12 : a.eval (.tmp 12) = .bool true := eH he hR 2 (by kernel_rfl) rfl
     refine gT e12 rfl rfl rfl ?_
     have e18 : a.eval (.tmp 18) = .pointer (some ⟨bA, k * 22, none⟩) := eH he hR 8 (by kernel_rfl) rfl
     refine wV hK rfl ?_
     simp only [execOp, e18]
     try go_simp
    ·intro a vs W hX hR he hf K hK
     have e12 : a.eval (.tmp 12) = .bool true := eH he hR 2 (by kernel_rfl) rfl
     refine gT e12 rfl rfl rfl ?_
     have e19 : a.eval (.tmp 19) = .pointer (some ⟨bA, k * 22, none⟩) := eH he hR 9 (by kernel_rfl) rfl
     have hbW := bthen (below_drew _) (grow_below hX)
     exact wp_value (exec_load_mid 30 _ rfl bA (k * 22) e19 x.p.cells _ (range_below hbW HBA.out (Nd.px_range HXR.out)) Try.underlying30 rfl (sizePx _ HXF.out.addr)) (gK hK rfl)
    ·intro a vs W hX hR he hf K hK
     have e12 : a.eval (.tmp 12) = .bool true := eH he hR 2 (by kernel_rfl) rfl
     refine gT e12 rfl rfl rfl ?_
     have e3 : a.eval (.tmp 3) = .pointer (some ⟨g1, 0, none⟩) := hf 3 (by kernel_rfl)
     have hbW := bthen (below_drew _) (grow_below hX)
     exact wp_value (exec_load 30 _ rfl g1 e3 30 p.cells _ (HP.out.on hbW) Try.underlying30 rfl (sizePx _ HF.out.addr)) (gK hK rfl)
    ·intro a vs W hX hR he hf K hK
     have e12 : a.eval (.tmp 12) = .bool true := eH he hR 2 (by kernel_rfl) rfl
     refine gT e12 rfl rfl rfl ?_
     have e20 : a.eval (.tmp 20) = .agg x.p.cells.toArray := eH he hR 10 (by kernel_rfl) rfl
     have e21 : a.eval (.tmp 21) = .agg p.cells.toArray := eH he hR 11 (by kernel_rfl) rfl
     exact wp_value (exec_nePx _ _ _ rfl x.p p HXF.out.addr HF.out.addr false HEQ.out e20 e21) (gK hK rfl)
    ·intro a vs W hX hR he hf K hK
     refine wn rfl ?_
     have e12 : a.eval (.tmp 12) = .bool true := eH he hR 2 (by kernel_rfl) rfl
     have e22 : a.eval (.tmp 22) = .bool true := eH he hR 12 (by kernel_rfl) rfl
     refine wV hK rfl ?_
     simp only [execOp, e12, e22]
     try go_simp
    intro vs wx hXx hR
    rw [put_eqs hR rfl]
    simp only [putL, Act.put, List.setIfInBounds_toArray, List.set_cons_zero, List.set_cons_succ]
    clear hR
    replace hBE := Hh (hBE.out.trans ((bthen (below_drew _) (grow_below hXx)).mono hBE.out.size))
    replace HP := Hh (HP.out.on (bthen (below_drew _) (grow_below hXx)))
    replace HW := Hh (bthen HW.out (bthen (below_drew _) (grow_below hXx)))
    replace HTR := Hh (HTR.out.on (bthen (below_drew _) (grow_below hXx)))
    replace HXR := Hh (range_below (bthen (below_drew _) (grow_below hXx)) HBA.out HXR.out)
    replace HBA := Hh (Nat.lt_of_lt_of_le HBA.out (bthen (below_drew _) (grow_below hXx)).size)
    clear hXx
    go_wp2_with fail
    refine wp_region_rel (fun A B => A.grownBy B none) (fun A => grown_refl A _) (fun A B C h k => grown_trans h k) (relAt (eqs [.pointer (some ⟨g, 0, none⟩), .pointer (some ⟨g, 0, none⟩), .pointer (some ⟨g, 3, none⟩), .slice (some ⟨bA, 0, none⟩) t.N.length c, .int .i64 (k : Int), .pointer (some ⟨bA, k * 22, none⟩), .pointer (some ⟨bA, k * 22, none⟩), .agg x.p.cells.toArray, .agg p.cells.toArray, .bool true, .bool false, .bool false, .pointer (some ⟨g, 0, none⟩), .pointer (some ⟨g, 0, none⟩), .pointer (some ⟨g, 3, none⟩), .slice (some ⟨bA, 0, none⟩) t.N.length c, .int .i64 (k : Int), .pointer (some ⟨bA, k * 22, none⟩), .pointer (some ⟨bA, k * 22, none⟩), .pointer (some ⟨bA, k * 22 + 17, none⟩), .int .i64 x.p.len, .pointer (some ⟨g1, 17, none⟩), .int .i64 p.len, .bool true, .bool true])) (MonoL.at_ (eqs_mono _)) (by kernel_rfl) (by kernel_rfl) ⟨?_, ?_, ?_, ?_, ?_, ?_, ?_, ?_, ?_, ?_, ?_, ?_, ?_, ?_, ?_, ?_, ?_, ?_, ?_, ?_, ?_, ?_, ?_, ?_, ?_, trivial⟩ ?_
    ·intro a vs W hX hR he hf K hK
     refine wn rfl ?_
     have e0 : a.eval (.tmp 0) = .pointer (some ⟨g, 0, none⟩) := hf 0 (by kernel_rfl)
     refine wV hK rfl ?_
     simp only [execOp, e0]
     try go_simp
    ·intro a vs W hX hR he hf K hK
     refine wn rfl ?_
     have e24 : a.eval (.tmp 24) = .pointer (some ⟨g, 0, none⟩) := eH he hR 0 (by kernel_rfl) rfl
     refine wV hK rfl ?_
     simp only [execOp, e24]
     try go_simp
    ·intro a vs W hX hR he hf K hK
     refine wn rfl ?_
     have e25 : a.eval (.tmp 25) = .pointer (some ⟨g, 0, none⟩) := eH he hR 1 (by kernel_rfl) rfl
     refine wV hK rfl ?_
     simp only [execOp, e25]
     try go_simp
    ·intro a vs W hX hR he hf K hK
     refine wn rfl ?_
     have e26 : a.eval (.tmp 26) = .pointer (some ⟨g, 3, none⟩) := eH he hR 2 (by kernel_rfl) rfl
     have hbW := bthen (below_drew _) (grow_below hX)
     have hc : W.cell? ⟨g, 3, none⟩ = some (.slice (some ⟨bA, 0, none⟩) t.N.length c) := (HTR.out.blk.on hbW).cell 3
     refine wV hK rfl ?_
     simp only [execOp, e26]
     try go_simp
    ·intro a vs W hX hR he hf K hK
     refine wn rfl ?_
     have e5 : a.eval (.tmp 5) = .int .i64 (k : Int) := hf 5 (by kernel_rfl)
     refine wV hK rfl ?_
     simp only [execOp, e5]
     try go_simp
    ·intro a vs W hX hR he hf K hK
     refine wn rfl ?_
     have e27 : a.eval (.tmp 27) = .slice (some ⟨bA, 0, none⟩) t.N.length c := eH he hR 3 (by kernel_rfl) rfl
     have e28 : a.eval (.tmp 28) = .int .i64 (k : Int) := eH he hR 4 (by kernel_rfl) rfl
     refine wV hK rfl ?_
     simp only [execOp, e27, e28]
     go_simp
    ·intro a vs W hX hR he hf K hK
     refine wn rfl ?_
     have e29 : a.eval (.tmp 29) = .pointer (some ⟨bA, k * 22, none⟩) := eH he hR 5 (by kernel_rfl) rfl
     refine wV hK rfl ?_
     simp only [execOp, e29]
     try go_simp
    ·intro a vs W hX hR he hf K hK
     refine wn rfl ?_
     have e30 : a.eval (.tmp 30) = .pointer (some ⟨bA, k * 22, none⟩) := eH he hR 6 (by kernel_rfl) rfl
     have hbW := bthen (below_drew _) (grow_below hX)
     exact wp_value (exec_load_mid 30 _ rfl bA (k * 22) e30 x.p.cells _ (range_below hbW HBA.out (Nd.px_range HXR.out)) Try.underlying30 rfl (sizePx _ HXF.out.addr)) (gK hK rfl)
    ·intro a vs W hX hR he hf K hK
     refine wn rfl ?_
     have e3 : a.eval (.tmp 3) = .pointer (some ⟨g1, 0, none⟩) := hf 3 (by kernel_rfl)
     have hbW := bthen (below_drew _) (grow_below hX)
     exact wp_value (exec_load 30 _ rfl g1 e3 30 p.cells _ (HP.out.on hbW) Try.underlying30 rfl (sizePx _ HF.out.addr)) (gK hK rfl)
    ·intro a vs W hX hR he hf K hK
     refine wn rfl ?_
     have e31 : a.eval (.tmp 31) = .agg x.p.cells.toArray := eH he hR 7 (by kernel_rfl) rfl
     have e32 : a.eval (.tmp 32) = .agg p.cells.toArray := eH he hR 8 (by kernel_rfl) rfl
     refine wp_enter (f := 40) (args := #[.agg x.p.cells.toArray, .agg p.cells.toArray]) (by simp only [execOp, e31, e32]; go_simp; exact ⟨by simpa [Act.eval] using e31, by simpa [Act.eval] using e32⟩) ((covers_any x.p HXF.out p HF.out W).mono ?_)
     rintro e w' ⟨rfl, hb⟩
     rw [HCV.out]
     exact ⟨_, rfl, hK _ _ rfl (below_grow hb _)⟩
    ·intro a vs W hX hR he hf K hK
     refine wn rfl ?_
     have e33 : a.eval (.tmp 33) = .bool true := eH he hR 9 (by kernel_rfl) rfl
     refine wV hK rfl ?_
     simp only [execOp, e33]
     try go_simp
    ·intro a vs W hX hR he hf K hK
     refine wn rfl ?_
     have e34 : a.eval (.tmp 34) = .bool false := eH he hR 10 (by kernel_rfl) rfl
     refine wV hK rfl ?_
     simp only [execOp, e34]
     try go_simp
    ·intro a vs W hX hR he hf K hK
     have e35 : a.eval (.tmp 35) = .bool false := eH he hR 11 (by kernel_rfl) rfl
     refine gT e35 rfl rfl rfl ?_
     have e0 : a.eval (.tmp 0) = .pointer (some ⟨g, 0, none⟩) := hf 0 (by kernel_rfl)
     refine wV hK rfl ?_
     simp only [execOp, e0]
     try go_simp
    ·intro a vs W hX hR he hf K hK
     have e35 : a.eval (.tmp 35) = .bool false := eH he hR 11 (by kernel_rfl) rfl
     refine gT e35 rfl rfl rfl ?_
     have e36 : a.eval (.tmp 36) = .pointer (some ⟨g, 0, none⟩) := eH he hR 12 (by kernel_rfl) rfl
     refine wV hK rfl ?_
     simp only [execOp, e36]
     try go_simp
    ·intro a vs W hX hR he hf K hK
     have e35 : a.eval (.tmp 35) = .bool false := eH he hR 11 (by kernel_rfl) rfl
     refine gT e35 rfl rfl rfl ?_
     have e37 : a.eval (.tmp 37) = .pointer (some ⟨g, 0, none⟩) := eH he hR 13 (by kernel_rfl) rfl
     refine wV hK rfl ?_
     simp only [execOp, e37]
     try go_simp
    ·intro a vs W hX hR he hf K hK
     have e35 : a.eval (.tmp 35) = .bool false := eH he hR 11 (by kernel_rfl) rfl
     refine gT e35 rfl rfl rfl ?_
     have e38 : a.eval (.tmp 38) = .pointer (some ⟨g, 3, none⟩) := eH he hR 14 (by kernel_rfl) rfl
     have hbW := bthen (below_drew _) (grow_below hX)
     have hc : W.cell? ⟨g, 3, none⟩ = some (.slice (some ⟨bA, 0, none⟩) t.N.length c) := (HTR.out.blk.on hbW).cell 3
     refine wV hK rfl ?_
     simp only [execOp, e38]
     try go_simp
    ·intro a vs W hX hR he hf K hK
     have e35 : a.eval (.tmp 35) = .bool false := eH he hR 11 (by kernel_rfl) rfl
     refine gT e35 rfl rfl rfl ?_
     have e5 : a.eval (.tmp 5) = .int .i64 (k : Int) := hf 5 (by kernel_rfl)
     refine wV hK rfl ?_
     simp only [execOp, e5]
     try go_simp
    ·intro a vs W hX hR he hf K hK
     have e35 : a.eval (.tmp 35) = .bool false := eH he hR 11 (by kernel_rfl) rfl
     refine gT e35 rfl rfl rfl ?_
     have e39 : a.eval (.tmp 39) = .slice (some ⟨bA, 0, none⟩) t.N.length c := eH he hR 15 (by kernel_rfl) rfl
     have e40 : a.eval (.tmp 40) = .int .i64 (k : Int) := eH he hR 16 (by kernel_rfl) rfl
     refine wV hK rfl ?_
     simp only [execOp, e39, e40]
     go_simp
    ·intro a vs W hX hR he hf K hK
     have e35 : a.eval (.tmp 35) = .bool false := eH he hR 11 (by kernel_rfl) rfl
     refine gT e35 rfl rfl rfl ?_
     have e41 : a.eval (.tmp 41) = .pointer (some ⟨bA, k * 22, none⟩) := eH he hR 17 (by kernel_rfl) rfl
     refine wV hK rfl ?_
     simp only [execOp, e41]
     try go_simp
    ·intro a vs W hX hR he hf K hK
     have e35 : a.eval (.tmp 35) = .bool false := eH he hR 11 (by kernel_rfl) rfl
     refine gT e35 rfl rfl rfl ?_
     have e42 : a.eval (.tmp 42) = .pointer (some ⟨bA, k * 22, none⟩) := eH he hR 18 (by kernel_rfl) rfl
     refine wV hK rfl ?_
     simp only [execOp, e42]
     try go_simp
    ·intro a vs W hX hR he hf K hK
     have e35 : a.eval (.tmp 35) = .bool false := eH he hR 11 (by kernel_rfl) rfl
     refine gT e35 rfl rfl rfl ?_
     have e43 : a.eval (.tmp 43) = .pointer (some ⟨bA, k * 22 + 17, none⟩) := eH he hR 19 (by kernel_rfl) rfl
     have hbW := bthen (below_drew _) (grow_below hX)
     have hc : W.cell? ⟨bA, k * 22 + 17, none⟩ = some (.int .i64 x.p.len) := range_below hbW HBA.out HXR.out 17 _ (x.get_len HXF.out.addr)
     refine wV hK rfl ?_
     simp only [execOp, e43]
     try go_simp
    ·intro a vs W hX hR he hf K hK
     have e35 : a.eval (.tmp 35) = .bool false := eH he hR 11 (by kernel_rfl) rfl
     refine gT e35 rfl rfl rfl ?_
     have e3 : a.eval (.tmp 3) = .pointer (some ⟨g1, 0, none⟩) := hf 3 (by kernel_rfl)
     refine wV hK rfl ?_
     simp only [execOp, e3]
     try go_simp
    ·intro a vs W hX hR he hf K hK
     have e35 : a.eval (.tmp 35) = .bool false := eH he hR 11 (by kernel_rfl) rfl
     refine gT e35 rfl rfl rfl ?_
     have e45 : a.eval (.tmp 45) = .pointer (some ⟨g1, 17, none⟩) := eH he hR 21 (by kernel_rfl) rfl
     have hbW := bthen (below_drew _) (grow_below hX)
     have hc : W.cell? ⟨g1, 17, none⟩ = some (.int .i64 p.len) := ((HP.out.on hbW).cell 17).trans (p.get_len HF.out.addr)
     refine wV hK rfl ?_
     simp only [execOp, e45]
     try go_simp
    ·intro a vs W hX hR he hf K hK
     have e35 : a.eval (.tmp 35) = .bool false := eH he hR 11 (by kernel_rfl) rfl
     refine gT e35 rfl rfl rfl ?_
     have e44 : a.eval (.tmp 44) = .int .i64 x.p.len := eH he hR 20 (by kernel_rfl) rfl
     have e46 : a.eval (.tmp 46) = .int .i64 p.len := eH he hR 22 (by kernel_rfl) rfl
     refine wV hK rfl ?_
     have h9 := HLE.out
     simp only [execOp, e44, e46]
     go_simp
     try omega
    ·intro a vs W hX hR he hf K hK
     refine wn rfl ?_
     have e35 : a.eval (.tmp 35) = .bool false := eH he hR 11 (by kernel_rfl) rfl
     have e47 : a.eval (.tmp 47) = .bool true := eH he hR 23 (by kernel_rfl) rfl
     refine wV hK rfl ?_
     simp only [execOp, e35, e47]
     try go_simp
    intro vs wx hXx hR
    rw [put_eqs hR rfl]
    simp only [putL, Act.put, List.setIfInBounds_toArray, List.set_cons_zero, List.set_cons_succ]
    clear hR
    replace hBE := Hh (hBE.out.trans ((bthen (below_drew _) (grow_below hXx)).mono hBE.out.size))
    replace HP := Hh (HP.out.on (bthen (below_drew _) (grow_below hXx)))
    replace HW := Hh (bthen HW.out (bthen (below_drew _) (grow_below hXx)))
    replace HTR := Hh (HTR.out.on (bthen (below_drew _) (grow_below hXx)))
    clear hXx
    go_wp2_with fail
    go_ret
    exact ⟨rfl, HW.out⟩
   have hcond := decide_eq_false hle
   rw [hcond] at hfd
   simp only [Bool.not_false, if_true] at hfd
   have HFN := Hh hfd
   have HLE := Hh hle
   have HCT := Hh (show (covP x.p p && !(decide (x.p.len = p.len))) = true by rw [hcv, hcond]; rfl)
   obtain ⟨s, hs⟩ : ∃ s, bitN p.addr x.p.len = s := ⟨_, rfl⟩
   have hs2 : (s : Int) < 2 := by rw [← hs]; have := bitN_lt p.addr x.p.len; omega
   have HS := Hh hs
   clear hfd hcv hle hcond hs
   go_wp2_with fail
   refine wp_region_rel (fun A B => A.grownBy B none) (fun A => grown_refl A _) (fun A B C h k => grown_trans h k) (relAt (eqs [.int .i64 (k : Int), .bool true, .bool true, .pointer (some ⟨g, 0, none⟩), .pointer (some ⟨g, 0, none⟩), .pointer (some ⟨g, 3, none⟩), .slice (some ⟨bA, 0, none⟩) t.N.length c, .int .i64 (k : Int), .pointer (some ⟨bA, k * 22, none⟩), .pointer (some ⟨bA, k * 22, none⟩), .agg x.p.cells.toArray, .agg p.cells.toArray, .bool true, .bool true])) (MonoL.at_ (eqs_mono _)) (by kernel_rfl) (by kernel_rfl) ⟨?_, ?_, ?_, ?_, ?_, ?_, ?_, ?_, ?_, ?_, ?_, ?_, ?_, ?_, trivial⟩ ?_
   ·intro a vs W hX hR he hf K hK
    refine wn rfl ?_
    have e5 : a.eval (.tmp 5) = .int .i64 (k : Int) := hf 5 (by kernel_rfl)
    refine wV hK rfl ?_
    simp only [execOp, e5]
    try go_simp
   ·intro a vs W hX hR he hf K hK
    refine wn rfl ?_
    have e10 : a.eval (.tmp 10) = .int .i64 (k : Int) := eH he hR 0 (by kernel_rfl) rfl
    refine wV hK rfl ?_
    have h9 := HKN.out
    simp only [execOp, e10]
    go_simp
    try omega
   ·intro a vs W hX hR he hf K hK
    refine wn rfl ?_
    have e11 : a.eval (.tmp 11) = .bool true := eH he hR 1 (by kernel_rfl) rfl
    refine wV hK rfl ?_
    simp only [execOp, e11]
    try go_simp
   ·intro a vs W hX hR he hf K hK
    have e12 : a.eval (.tmp 12) = .bool true := eH he hR 2 (by kernel_rfl) rfl
    refine gT e12 rfl rfl rfl ?_
    have e0 : a.eval (.tmp 0) = .pointer (some ⟨g, 0, none⟩) := hf 0 (by kernel_rfl)
    refine wV hK rfl ?_
    simp only [execOp, e0]
    try go_simp
   ·intro a vs W hX hR he hf K hK
    have e12 : a.eval (.tmp 12) = .bool true := eH he hR 2 (by kernel_rfl) rfl
    refine gT e12 rfl rfl rfl ?_
    have e13 : a.eval (.tmp 13) = .pointer (some ⟨g, 0, none⟩) := eH he hR 3 (by kernel_rfl) rfl
    refine wV hK rfl ?_
    simp only [execOp, e13]
    try go_simp
   ·intro a vs W hX hR he hf K hK
    have e12 : a.eval (.tmp 12) = .bool true := eH he hR 2 (by kernel_rfl) rfl
    refine gT e12 rfl rfl rfl ?_
    have e14 : a.eval (.tmp 14) = .pointer (some ⟨g, 0, none⟩) := eH he hR 4 (by kernel_rfl) rfl
    refine wV hK rfl ?_
    simp only [execOp, e14]
    try go_simp
   ·intro a vs W hX hR he hf K hK
    have e12 : a.eval (.tmp 12) = .bool true := eH he hR 2 (by kernel_rfl) rfl
    refine gT e12 rfl rfl rfl ?_
    have e15 : a.eval (.tmp 15) = .pointer (some ⟨g, 3, none⟩) := eH he hR 5 (by kernel_rfl) rfl
    have hbW := bthen (below_drew _) (grow_below hX)
    have hc : W.cell? ⟨g, 3, none⟩ = some (.slice (some ⟨bA, 0, none⟩) t.N.length c) := (HTR.out.blk.on hbW).cell 3
    refine wV hK rfl ?_
    simp only [execOp, e15]
    try go_simp
   ·intro a vs W hX hR he hf K hK
    have e12 : a.eval (.tmp 12) = .bool true := eH he hR 2 (by kernel_rfl) rfl
    refine gT e12 rfl rfl rfl ?_
    have e5 : a.eval (.tmp 5) = .int .i64 (k : Int) := hf 5 (by kernel_rfl)
    refine wV hK rfl ?_
    simp only [execOp, e5]
    try go_simp
   ·intro a vs W hX hR he hf K hK
    have e12 : a.eval (.tmp 12) = .bool true := eH he hR 2 (by kernel_rfl) rfl
    refine gT e12 rfl rfl rfl ?_
    have e16 : a.eval (.tmp 16) = .slice (some ⟨bA, 0, none⟩) t.N.length c := eH he hR 6 (by kernel_rfl) rfl
    have e17 : a.eval (.tmp 17) = .int .i64 (k : Int) := eH he hR 7 (by kernel_rfl) rfl
    refine wV hK rfl ?_
    simp only [execOp, e16, e17]
    go_simp
   ·intro a vs W hX hR he hf K hK
    have e12 : a.eval (.tmp 12) = .bool true := eH he hR 2 (by kernel_rfl) rfl
    refine gT e12 rfl rfl rfl ?_
    have e18 : a.eval (.tmp 18) = .pointer (some ⟨bA, k * 22, none⟩) := eH he hR 8 (by kernel_rfl) rfl
    refine wV hK rfl ?_
    simp only [execOp, e18]
    try go_simp
   ·intro a vs W hX hR he hf K hK
    have e12 : a.eval (.tmp 12) = .bool true := eH he hR 2 (by kernel_rfl) rfl
    refine gT e12 rfl rfl rfl ?_
    have e19 : a.eval (.tmp 19) = .pointer (some ⟨bA, k * 22, none⟩) := eH he hR 9 (by kernel_rfl) rfl
    have hbW := bthen (below_drew _) (grow_below hX)
    exact wp_value (exec_load_mid 30 _ rfl bA (k * 22) e19 x.p.cells _ (range_below hbW HBA.out (Nd.px_range HXR.out)) Try.underlying30 rfl (sizePx _ HXF.out.addr)) (gK hK rfl)
   ·intro a vs W hX hR he hf K hK
    have e12 : a.eval (.tmp 12) = .bool true := eH he hR 2 (by kernel_rfl) rfl
    refine gT e12 rfl rfl rfl ?_
    have e3 : a.eval (.tmp 3) = .pointer (some ⟨g1, 0, none⟩) := hf 3 (by kernel_rfl)
    have hbW := bthen (below_drew _) (grow_below hX)
    exact wp_value (exec_load 30 _ rfl g1 e3 30 p.cells _ (HP.out.on hbW) Try.underlying30 rfl (sizePx _ HF.out.addr)) (gK hK rfl)
   ·intro a vs W hX hR he hf K hK
    have e12 : a.eval (.tmp 12) = .bool true := eH he hR 2 (by kernel_rfl) rfl
    refine gT e12 rfl rfl rfl ?_
    have e20 : a.eval (.tmp 20) = .agg x.p.cells.toArray := eH he hR 10 (by kernel_rfl) rfl
    have e21 : a.eval (.tmp 21) = .agg p.cells.toArray := eH he hR 11 (by kernel_rfl) rfl
    exact wp_value (exec_nePx _ _ _ rfl x.p p HXF.out.addr HF.out.addr false HEQ.out e20 e21) (gK hK rfl)
   ·intro a vs W hX hR he hf K hK
    refine wn rfl ?_
    have e12 : a.eval (.tmp 12) = .bool true := eH he hR 2 (by kernel_rfl) rfl
    have e22 : a.eval (.tmp 22) = .bool true := eH he hR 12 (by kernel_rfl) rfl
    refine wV hK rfl ?_
    simp only [execOp, e12, e22]
    try go_simp
   intro vs wx hXx hR
   rw [put_eqs hR rfl]
   simp only [putL, Act.put, List.setIfInBounds_toArray, List.set_cons_zero, List.set_cons_succ]
   clear hR
   replace hBE := Hh (hBE.out.trans ((bthen (below_drew _) (grow_below hXx)).mono hBE.out.size))
   replace HP := Hh (HP.out.on (bthen (below_drew _) (grow_below hXx)))
   replace HW := Hh (bthen HW.out (bthen (below_drew _) (grow_below hXx)))
   replace HTR := Hh (HTR.out.on (bthen (below_drew _) (grow_below hXx)))
   replace HXR := Hh (range_below (bthen (below_drew _) (grow_below hXx)) HBA.out HXR.out)
   replace HBA := Hh (Nat.lt_of_lt_of_le HBA.out (bthen (below_drew _) (grow_below hXx)).size)
   clear hXx
   go_wp2_with fail
   refine wp_region_rel (fun A B => A.grownBy B none) (fun A => grown_refl A _) (fun A B C h k => grown_trans h k) (relAt (eqs [.pointer (some ⟨g, 0, none⟩), .pointer (some ⟨g, 0, none⟩), .pointer (some ⟨g, 3, none⟩), .slice (some ⟨bA, 0, none⟩) t.N.length c, .int .i64 (k : Int), .pointer (some ⟨bA, k * 22, none⟩), .pointer (some ⟨bA, k * 22, none⟩), .agg x.p.cells.toArray, .agg p.cells.toArray, .bool true, .bool false, .bool false, .pointer (some ⟨g, 0, none⟩), .pointer (some ⟨g, 0, none⟩), .pointer (some ⟨g, 3, none⟩), .slice (some ⟨bA, 0, none⟩) t.N.length c, .int .i64 (k : Int), .pointer (some ⟨bA, k * 22, none⟩), .pointer (some ⟨bA, k * 22, none⟩), .pointer (some ⟨bA, k * 22 + 17, none⟩), .int .i64 x.p.len, .pointer (some ⟨g1, 17, none⟩), .int .i64 p.len, .bool false, .bool false])) (MonoL.at_ (eqs_mono _)) (by kernel_rfl) (by kernel_rfl) ⟨?_, ?_, ?_, ?_, ?_, ?_, ?_, ?_, ?_, ?_, ?_, ?_, ?_, ?_, ?_, ?_, ?_, ?_, ?_, ?_, ?_, ?_, ?_, ?_, ?_, trivial⟩ ?_
   ·intro a vs W hX hR he hf K hK
    refine wn rfl ?_
    have e0 : a.eval (.tmp 0) = .pointer (some ⟨g, 0, none⟩) := hf 0 (by kernel_rfl)
    refine wV hK rfl ?_
    simp only [execOp, e0]
    try go_simp
   ·intro a vs W hX hR he hf K hK
    refine wn rfl ?_
    have e24 : a.eval (.tmp 24) = .pointer (some ⟨g, 0, none⟩) := eH he hR 0 (by kernel_rfl) rfl
    refine wV hK rfl ?_
    simp only [execOp, e24]
    try go_simp
   ·intro a vs W hX hR he hf K hK
    refine wn rfl ?_
    have e25 : a.eval (.tmp 25) = .pointer (some ⟨g, 0, none⟩) := eH he hR 1 (by kernel_rfl) rfl
    refine wV hK rfl ?_
    simp only [execOp, e25]
    try go_simp
   ·intro a vs W hX hR he hf K hK
    refine wn rfl ?_
    have e26 : a.eval (.tmp 26) = .pointer (some ⟨g, 3, none⟩) := eH he hR 2 (by kernel_rfl) rfl
    have hbW := bthen (below_drew _) (grow_below hX)
    have hc : W.cell? ⟨g, 3, none⟩ = some (.slice (some ⟨bA, 0, none⟩) t.N.length c) := (HTR.out.blk.on hbW).cell 3
    refine wV hK rfl ?_
    simp only [execOp, e26]
    try go_simp
   ·intro a vs W hX hR he hf K hK
    refine wn rfl ?_
    have e5 : a.eval (.tmp 5) = .int .i64 (k : Int) := hf 5 (by kernel_rfl)
    refine wV hK rfl ?_
    simp only [execOp, e5]
    try go_simp
   ·intro a vs W hX hR he hf K hK
    refine wn rfl ?_
    have e27 : a.eval (.tmp 27) = .slice (some ⟨bA, 0, none⟩) t.N.length c := eH he hR 3 (by kernel_rfl) rfl
    have e28 : a.eval (.tmp 28) = .int .i64 (k : Int) := eH he hR 4 (by kernel_rfl) rfl
    refine wV hK rfl ?_
    simp only [execOp, e27, e28]
    go_simp
   ·intro a vs W hX hR he hf K hK
    refine wn rfl ?_
    have e29 : a.eval (.tmp 29) = .pointer (some ⟨bA, k * 22, none⟩) := eH he hR 5 (by kernel_rfl) rfl
    refine wV hK rfl ?_
    simp only [execOp, e29]
    try go_simp
   ·intro a vs W hX hR he hf K hK
    refine wn rfl ?_
    have e30 : a.eval (.tmp 30) = .pointer (some ⟨bA, k * 22, none⟩) := eH he hR 6 (by kernel_rfl) rfl
    have hbW := bthen (below_drew _) (grow_below hX)
    exact wp_value (exec_load_mid 30 _ rfl bA (k * 22) e30 x.p.cells _ (range_below hbW HBA.out (Nd.px_range HXR.out)) Try.underlying30 rfl (sizePx _ HXF.out.addr)) (gK hK rfl)
   ·intro a vs W hX hR he hf K hK
    refine wn rfl ?_
    have e3 : a.eval (.tmp 3) = .pointer (some ⟨g1, 0, none⟩) := hf 3 (by kernel_rfl)
    have hbW := bthen (below_drew _) (grow_below hX)
    exact wp_value (exec_load 30 _ rfl g1 e3 30 p.cells _ (HP.out.on hbW) Try.underlying30 rfl (sizePx _ HF.out.addr)) (gK hK rfl)
   ·intro a vs W hX hR he hf K hK
    refine wn rfl ?_
    have e31 : a.eval (.tmp 31) = .agg x.p.cells.toArray := eH he hR 7 (by kernel_rfl) rfl
    have e32 : a.eval (.tmp 32) = .agg p.cells.toArray := eH he hR 8 (by kernel_rfl) rfl
    refine wp_enter (f := 40) (args := #[.agg x.p.cells.toArray, .agg p.cells.toArray]) (by simp only [execOp, e31, e32]; go_simp; exact ⟨by simpa [Act.eval] using e31, by simpa [Act.eval] using e32⟩) ((covers_any x.p HXF.out p HF.out W).mono ?_)
    rintro e w' ⟨rfl, hb⟩
    rw [HCV.out]
    exact ⟨_, rfl, hK _ _ rfl (below_grow hb _)⟩
   ·intro a vs W hX hR he hf K hK
    refine wn rfl ?_
    have e33 : a.eval (.tmp 33) = .bool true := eH he hR 9 (by kernel_rfl) rfl
    refine wV hK rfl ?_
    simp only [execOp, e33]
    try go_simp
   ·intro a vs W hX hR he hf K hK
    refine wn rfl ?_
    have e34 : a.eval (.tmp 34) = .bool false := eH he hR 10 (by kernel_rfl) rfl
    refine wV hK rfl ?_
    simp only [execOp, e34]
    try go_simp
   ·intro a vs W hX hR he hf K hK
    have e35 : a.eval (.tmp 35) = .bool false := eH he hR 11 (by kernel_rfl) rfl
    refine gT e35 rfl rfl rfl ?_
    have e0 : a.eval (.tmp 0) = .pointer (some ⟨g, 0, none⟩) := hf 0 (by kernel_rfl)
    refine wV hK rfl ?_
    simp only [execOp, e0]
    try go_simp
   ·intro a vs W hX hR he hf K hK
    have e35 : a.eval (.tmp 35) = .bool false := eH he hR 11 (by kernel_rfl) rfl
    refine gT e35 rfl rfl rfl ?_
    have e36 : a.eval (.tmp 36) = .pointer (some ⟨g, 0, none⟩) := eH he hR 12 (by kernel_rfl) rfl
    refine wV hK rfl ?_
    simp only [execOp, e36]
    try go_simp
   ·intro a vs W hX hR he hf K hK
    have e35 : a.eval (.tmp 35) = .bool false := eH he hR 11 (by kernel_rfl) rfl
    refine gT e35 rfl rfl rfl ?_
    have e37 : a.eval (.tmp 37) = .pointer (some ⟨g, 0, none⟩) := eH he hR 13 (by kernel_rfl) rfl
    refine wV hK rfl ?_
    simp only [execOp, e37]
    try go_simp
   ·intro a vs W hX hR he hf K hK
    have e35 : a.eval (.tmp 35) = .bool false := eH he hR 11 (by kernel_rfl) rfl
    refine gT e35 rfl rfl rfl ?_
    have e38 : a.eval (.tmp 38) = .pointer (some ⟨g, 3, none⟩) := eH he hR 14 (by kernel_rfl) rfl
    have hbW := bthen (below_drew _) (grow_below hX)
    have hc : W.cell? ⟨g, 3, none⟩ = some (.slice (some ⟨bA, 0, none⟩) t.N.length c) := (HTR.out.blk.on hbW).cell 3
    refine wV hK rfl ?_
    simp only [execOp, e38]
    try go_simp
   ·intro a vs W hX hR he hf K hK
    have e35 : a.eval (.tmp 35) = .bool false := eH he hR 11 (by kernel_rfl) rfl
    refine gT e35 rfl rfl rfl ?_
    have e5 : a.eval (.tmp 5) = .int .i64 (k : Int) := hf 5 (by kernel_rfl)
    refine wV hK rfl ?_
    simp only [execOp, e5]
    try go_simp
   ·intro a vs W hX hR he hf K hK
    have e35 : a.eval (.tmp 35) = .bool false := eH he hR 11 (by kernel_rfl) rfl
    refine gT e35 rfl rfl rfl ?_
    have e39 : a.eval (.tmp 39) = .slice (some ⟨bA, 0, none⟩) t.N.length c := eH he hR 15 (by kernel_rfl) rfl
    have e40 : a.eval (.tmp 40) = .int .i64 (k : Int) := eH he hR 16 (by kernel_rfl) rfl
    refine wV hK rfl ?_
    simp only [execOp, e39, e40]
    go_simp
   ·intro a vs W hX hR he hf K hK
    have e35 : a.eval (.tmp 35) = .bool false := eH he hR 11 (by kernel_rfl) rfl
    refine gT e35 rfl rfl rfl ?_
    have e41 : a.eval (.tmp 41) = .pointer (some ⟨bA, k * 22, none⟩) := eH he hR 17 (by kernel_rfl) rfl
    refine wV hK rfl ?_
    simp only [execOp, e41]
    try go_simp
   ·intro a vs W hX hR he hf K hK
    have e35 : a.eval (.tmp 35) = .bool false := eH he hR 11 (by kernel_rfl) rfl
    refine gT e35 rfl rfl rfl ?_
    have e42 : a.eval (.tmp 42) = .pointer (some ⟨bA, k * 22, none⟩) := eH he hR 18 (by kernel_rfl) rfl
    refine wV hK rfl ?_
    simp only [execOp, e42]
    try go_simp
   ·intro a vs W hX hR he hf K hK
    have e35 : a.eval (.tmp 35) = .bool false := eH he hR 11 (by kernel_rfl) rfl
    refine gT e35 rfl rfl rfl ?_
    have e43 : a.eval (.tmp 43) = .pointer (some ⟨bA, k * 22 + 17, none⟩) := eH he hR 19 (by kernel_rfl) rfl
    have hbW := bthen (below_drew _) (grow_below hX)
    have hc : W.cell? ⟨bA, k * 22 + 17, none⟩ = some (.int .i64 x.p.len) := range_below hbW HBA.out HXR.out 17 _ (x.get_len HXF.out.addr)
    refine wV hK rfl ?_
    simp only [execOp, e43]
    try go_simp
   ·intro a vs W hX hR he hf K hK
    have e35 : a.eval (.tmp 35) = .bool false := eH he hR 11 (by kernel_rfl) rfl
    refine gT e35 rfl rfl rfl ?_
    have e3 : a.eval (.tmp 3) = .pointer (some ⟨g1, 0, none⟩) := hf 3 (by kernel_rfl)
    refine wV hK rfl ?_
    simp only [execOp, e3]
    try go_simp
   ·intro a vs W hX hR he hf K hK
    have e35 : a.eval (.tmp 35) = .bool false := eH he hR 11 (by kernel_rfl) rfl
    refine gT e35 rfl rfl rfl ?_
    have e45 : a.eval (.tmp 45) = .pointer (some ⟨g1, 17, none⟩) := eH he hR 21 (by kernel_rfl) rfl
    have hbW := bthen (below_drew _) (grow_below hX)
    have hc : W.cell? ⟨g1, 17, none⟩ = some (.int .i64 p.len) := ((HP.out.on hbW).cell 17).trans (p.get_len HF.out.addr)
    refine wV hK rfl ?_
    simp only [execOp, e45]
    try go_simp
   ·intro a vs W hX hR he hf K hK
    have e35 : a.eval (.tmp 35) = .bool false := eH he hR 11 (by kernel_rfl) rfl
    refine gT e35 rfl rfl rfl ?_
    have e44 : a.eval (.tmp 44) = .int .i64 x.p.len := eH he hR 20 (by kernel_rfl) rfl
    have e46 : a.eval (.tmp 46) = .int .i64 p.len := eH he hR 22 (by kernel_rfl) rfl
    refine wV hK rfl ?_
    have h9 := HLE.out
    simp only [execOp, e44, e46]
    go_simp
    try omega
   ·intro a vs W hX hR he hf K hK
    refine wn rfl ?_
    have e35 : a.eval (.tmp 35) = .bool false := eH he hR 11 (by kernel_rfl) rfl
    have e47 : a.eval (.tmp 47) = .bool false := eH he hR 23 (by kernel_rfl) rfl
    refine wV hK rfl ?_
    simp only [execOp, e35, e47]
    try go_simp
   intro vs wx hXx hR
   rw [put_eqs hR rfl]
   simp only [putL, Act.put, List.setIfInBounds_toArray, List.set_cons_zero, List.set_cons_succ]
   clear hR
   replace hBE := Hh (hBE.out.trans ((bthen (below_drew _) (grow_below hXx)).mono hBE.out.size))
   replace HP := Hh (HP.out.on (bthen (below_drew _) (grow_below hXx)))
   replace HW := Hh (bthen HW.out (bthen (below_drew _) (grow_below hXx)))
   replace HTR := Hh (HTR.out.on (bthen (below_drew _) (grow_below hXx)))
   replace HXR := Hh (range_below (bthen (below_drew _) (grow_below hXx)) HBA.out HXR.out)
   replace HBA := Hh (Nat.lt_of_lt_of_le HBA.out (bthen (below_drew _) (grow_below hXx)).size)
   clear hXx
   go_wp2_with fail
   refine wp_region_rel (fun A B => A.grownBy B none) (fun A => grown_refl A _) (fun A B C h k => grown_trans h k) (relAt (eqs [.pointer (some ⟨g, 0, none⟩), .pointer (some ⟨g, 0, none⟩), .pointer (some ⟨g, 3, none⟩), .slice (some ⟨bA, 0, none⟩) t.N.length c, .int .i64 (k : Int), .pointer (some ⟨g, 0, none⟩), .int .i64 (k : Int), .agg p.cells.toArray, .int .i64 (s : Int), .pointer (some ⟨bA, k * 22, none⟩), .pointer (some ⟨bA, k * 22 + 20, none⟩), .pointer (some ⟨bA, k * 22 + (20 + s), none⟩), .int .i64 ((x.kid s : Nat) : Int), .int .i64 ((x.kid s : Nat) : Int)])) (MonoL.at_ (eqs_mono _)) (by kernel_rfl) (by kernel_rfl) ⟨?_, ?_, ?_, ?_, ?_, ?_, ?_, ?_, ?_, ?_, ?_, ?_, ?_, ?_, trivial⟩ ?_
   ·intro a vs W hX hR he hf K hK
    refine wn rfl ?_
    have e0 : a.eval (.tmp 0) = .pointer (some ⟨g, 0, none⟩) := hf 0 (by kernel_rfl)
    refine wV hK rfl ?_
    simp only [execOp, e0]
    try go_simp
   ·intro a vs W hX hR he hf K hK
    refine wn rfl ?_
    have e49 : a.eval (.tmp 49) = .pointer (some ⟨g, 0, none⟩) := eH he hR 0 (by kernel_rfl) rfl
    refine wV hK rfl ?_
    simp only [execOp, e49]
    try go_simp
   ·intro a vs W hX hR he hf K hK
    refine wn rfl ?_
    have e50 : a.eval (.tmp 50) = .pointer (some ⟨g, 0, none⟩) := eH he hR 1 (by kernel_rfl) rfl
    refine wV hK rfl ?_
    simp only [execOp, e50]
    try go_simp
   ·intro a vs W hX hR he hf K hK
    refine wn rfl ?_
    have e51 : a.eval (.tmp 51) = .pointer (some ⟨g, 3, none⟩) := eH he hR 2 (by kernel_rfl) rfl
    have hbW := bthen (below_drew _) (grow_below hX)
    have hc : W.cell? ⟨g, 3, none⟩ = some (.slice (some ⟨bA, 0, none⟩) t.N.length c) := (HTR.out.blk.on hbW).cell 3
    refine wV hK rfl ?_
    simp only [execOp, e51]
    try go_simp
   ·intro a vs W hX hR he hf K hK
    refine wn rfl ?_
    have e5 : a.eval (.tmp 5) = .int .i64 (k : Int) := hf 5 (by kernel_rfl)
    refine wV hK rfl ?_
    simp only [execOp, e5]
    try go_simp
   ·intro a vs W hX hR he hf K hK
    refine wn rfl ?_
    have e0 : a.eval (.tmp 0) = .pointer (some ⟨g, 0, none⟩) := hf 0 (by kernel_rfl)
    refine wV hK rfl ?_
    simp only [execOp, e0]
    try go_simp
   ·intro a vs W hX hR he hf K hK
    refine wn rfl ?_
    have e5 : a.eval (.tmp 5) = .int .i64 (k : Int) := hf 5 (by kernel_rfl)
    refine wV hK rfl ?_
    simp only [execOp, e5]
    try go_simp
   ·intro a vs W hX hR he hf K hK
    refine wn rfl ?_
    have e3 : a.eval (.tmp 3) = .pointer (some ⟨g1, 0, none⟩) := hf 3 (by kernel_rfl)
    have hbW := bthen (below_drew _) (grow_below hX)
    exact wp_value (exec_load 30 _ rfl g1 e3 30 p.cells _ (HP.out.on hbW) Try.underlying30 rfl (sizePx _ HF.out.addr)) (gK hK rfl)
   ·intro a vs W hX hR he hf K hK
    refine wn rfl ?_
    have e54 : a.eval (.tmp 54) = .pointer (some ⟨g, 0, none⟩) := eH he hR 5 (by kernel_rfl) rfl
    have e55 : a.eval (.tmp 55) = .int .i64 (k : Int) := eH he hR 6 (by kernel_rfl) rfl
    have e56 : a.eval (.tmp 56) = .agg p.cells.toArray := eH he hR 7 (by kernel_rfl) rfl
    have hbW := bthen (below_drew _) (grow_below hX)
    refine wp_enter (f := 72) (args := #[.pointer (some ⟨g, 0, none⟩), .int .i64 (k : Int), .agg p.cells.toArray]) (by simp only [execOp, e54, e55, e56]; go_simp; exact ⟨by simpa [Act.eval] using e54, by simpa [Act.eval] using e55, by simpa [Act.eval] using e56⟩) ((tside_any W g t _ _ _ _ (HTR.out.on hbW) k x HNX.out p HF.out).mono ?_)
    rintro e w' ⟨rfl, hb⟩
    rw [HS.out]
    exact ⟨_, rfl, hK _ _ rfl (below_grow hb _)⟩
   ·intro a vs W hX hR he hf K hK
    refine wn rfl ?_
    have e52 : a.eval (.tmp 52) = .slice (some ⟨bA, 0, none⟩) t.N.length c := eH he hR 3 (by kernel_rfl) rfl
    have e53 : a.eval (.tmp 53) = .int .i64 (k : Int) := eH he hR 4 (by kernel_rfl) rfl
    refine wV hK rfl ?_
    simp only [execOp, e52, e53]
    go_simp
   ·intro a vs W hX hR he hf K hK
    refine wn rfl ?_
    have e58 : a.eval (.tmp 58) = .pointer (some ⟨bA, k * 22, none⟩) := eH he hR 9 (by kernel_rfl) rfl
    refine wV hK rfl ?_
    simp only [execOp, e58]
    try go_simp
   ·intro a vs W hX hR he hf K hK
    refine wn rfl ?_
    have e59 : a.eval (.tmp 59) = .pointer (some ⟨bA, k * 22 + 20, none⟩) := eH he hR 10 (by kernel_rfl) rfl
    have e57 : a.eval (.tmp 57) = .int .i64 (s : Int) := eH he hR 8 (by kernel_rfl) rfl
    refine wV hK rfl ?_
    simp only [execOp, e59, e57]
    go_simp
    try omega
   ·intro a vs W hX hR he hf K hK
    refine wn rfl ?_
    have e60 : a.eval (.tmp 60) = .pointer (some ⟨bA, k * 22 + (20 + s), none⟩) := eH he hR 11 (by kernel_rfl) rfl
    have hbW := bthen (below_drew _) (grow_below hX)
    have hc : W.cell? ⟨bA, k * 22 + (20 + s), none⟩ = some (.int .i64 ((x.kid s : Nat) : Int)) := range_below hbW HBA.out HXR.out (20 + s) _ (x.get_kid HXF.out.addr s (by omega))
    refine wV hK rfl ?_
    simp only [execOp, e60]
    try go_simp
   ·intro a vs W hX hR he hf K hK
    refine wn rfl ?_
    have e61 : a.eval (.tmp 61) = .int .i64 ((x.kid s : Nat) : Int) := eH he hR 12 (by kernel_rfl) rfl
    refine wV hK rfl ?_
    simp only [execOp, e61]
    try go_simp
   intro vs wx hXx hR
   rw [put_eqs hR rfl]
   simp only [putL, Act.put, List.setIfInBounds_toArray, List.set_cons_zero, List.set_cons_succ]
   clear hR
   replace hBE := Hh (hBE.out.trans ((bthen (below_drew _) (grow_below hXx)).mono hBE.out.size))
   replace HP := Hh (HP.out.on (bthen (below_drew _) (grow_below hXx)))
   replace HW := Hh (bthen HW.out (bthen (below_drew _) (grow_below hXx)))
   replace HTR := Hh (HTR.out.on (bthen (below_drew _) (grow_below hXx)))
   clear hXx
   go_wp2_with fail
   go_roundw
   case rel => exact ⟨f, x.kid s, by omega, rfl, by rw [← HS.out]; exact HFN.out, hBE.out⟩
   case measure =>
    have h1 := cntN_more t.N p (f + 1) k r HFK.out F hfF
    have h2 := cntN_more t.N p f _ r HFN.out F (by omega)
    simp only [intOf, Int.toNat_natCast]
    rw [HS.out] at h2
    rw [h1, h2]
    have h3 : cntN t.N p (f + 1) k = 1 + cntN t.N p f (x.kid s) := by
     conv => lhs; unfold cntN
     rw [if_neg (by have := HKN.out; omega), HNX.out]
     simp only []
     rw [if_neg HPQ.out, if_pos HCT.out, HS.out]
    omega
end Go.Proofs.Ytdmgomknamdcfaa


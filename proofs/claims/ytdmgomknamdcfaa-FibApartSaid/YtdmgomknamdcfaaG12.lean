/- Texts of this claim put together, in build order: each one's own remark stands ahead of it. -/
import Derived.Test.YtdmgomknamdcfaaG11
/- What the table's find (layer 9) computes. No condition but sizes. -/
namespace Go.Proofs.Ytdmgomknamdcfaa
open Go.RowKit
set_option linter.unusedVariables false
set_option maxRecDepth 20000
set_option linter.unusedSimpArgs false

theorem exec_nePx {w : World} {o : Oper} {c : Act} (x y : Operand) (ty : TypeId) (ho : o.op = .binOp .neq 30 x y ty) (p q : Px) (hp : p.addr.length = 16) (hq : q.addr.length = 16) (r : Bool) (hr : decide (p = q) = r) (hx : c.eval x = .agg p.cells.toArray) (hy : c.eval y = .agg q.cells.toArray) : (execOp c.eval o).run Try.prog w = .ok (.value (.bool (!r))) w := by
 unfold execOp
 simp only [ho, hx, hy, Sem.run_bind, run_eqGuard_agg w .neq 30 x y _ _ (show Try.prog.eqGuardType Try.prog.depth 30 = false by kernel_rfl), run_neq_struct, eqPx p q hp hq w, hr, Result.andThen_ok]
 rfl
/-- the node of a prefix, step by step -/
def findN (N : List Nd) (p : Px) : Nat → Nat → Option Nat
 | 0, _ => none
 | f + 1, k => if k = 0 then some 0 else
  match N[k]? with
  | none => none
  | some x => if x.p = p then some k else if (covP x.p p && !(decide (x.p.len = p.len))) = true then findN N p f (x.kid (bitN p.addr x.p.len)) else some 0
/-- how many steps it takes -/
def cntN (N : List Nd) (p : Px) : Nat → Nat → Nat
 | 0, _ => 0
 | f + 1, k => if k = 0 then 0 else
  match N[k]? with
  | none => 0
  | some x => if x.p = p then 0 else if (covP x.p p && !(decide (x.p.len = p.len))) = true then 1 + cntN N p f (x.kid (bitN p.addr x.p.len)) else 0
theorem cntN_more (N : List Nd) (p : Px) : ∀ (f k r : Nat), findN N p f k = some r → ∀ F, f ≤ F → cntN N p F k = cntN N p f k
 | 0, k, r, h, _, _ => by cases h
 | f + 1, k, r, h, F, hF => by
  obtain ⟨G, rfl⟩ : ∃ G, F = G + 1 := ⟨F - 1, by omega⟩
  unfold findN at h
  unfold cntN
  split
  ·rfl
  ·rename_i hk
   rw [if_neg hk] at h
   split
   ·rfl
   ·rename_i x hx
    rw [hx] at h
    simp only [] at h
    split
    ·rfl
    ·rename_i hp
     rw [if_neg hp] at h
     split
     ·rename_i hc
      rw [if_pos hc] at h
      rw [cntN_more N p f _ r h G (by omega)]
     ·rfl
set_option maxHeartbeats 4000000 in
theorem tfind_any (w : World) (g : Nat) (t : Tb) (A Af : Option Addr) (c cf : Nat) (hT : Tab w g t A c Af cf) (p : Px) (hf : p.fit) (F r : Nat) (hr : findN t.N p F t.root = some r) :
  Calls Try.prog 58 #[.pointer (some ⟨g, 0, none⟩), .agg p.cells.toArray] w fun e w' => e = .returned (.int .i64 ((r : Nat) : Int)) ∧ Below w.heap.size w w' := by
 have HF := Lib.hid hf
 have HT := Lib.hid hT
 have HFD := Lib.hid hr
 have c0 : w.cell? ⟨g, 5, none⟩ = some (.int .i64 (t.root : Int)) := hT.blk.cell 5
 have hgl := hT.blk.lt
 clear hf hT hr
 go_enter Try.func58, Try.ntmps58
 go_upto_region 1 with (refine wpList_box_blk (by rfl) 30 (.tmp 1) rfl p.cells rfl ?_; intro w1 hb1 hB1 hs1; clear hs1)
 obtain ⟨g1, hg1⟩ : ∃ g, w.heap.size = g := ⟨_, rfl⟩
 have HW1 := Lib.hid hB1
 replace c0 : w1.cell? ⟨g, 5, none⟩ = some (.int .i64 (t.root : Int)) := (hB1.cell (p := ⟨g, _, none⟩) hgl).trans c0
 replace HT := Lib.hid (HT.out.on hB1)
 rw [hg1] at hb1
 try rw [hg1]
 have HP := Lib.hid hb1
 clear hb1 hB1 hg1 hgl
 go_wp2_with fail
 clear c0
 go_loopw [5] (fun i wr => ∃ f k : Nat, f ≤ F ∧ i = .int .i64 (k : Nat) ∧ findN t.N p f k = some r ∧ Below w1.heap.size w1 wr) (fun i _ => cntN t.N p F (intOf i).toNat)
 case atStart => exact ⟨F, t.root, Nat.le_refl _, rfl, HFD.out, Below.refl _ _⟩
 case round =>
  obtain ⟨f, k, hfF, rfl, hfd, hbe⟩ := hrel
  have HFK := Lib.hid hfd
  have hBE := Lib.hid hbe
  have HW := Lib.hid (bthen HW1.out hbe)
  replace HP := Lib.hid (HP.out.on hbe)
  have HTR := Lib.hid (HT.out.on hbe)
  clear hbe
  obtain ⟨f, rfl⟩ : ∃ f', f = f' + 1 := ⟨f - 1, by cases f with | zero => cases hfd | succ f => rfl⟩
  unfold findN at hfd
  by_cases hk : k = 0
  ·subst hk
   have hr0 : r = 0 := by simpa using hfd.symm
   subst hr0
   clear hfd
   go_wp2_with fail
   refine wp_region_rel (fun A B => A.grownBy B none) (fun A => grown_refl A _) (fun A B C h k => grown_trans h k) (relAt (List.cons (fun v _ => v = .int .i64 0) (List.cons (fun v _ => v = .bool false) (List.cons (fun v _ => v = .bool false) (List.cons (fun v _ => v = undef) (List.cons (fun v _ => v = undef) (List.cons (fun v _ => v = undef) (List.cons (fun v _ => v = undef) (List.cons (fun v _ => v = undef) (List.cons (fun v _ => v = undef) (List.cons (fun v _ => v = undef) (List.cons (fun v _ => v = undef) (List.cons (fun v _ => v = undef) (List.cons (fun v _ => v = undef) (List.cons (fun v _ => v = .bool false) ([])))))))))))))))) (MonoL.at_ (.cons (mono_val _) (.cons (mono_val _) (.cons (mono_val _) (.cons (mono_val _) (.cons (mono_val _) (.cons (mono_val _) (.cons (mono_val _) (.cons (mono_val _) (.cons (mono_val _) (.cons (mono_val _) (.cons (mono_val _) (.cons (mono_val _) (.cons (mono_val _) (.cons (mono_val _) .nil))))))))))))))) (by kernel_rfl) (by kernel_rfl) ⟨?_, ?_, ?_, ?_, ?_, ?_, ?_, ?_, ?_, ?_, ?_, ?_, ?_, ?_, trivial⟩ ?_
   ·intro a vs W hX hR he hf K hK
    rw [if_pos (wanted_none rfl)]
    have e5 : a.eval (.tmp 5) = .int .i64 0 := hf 5 (by kernel_rfl)
    refine wp_value (v := .int .i64 0) ?_ (hK _ _ rfl (grown_refl W _))
    simp only [execOp, e5]
    try go_simp
   ·intro a vs W hX hR he hf K hK
    rw [if_pos (wanted_none rfl)]
    have e10 : a.eval (.tmp 10) = .int .i64 0 := (he 0 10 (by kernel_rfl) rfl).trans (hR 0 (by kernel_rfl))
    refine wp_value (v := .bool false) ?_ (hK _ _ rfl (grown_refl W _))
    simp only [execOp, e10]
    try go_simp
   ·intro a vs W hX hR he hf K hK
    rw [if_pos (wanted_none rfl)]
    have e11 : a.eval (.tmp 11) = .bool false := (he 1 11 (by kernel_rfl) rfl).trans (hR 1 (by kernel_rfl))
    refine wp_value (v := .bool false) ?_ (hK _ _ rfl (grown_refl W _))
    simp only [execOp, e11]
    try go_simp
   ·intro a vs W hX hR he hf K hK
    have e12 : a.eval (.tmp 12) = .bool false := (he 2 12 (by kernel_rfl) rfl).trans (hR 2 (by kernel_rfl))
    refine Eq.mpr (if_neg (fun hz => Bool.false_ne_true (Eq.trans (by exact Eq.symm ((wanted_some rfl rfl e12).trans rfl)) hz))) ?_
    exact hK _ _ rfl (grown_refl W _)
   ·intro a vs W hX hR he hf K hK
    have e12 : a.eval (.tmp 12) = .bool false := (he 2 12 (by kernel_rfl) rfl).trans (hR 2 (by kernel_rfl))
    refine Eq.mpr (if_neg (fun hz => Bool.false_ne_true (Eq.trans (by exact Eq.symm ((wanted_some rfl rfl e12).trans rfl)) hz))) ?_
    exact hK _ _ rfl (grown_refl W _)
   ·intro a vs W hX hR he hf K hK
    have e12 : a.eval (.tmp 12) = .bool false := (he 2 12 (by kernel_rfl) rfl).trans (hR 2 (by kernel_rfl))
    refine Eq.mpr (if_neg (fun hz => Bool.false_ne_true (Eq.trans (by exact Eq.symm ((wanted_some rfl rfl e12).trans rfl)) hz))) ?_
    exact hK _ _ rfl (grown_refl W _)
   ·intro a vs W hX hR he hf K hK
    have e12 : a.eval (.tmp 12) = .bool false := (he 2 12 (by kernel_rfl) rfl).trans (hR 2 (by kernel_rfl))
    refine Eq.mpr (if_neg (fun hz => Bool.false_ne_true (Eq.trans (by exact Eq.symm ((wanted_some rfl rfl e12).trans rfl)) hz))) ?_
    exact hK _ _ rfl (grown_refl W _)
   ·intro a vs W hX hR he hf K hK
    have e12 : a.eval (.tmp 12) = .bool false := (he 2 12 (by kernel_rfl) rfl).trans (hR 2 (by kernel_rfl))
    refine Eq.mpr (if_neg (fun hz => Bool.false_ne_true (Eq.trans (by exact Eq.symm ((wanted_some rfl rfl e12).trans rfl)) hz))) ?_
    exact hK _ _ rfl (grown_refl W _)
   ·intro a vs W hX hR he hf K hK
    have e12 : a.eval (.tmp 12) = .bool false := (he 2 12 (by kernel_rfl) rfl).trans (hR 2 (by kernel_rfl))
    refine Eq.mpr (if_neg (fun hz => Bool.false_ne_true (Eq.trans (by exact Eq.symm ((wanted_some rfl rfl e12).trans rfl)) hz))) ?_
    exact hK _ _ rfl (grown_refl W _)
   ·intro a vs W hX hR he hf K hK
    have e12 : a.eval (.tmp 12) = .bool false := (he 2 12 (by kernel_rfl) rfl).trans (hR 2 (by kernel_rfl))
    refine Eq.mpr (if_neg (fun hz => Bool.false_ne_true (Eq.trans (by exact Eq.symm ((wanted_some rfl rfl e12).trans rfl)) hz))) ?_
    exact hK _ _ rfl (grown_refl W _)
   ·intro a vs W hX hR he hf K hK
    have e12 : a.eval (.tmp 12) = .bool false := (he 2 12 (by kernel_rfl) rfl).trans (hR 2 (by kernel_rfl))
    refine Eq.mpr (if_neg (fun hz => Bool.false_ne_true (Eq.trans (by exact Eq.symm ((wanted_some rfl rfl e12).trans rfl)) hz))) ?_
    exact hK _ _ rfl (grown_refl W _)
   ·intro a vs W hX hR he hf K hK
    have e12 : a.eval (.tmp 12) = .bool false := (he 2 12 (by kernel_rfl) rfl).trans (hR 2 (by kernel_rfl))
    refine Eq.mpr (if_neg (fun hz => Bool.false_ne_true (Eq.trans (by exact Eq.symm ((wanted_some rfl rfl e12).trans rfl)) hz))) ?_
    exact hK _ _ rfl (grown_refl W _)
   ·intro a vs W hX hR he hf K hK
    have e12 : a.eval (.tmp 12) = .bool false := (he 2 12 (by kernel_rfl) rfl).trans (hR 2 (by kernel_rfl))
    refine Eq.mpr (if_neg (fun hz => Bool.false_ne_true (Eq.trans (by exact Eq.symm ((wanted_some rfl rfl e12).trans rfl)) hz))) ?_
    exact hK _ _ rfl (grown_refl W _)
   ·intro a vs W hX hR he hf K hK
    rw [if_pos (wanted_none rfl)]
    have e12 : a.eval (.tmp 12) = .bool false := (he 2 12 (by kernel_rfl) rfl).trans (hR 2 (by kernel_rfl))
    have e22 : a.eval (.tmp 22) = undef := (he 12 22 (by kernel_rfl) rfl).trans (hR 12 (by kernel_rfl))
    refine wp_value (v := .bool false) ?_ (hK _ _ rfl (grown_refl W _))
    simp only [execOp, e12, e22]
    try go_simp
   ·intro vs wx hXx hR
    have q0 := hR 0 (by decide)
    have q1 := hR 1 (by decide)
    have q2 := hR 2 (by decide)
    have q3 := hR 3 (by decide)
    have q4 := hR 4 (by decide)
    have q5 := hR 5 (by decide)
    have q6 := hR 6 (by decide)
    have q7 := hR 7 (by decide)
    have q8 := hR 8 (by decide)
    have q9 := hR 9 (by decide)
    have q10 := hR 10 (by decide)
    have q11 := hR 11 (by decide)
    have q12 := hR 12 (by decide)
    have q13 := hR 13 (by decide)
    change vs 0 = .int .i64 0 at q0
    change vs 1 = .bool false at q1
    change vs 2 = .bool false at q2
    change vs 3 = undef at q3
    change vs 4 = undef at q4
    change vs 5 = undef at q5
    change vs 6 = undef at q6
    change vs 7 = undef at q7
    change vs 8 = undef at q8
    change vs 9 = undef at q9
    change vs 10 = undef at q10
    change vs 11 = undef at q11
    change vs 12 = undef at q12
    change vs 13 = .bool false at q13
    simp only [putAll, Act.put, List.setIfInBounds_toArray, List.set_cons_zero, List.set_cons_succ, q0, q1, q2, q3, q4, q5, q6, q7, q8, q9, q10, q11, q12, q13]
    clear q0 q1 q2 q3 q4 q5 q6 q7 q8 q9 q10 q11 q12 q13
    clear hR
    replace hBE := Lib.hid (hBE.out.trans ((bthen (below_drew _) (grow_below hXx)).mono hBE.out.size))
    replace HP := Lib.hid (HP.out.on (bthen (below_drew _) (grow_below hXx)))
    replace HW := Lib.hid (bthen HW.out (bthen (below_drew _) (grow_below hXx)))
    replace HTR := Lib.hid (HTR.out.on (bthen (below_drew _) (grow_below hXx)))
    clear hXx
    go_wp2_with fail
    go_ret
    exact ⟨rfl, HW.out⟩
  ·rw [if_neg hk] at hfd
   cases hx : t.N[k]? with
   | none => rw [hx] at hfd; cases hfd
   | some x =>
    rw [hx] at hfd
    simp only [] at hfd
    obtain ⟨bA, hA, _, hba, hne, hrr, _, hk1, _⟩ := HTR.out.node hx
    subst hA
    have HXF := Lib.hid (HT.out.fit x (List.mem_of_getElem? hx))
    have HXR := Lib.hid hrr
    have HBA := Lib.hid hba
    have HNX := Lib.hid hx
    have hlt : (k : Int) < (t.N.length : Int) := by omega
    have HKN := Lib.hid (show ¬ (k : Int) = 0 by omega)
    clear hrr hba hx hk hk1 hne
    by_cases hpq : x.p = p
    ·rw [if_pos hpq] at hfd
     have hrk : k = r := by simpa using hfd
     subst hrk
     have HEQ := Lib.hid (decide_eq_true hpq)
     clear hfd hpq
     go_wp2_with fail
     refine wp_region_rel (fun A B => A.grownBy B none) (fun A => grown_refl A _) (fun A B C h k => grown_trans h k) (relAt (List.cons (fun v _ => v = .int .i64 (k : Int)) (List.cons (fun v _ => v = .bool true) (List.cons (fun v _ => v = .bool true) (List.cons (fun v _ => v = .pointer (some ⟨g, 0, none⟩)) (List.cons (fun v _ => v = .pointer (some ⟨g, 0, none⟩)) (List.cons (fun v _ => v = .pointer (some ⟨g, 3, none⟩)) (List.cons (fun v _ => v = .slice (some ⟨bA, 0, none⟩) t.N.length c) (List.cons (fun v _ => v = .int .i64 (k : Int)) (List.cons (fun v _ => v = .pointer (some ⟨bA, k * 22, none⟩)) (List.cons (fun v _ => v = .pointer (some ⟨bA, k * 22, none⟩)) (List.cons (fun v _ => v = .agg x.p.cells.toArray) (List.cons (fun v _ => v = .agg p.cells.toArray) (List.cons (fun v _ => v = .bool false) (List.cons (fun v _ => v = .bool false) ([])))))))))))))))) (MonoL.at_ (.cons (mono_val _) (.cons (mono_val _) (.cons (mono_val _) (.cons (mono_val _) (.cons (mono_val _) (.cons (mono_val _) (.cons (mono_val _) (.cons (mono_val _) (.cons (mono_val _) (.cons (mono_val _) (.cons (mono_val _) (.cons (mono_val _) (.cons (mono_val _) (.cons (mono_val _) .nil))))))))))))))) (by kernel_rfl) (by kernel_rfl) ⟨?_, ?_, ?_, ?_, ?_, ?_, ?_, ?_, ?_, ?_, ?_, ?_, ?_, ?_, trivial⟩ ?_
     ·intro a vs W hX hR he hf K hK
      rw [if_pos (wanted_none rfl)]
      have e5 : a.eval (.tmp 5) = .int .i64 (k : Int) := hf 5 (by kernel_rfl)
      refine wp_value (v := .int .i64 (k : Int)) ?_ (hK _ _ rfl (grown_refl W _))
      simp only [execOp, e5]
      try go_simp
     ·intro a vs W hX hR he hf K hK
      rw [if_pos (wanted_none rfl)]
      have e10 : a.eval (.tmp 10) = .int .i64 (k : Int) := (he 0 10 (by kernel_rfl) rfl).trans (hR 0 (by kernel_rfl))
      refine wp_value (v := .bool true) ?_ (hK _ _ rfl (grown_refl W _))
      have h9 := HKN.out
      simp only [execOp, e10]
      go_simp
      try omega
     ·intro a vs W hX hR he hf K hK
      rw [if_pos (wanted_none rfl)]
      have e11 : a.eval (.tmp 11) = .bool true := (he 1 11 (by kernel_rfl) rfl).trans (hR 1 (by kernel_rfl))
      refine wp_value (v := .bool true) ?_ (hK _ _ rfl (grown_refl W _))
      simp only [execOp, e11]
      try go_simp
     ·intro a vs W hX hR he hf K hK
      have e12 : a.eval (.tmp 12) = .bool true := (he 2 12 (by kernel_rfl) rfl).trans (hR 2 (by kernel_rfl))
      refine Eq.mpr (if_pos (by exact (wanted_some rfl rfl e12).trans rfl)) ?_
      have e0 : a.eval (.tmp 0) = .pointer (some ⟨g, 0, none⟩) := hf 0 (by kernel_rfl)
      refine wp_value (v := .pointer (some ⟨g, 0, none⟩)) ?_ (hK _ _ rfl (grown_refl W _))
      simp only [execOp, e0]
      try go_simp
     ·intro a vs W hX hR he hf K hK
      have e12 : a.eval (.tmp 12) = .bool true := (he 2 12 (by kernel_rfl) rfl).trans (hR 2 (by kernel_rfl))
      refine Eq.mpr (if_pos (by exact (wanted_some rfl rfl e12).trans rfl)) ?_
      have e13 : a.eval (.tmp 13) = .pointer (some ⟨g, 0, none⟩) := (he 3 13 (by kernel_rfl) rfl).trans (hR 3 (by kernel_rfl))
      refine wp_value (v := .pointer (some ⟨g, 0, none⟩)) ?_ (hK _ _ rfl (grown_refl W _))
      simp only [execOp, e13]
      try go_simp
     ·intro a vs W hX hR he hf K hK
      have e12 : a.eval (.tmp 12) = .bool true := (he 2 12 (by kernel_rfl) rfl).trans (hR 2 (by kernel_rfl))
      refine Eq.mpr (if_pos (by exact (wanted_some rfl rfl e12).trans rfl)) ?_
      have e14 : a.eval (.tmp 14) = .pointer (some ⟨g, 0, none⟩) := (he 4 14 (by kernel_rfl) rfl).trans (hR 4 (by kernel_rfl))
      refine wp_value (v := .pointer (some ⟨g, 3, none⟩)) ?_ (hK _ _ rfl (grown_refl W _))
      simp only [execOp, e14]
      try go_simp
     ·intro a vs W hX hR he hf K hK
      have e12 : a.eval (.tmp 12) = .bool true := (he 2 12 (by kernel_rfl) rfl).trans (hR 2 (by kernel_rfl))
      refine Eq.mpr (if_pos (by exact (wanted_some rfl rfl e12).trans rfl)) ?_
      have e15 : a.eval (.tmp 15) = .pointer (some ⟨g, 3, none⟩) := (he 5 15 (by kernel_rfl) rfl).trans (hR 5 (by kernel_rfl))
      have hbW := bthen (below_drew _) (grow_below hX)
      have hc : W.cell? ⟨g, 3, none⟩ = some (.slice (some ⟨bA, 0, none⟩) t.N.length c) := (HTR.out.blk.on hbW).cell 3
      refine wp_value (v := _) ?_ (hK _ _ rfl (grown_refl W _))
      simp only [execOp, e15]
      try go_simp
     ·intro a vs W hX hR he hf K hK
      have e12 : a.eval (.tmp 12) = .bool true := (he 2 12 (by kernel_rfl) rfl).trans (hR 2 (by kernel_rfl))
      refine Eq.mpr (if_pos (by exact (wanted_some rfl rfl e12).trans rfl)) ?_
      have e5 : a.eval (.tmp 5) = .int .i64 (k : Int) := hf 5 (by kernel_rfl)
      refine wp_value (v := .int .i64 (k : Int)) ?_ (hK _ _ rfl (grown_refl W _))
      simp only [execOp, e5]
      try go_simp
     ·intro a vs W hX hR he hf K hK
      have e12 : a.eval (.tmp 12) = .bool true := (he 2 12 (by kernel_rfl) rfl).trans (hR 2 (by kernel_rfl))
      refine Eq.mpr (if_pos (by exact (wanted_some rfl rfl e12).trans rfl)) ?_
      have e16 : a.eval (.tmp 16) = .slice (some ⟨bA, 0, none⟩) t.N.length c := (he 6 16 (by kernel_rfl) rfl).trans (hR 6 (by kernel_rfl))
      have e17 : a.eval (.tmp 17) = .int .i64 (k : Int) := (he 7 17 (by kernel_rfl) rfl).trans (hR 7 (by kernel_rfl))
      refine wp_value (v := .pointer (some ⟨bA, k * 22, none⟩)) ?_ (hK _ _ rfl (grown_refl W _))
      simp only [execOp, e16, e17]
      go_simp
     ·intro a vs W hX hR he hf K hK
      have e12 : a.eval (.tmp 12) = .bool true := (he 2 12 (by kernel_rfl) rfl).trans (hR 2 (by kernel_rfl))
      refine Eq.mpr (if_pos (by exact (wanted_some rfl rfl e12).trans rfl)) ?_
      have e18 : a.eval (.tmp 18) = .pointer (some ⟨bA, k * 22, none⟩) := (he 8 18 (by kernel_rfl) rfl).trans (hR 8 (by kernel_rfl))
      refine wp_value (v := .pointer (some ⟨bA, k * 22, none⟩)) ?_ (hK _ _ rfl (grown_refl W _))
      simp only [execOp, e18]
      try go_simp
     ·intro a vs W hX hR he hf K hK
      have e12 : a.eval (.tmp 12) = .bool true := (he 2 12 (by kernel_rfl) rfl).trans (hR 2 (by kernel_rfl))
      refine Eq.mpr (if_pos (by exact (wanted_some rfl rfl e12).trans rfl)) ?_
      have e19 : a.eval (.tmp 19) = .pointer (some ⟨bA, k * 22, none⟩) := (he 9 19 (by kernel_rfl) rfl).trans (hR 9 (by kernel_rfl))
      have hbW := bthen (below_drew _) (grow_below hX)
      exact wp_value (exec_load_mid 30 _ rfl bA (k * 22) e19 x.p.cells _ (range_below hbW HBA.out (Nd.px_range HXR.out)) Try.underlying30 rfl (sizePx _ HXF.out.addr)) (hK _ _ rfl (grown_refl W _))
     ·intro a vs W hX hR he hf K hK
      have e12 : a.eval (.tmp 12) = .bool true := (he 2 12 (by kernel_rfl) rfl).trans (hR 2 (by kernel_rfl))
      refine Eq.mpr (if_pos (by exact (wanted_some rfl rfl e12).trans rfl)) ?_
      have e3 : a.eval (.tmp 3) = .pointer (some ⟨g1, 0, none⟩) := hf 3 (by kernel_rfl)
      have hbW := bthen (below_drew _) (grow_below hX)
      exact wp_value (exec_load 30 _ rfl g1 e3 30 p.cells _ (HP.out.on hbW) Try.underlying30 rfl (sizePx _ HF.out.addr)) (hK _ _ rfl (grown_refl W _))
     ·intro a vs W hX hR he hf K hK
      have e12 : a.eval (.tmp 12) = .bool true := (he 2 12 (by kernel_rfl) rfl).trans (hR 2 (by kernel_rfl))
      refine Eq.mpr (if_pos (by exact (wanted_some rfl rfl e12).trans rfl)) ?_
      have e20 : a.eval (.tmp 20) = .agg x.p.cells.toArray := (he 10 20 (by kernel_rfl) rfl).trans (hR 10 (by kernel_rfl))
      have e21 : a.eval (.tmp 21) = .agg p.cells.toArray := (he 11 21 (by kernel_rfl) rfl).trans (hR 11 (by kernel_rfl))
      exact wp_value (exec_nePx _ _ _ rfl x.p p HXF.out.addr HF.out.addr true HEQ.out e20 e21) (hK _ _ rfl (grown_refl W _))
     ·intro a vs W hX hR he hf K hK
      rw [if_pos (wanted_none rfl)]
      have e12 : a.eval (.tmp 12) = .bool true := (he 2 12 (by kernel_rfl) rfl).trans (hR 2 (by kernel_rfl))
      have e22 : a.eval (.tmp 22) = .bool false := (he 12 22 (by kernel_rfl) rfl).trans (hR 12 (by kernel_rfl))
      refine wp_value (v := .bool false) ?_ (hK _ _ rfl (grown_refl W _))
      simp only [execOp, e12, e22]
      try go_simp
     ·intro vs wx hXx hR
      have q0 := hR 0 (by decide)
      have q1 := hR 1 (by decide)
      have q2 := hR 2 (by decide)
      have q3 := hR 3 (by decide)
      have q4 := hR 4 (by decide)
      have q5 := hR 5 (by decide)
      have q6 := hR 6 (by decide)
      have q7 := hR 7 (by decide)
      have q8 := hR 8 (by decide)
      have q9 := hR 9 (by decide)
      have q10 := hR 10 (by decide)
      have q11 := hR 11 (by decide)
      have q12 := hR 12 (by decide)
      have q13 := hR 13 (by decide)
      change vs 0 = .int .i64 (k : Int) at q0
      change vs 1 = .bool true at q1
      change vs 2 = .bool true at q2
      change vs 3 = .pointer (some ⟨g, 0, none⟩) at q3
      change vs 4 = .pointer (some ⟨g, 0, none⟩) at q4
      change vs 5 = .pointer (some ⟨g, 3, none⟩) at q5
      change vs 6 = .slice (some ⟨bA, 0, none⟩) t.N.length c at q6
      change vs 7 = .int .i64 (k : Int) at q7
      change vs 8 = .pointer (some ⟨bA, k * 22, none⟩) at q8
      change vs 9 = .pointer (some ⟨bA, k * 22, none⟩) at q9
      change vs 10 = .agg x.p.cells.toArray at q10
      change vs 11 = .agg p.cells.toArray at q11
      change vs 12 = .bool false at q12
      change vs 13 = .bool false at q13
      simp only [putAll, Act.put, List.setIfInBounds_toArray, List.set_cons_zero, List.set_cons_succ, q0, q1, q2, q3, q4, q5, q6, q7, q8, q9, q10, q11, q12, q13]
      clear q0 q1 q2 q3 q4 q5 q6 q7 q8 q9 q10 q11 q12 q13
      clear hR
      replace hBE := Lib.hid (hBE.out.trans ((bthen (below_drew _) (grow_below hXx)).mono hBE.out.size))
      replace HP := Lib.hid (HP.out.on (bthen (below_drew _) (grow_below hXx)))
      replace HW := Lib.hid (bthen HW.out (bthen (below_drew _) (grow_below hXx)))
      replace HTR := Lib.hid (HTR.out.on (bthen (below_drew _) (grow_below hXx)))
      clear hXx
      go_wp2_with fail
      go_ret
      exact ⟨rfl, HW.out⟩
    ·rw [if_neg hpq] at hfd
     have HEQ := Lib.hid (decide_eq_false hpq)
     have HPQ := Lib.hid hpq
     clear hpq
     cases hcv : covP x.p p
     ·rw [hcv] at hfd
      have hr0 : r = 0 := by simpa using hfd.symm
      subst hr0
      have HCV := Lib.hid hcv
      clear hfd hcv
      go_wp2_with fail
      refine wp_region_rel (fun A B => A.grownBy B none) (fun A => grown_refl A _) (fun A B C h k => grown_trans h k) (relAt (List.cons (fun v _ => v = .int .i64 (k : Int)) (List.cons (fun v _ => v = .bool true) (List.cons (fun v _ => v = .bool true) (List.cons (fun v _ => v = .pointer (some ⟨g, 0, none⟩)) (List.cons (fun v _ => v = .pointer (some ⟨g, 0, none⟩)) (List.cons (fun v _ => v = .pointer (some ⟨g, 3, none⟩)) (List.cons (fun v _ => v = .slice (some ⟨bA, 0, none⟩) t.N.length c) (List.cons (fun v _ => v = .int .i64 (k : Int)) (List.cons (fun v _ => v = .pointer (some ⟨bA, k * 22, none⟩)) (List.cons (fun v _ => v = .pointer (some ⟨bA, k * 22, none⟩)) (List.cons (fun v _ => v = .agg x.p.cells.toArray) (List.cons (fun v _ => v = .agg p.cells.toArray) (List.cons (fun v _ => v = .bool true) (List.cons (fun v _ => v = .bool true) ([])))))))))))))))) (MonoL.at_ (.cons (mono_val _) (.cons (mono_val _) (.cons (mono_val _) (.cons (mono_val _) (.cons (mono_val _) (.cons (mono_val _) (.cons (mono_val _) (.cons (mono_val _) (.cons (mono_val _) (.cons (mono_val _) (.cons (mono_val _) (.cons (mono_val _) (.cons (mono_val _) (.cons (mono_val _) .nil))))))))))))))) (by kernel_rfl) (by kernel_rfl) ⟨?_, ?_, ?_, ?_, ?_, ?_, ?_, ?_, ?_, ?_, ?_, ?_, ?_, ?_, trivial⟩ ?_
      ·intro a vs W hX hR he hf K hK
       rw [if_pos (wanted_none rfl)]
       have e5 : a.eval (.tmp 5) = .int .i64 (k : Int) := hf 5 (by kernel_rfl)
       refine wp_value (v := .int .i64 (k : Int)) ?_ (hK _ _ rfl (grown_refl W _))
       simp only [execOp, e5]
       try go_simp
      ·intro a vs W hX hR he hf K hK
       rw [if_pos (wanted_none rfl)]
       have e10 : a.eval (.tmp 10) = .int .i64 (k : Int) := (he 0 10 (by kernel_rfl) rfl).trans (hR 0 (by kernel_rfl))
       refine wp_value (v := .bool true) ?_ (hK _ _ rfl (grown_refl W _))
       have h9 := HKN.out
       simp only [execOp, e10]
       go_simp
       try omega
      ·intro a vs W hX hR he hf K hK
       rw [if_pos (wanted_none rfl)]
       have e11 : a.eval (.tmp 11) = .bool true := (he 1 11 (by kernel_rfl) rfl).trans (hR 1 (by kernel_rfl))
       refine wp_value (v := .bool true) ?_ (hK _ _ rfl (grown_refl W _))
       simp only [execOp, e11]
       try go_simp
      ·intro a vs W hX hR he hf K hK
       have e12 : a.eval (.tmp 12) = .bool true := (he 2 12 (by kernel_rfl) rfl).trans (hR 2 (by kernel_rfl))
       refine Eq.mpr (if_pos (by exact (wanted_some rfl rfl e12).trans rfl)) ?_
       have e0 : a.eval (.tmp 0) = .pointer (some ⟨g, 0, none⟩) := hf 0 (by kernel_rfl)
       refine wp_value (v := .pointer (some ⟨g, 0, none⟩)) ?_ (hK _ _ rfl (grown_refl W _))
       simp only [execOp, e0]
       try go_simp
      ·intro a vs W hX hR he hf K hK
       have e12 : a.eval (.tmp 12) = .bool true := (he 2 12 (by kernel_rfl) rfl).trans (hR 2 (by kernel_rfl))
       refine Eq.mpr (if_pos (by exact (wanted_some rfl rfl e12).trans rfl)) ?_
       have e13 : a.eval (.tmp 13) = .pointer (some ⟨g, 0, none⟩) := (he 3 13 (by kernel_rfl) rfl).trans (hR 3 (by kernel_rfl))
       refine wp_value (v := .pointer (some ⟨g, 0, none⟩)) ?_ (hK _ _ rfl (grown_refl W _))
       simp only [execOp, e13]
       try go_simp
      ·intro a vs W hX hR he hf K hK
       have e12 : a.eval (.tmp 12) = .bool true := (he 2 12 (by kernel_rfl) rfl).trans (hR 2 (by kernel_rfl))
       refine Eq.mpr (if_pos (by exact (wanted_some rfl rfl e12).trans rfl)) ?_
       have e14 : a.eval (.tmp 14) = .pointer (some ⟨g, 0, none⟩) := (he 4 14 (by kernel_rfl) rfl).trans (hR 4 (by kernel_rfl))
       refine wp_value (v := .pointer (some ⟨g, 3, none⟩)) ?_ (hK _ _ rfl (grown_refl W _))
       simp only [execOp, e14]
       try go_simp
      ·intro a vs W hX hR he hf K hK
       have e12 : a.eval (.tmp 12) = .bool true := (he 2 12 (by kernel_rfl) rfl).trans (hR 2 (by kernel_rfl))
       refine Eq.mpr (if_pos (by exact (wanted_some rfl rfl e12).trans rfl)) ?_
       have e15 : a.eval (.tmp 15) = .pointer (some ⟨g, 3, none⟩) := (he 5 15 (by kernel_rfl) rfl).trans (hR 5 (by kernel_rfl))
       have hbW := bthen (below_drew _) (grow_below hX)
       have hc : W.cell? ⟨g, 3, none⟩ = some (.slice (some ⟨bA, 0, none⟩) t.N.length c) := (HTR.out.blk.on hbW).cell 3
       refine wp_value (v := _) ?_ (hK _ _ rfl (grown_refl W _))
       simp only [execOp, e15]
       try go_simp
      ·intro a vs W hX hR he hf K hK
       have e12 : a.eval (.tmp 12) = .bool true := (he 2 12 (by kernel_rfl) rfl).trans (hR 2 (by kernel_rfl))
       refine Eq.mpr (if_pos (by exact (wanted_some rfl rfl e12).trans rfl)) ?_
       have e5 : a.eval (.tmp 5) = .int .i64 (k : Int) := hf 5 (by kernel_rfl)
       refine wp_value (v := .int .i64 (k : Int)) ?_ (hK _ _ rfl (grown_refl W _))
       simp only [execOp, e5]
       try go_simp
      ·intro a vs W hX hR he hf K hK
       have e12 : a.eval (.tmp 12) = .bool true := (he 2 12 (by kernel_rfl) rfl).trans (hR 2 (by kernel_rfl))
       refine Eq.mpr (if_pos (by exact (wanted_some rfl rfl e12).trans rfl)) ?_
       have e16 : a.eval (.tmp 16) = .slice (some ⟨bA, 0, none⟩) t.N.length c := (he 6 16 (by kernel_rfl) rfl).trans (hR 6 (by kernel_rfl))
       have e17 : a.eval (.tmp 17) = .int .i64 (k : Int) := (he 7 17 (by kernel_rfl) rfl).trans (hR 7 (by kernel_rfl))
       refine wp_value (v := .pointer (some ⟨bA, k * 22, none⟩)) ?_ (hK _ _ rfl (grown_refl W _))
       simp only [execOp, e16, e17]
       go_simp
      ·intro a vs W hX hR he hf K hK
       have e12 : a.eval (.tmp 12) = .bool true := (he 2 12 (by kernel_rfl) rfl).trans (hR 2 (by kernel_rfl))
       refine Eq.mpr (if_pos (by exact (wanted_some rfl rfl e12).trans rfl)) ?_
       have e18 : a.eval (.tmp 18) = .pointer (some ⟨bA, k * 22, none⟩) := (he 8 18 (by kernel_rfl) rfl).trans (hR 8 (by kernel_rfl))
       refine wp_value (v := .pointer (some ⟨bA, k * 22, none⟩)) ?_ (hK _ _ rfl (grown_refl W _))
       simp only [execOp, e18]
       try go_simp
      ·intro a vs W hX hR he hf K hK
       have e12 : a.eval (.tmp 12) = .bool true := (he 2 12 (by kernel_rfl) rfl).trans (hR 2 (by kernel_rfl))
       refine Eq.mpr (if_pos (by exact (wanted_some rfl rfl e12).trans rfl)) ?_
       have e19 : a.eval (.tmp 19) = .pointer (some ⟨bA, k * 22, none⟩) := (he 9 19 (by kernel_rfl) rfl).trans (hR 9 (by kernel_rfl))
       have hbW := bthen (below_drew _) (grow_below hX)
       exact wp_value (exec_load_mid 30 _ rfl bA (k * 22) e19 x.p.cells _ (range_below hbW HBA.out (Nd.px_range HXR.out)) Try.underlying30 rfl (sizePx _ HXF.out.addr)) (hK _ _ rfl (grown_refl W _))
      ·intro a vs W hX hR he hf K hK
       have e12 : a.eval (.tmp 12) = .bool true := (he 2 12 (by kernel_rfl) rfl).trans (hR 2 (by kernel_rfl))
       refine Eq.mpr (if_pos (by exact (wanted_some rfl rfl e12).trans rfl)) ?_
       have e3 : a.eval (.tmp 3) = .pointer (some ⟨g1, 0, none⟩) := hf 3 (by kernel_rfl)
       have hbW := bthen (below_drew _) (grow_below hX)
       exact wp_value (exec_load 30 _ rfl g1 e3 30 p.cells _ (HP.out.on hbW) Try.underlying30 rfl (sizePx _ HF.out.addr)) (hK _ _ rfl (grown_refl W _))
      ·intro a vs W hX hR he hf K hK
       have e12 : a.eval (.tmp 12) = .bool true := (he 2 12 (by kernel_rfl) rfl).trans (hR 2 (by kernel_rfl))
       refine Eq.mpr (if_pos (by exact (wanted_some rfl rfl e12).trans rfl)) ?_
       have e20 : a.eval (.tmp 20) = .agg x.p.cells.toArray := (he 10 20 (by kernel_rfl) rfl).trans (hR 10 (by kernel_rfl))
       have e21 : a.eval (.tmp 21) = .agg p.cells.toArray := (he 11 21 (by kernel_rfl) rfl).trans (hR 11 (by kernel_rfl))
       exact wp_value (exec_nePx _ _ _ rfl x.p p HXF.out.addr HF.out.addr false HEQ.out e20 e21) (hK _ _ rfl (grown_refl W _))
      ·intro a vs W hX hR he hf K hK
       rw [if_pos (wanted_none rfl)]
       have e12 : a.eval (.tmp 12) = .bool true := (he 2 12 (by kernel_rfl) rfl).trans (hR 2 (by kernel_rfl))
       have e22 : a.eval (.tmp 22) = .bool true := (he 12 22 (by kernel_rfl) rfl).trans (hR 12 (by kernel_rfl))
       refine wp_value (v := .bool true) ?_ (hK _ _ rfl (grown_refl W _))
       simp only [execOp, e12, e22]
       try go_simp
      ·intro vs wx hXx hR
       have q0 := hR 0 (by decide)
       have q1 := hR 1 (by decide)
       have q2 := hR 2 (by decide)
       have q3 := hR 3 (by decide)
       have q4 := hR 4 (by decide)
       have q5 := hR 5 (by decide)
       have q6 := hR 6 (by decide)
       have q7 := hR 7 (by decide)
       have q8 := hR 8 (by decide)
       have q9 := hR 9 (by decide)
       have q10 := hR 10 (by decide)
       have q11 := hR 11 (by decide)
       have q12 := hR 12 (by decide)
       have q13 := hR 13 (by decide)
       change vs 0 = .int .i64 (k : Int) at q0
       change vs 1 = .bool true at q1
       change vs 2 = .bool true at q2
       change vs 3 = .pointer (some ⟨g, 0, none⟩) at q3
       change vs 4 = .pointer (some ⟨g, 0, none⟩) at q4
       change vs 5 = .pointer (some ⟨g, 3, none⟩) at q5
       change vs 6 = .slice (some ⟨bA, 0, none⟩) t.N.length c at q6
       change vs 7 = .int .i64 (k : Int) at q7
       change vs 8 = .pointer (some ⟨bA, k * 22, none⟩) at q8
       change vs 9 = .pointer (some ⟨bA, k * 22, none⟩) at q9
       change vs 10 = .agg x.p.cells.toArray at q10
       change vs 11 = .agg p.cells.toArray at q11
       change vs 12 = .bool true at q12
       change vs 13 = .bool true at q13
       simp only [putAll, Act.put, List.setIfInBounds_toArray, List.set_cons_zero, List.set_cons_succ, q0, q1, q2, q3, q4, q5, q6, q7, q8, q9, q10, q11, q12, q13]
       clear q0 q1 q2 q3 q4 q5 q6 q7 q8 q9 q10 q11 q12 q13
       clear hR
       replace hBE := Lib.hid (hBE.out.trans ((bthen (below_drew _) (grow_below hXx)).mono hBE.out.size))
       replace HP := Lib.hid (HP.out.on (bthen (below_drew _) (grow_below hXx)))
       replace HW := Lib.hid (bthen HW.out (bthen (below_drew _) (grow_below hXx)))
       replace HTR := Lib.hid (HTR.out.on (bthen (below_drew _) (grow_below hXx)))
       replace HXR := Lib.hid (range_below (bthen (below_drew _) (grow_below hXx)) HBA.out HXR.out)
       replace HBA := Lib.hid (Nat.lt_of_lt_of_le HBA.out (bthen (below_drew _) (grow_below hXx)).size)
       clear hXx
       go_wp2_with fail
       refine wp_region_rel (fun A B => A.grownBy B none) (fun A => grown_refl A _) (fun A B C h k => grown_trans h k) (relAt (List.cons (fun v _ => v = .pointer (some ⟨g, 0, none⟩)) (List.cons (fun v _ => v = .pointer (some ⟨g, 0, none⟩)) (List.cons (fun v _ => v = .pointer (some ⟨g, 3, none⟩)) (List.cons (fun v _ => v = .slice (some ⟨bA, 0, none⟩) t.N.length c) (List.cons (fun v _ => v = .int .i64 (k : Int)) (List.cons (fun v _ => v = .pointer (some ⟨bA, k * 22, none⟩)) (List.cons (fun v _ => v = .pointer (some ⟨bA, k * 22, none⟩)) (List.cons (fun v _ => v = .agg x.p.cells.toArray) (List.cons (fun v _ => v = .agg p.cells.toArray) (List.cons (fun v _ => v = .bool false) (List.cons (fun v _ => v = .bool true) (List.cons (fun v _ => v = .bool true) (List.cons (fun v _ => v = undef) (List.cons (fun v _ => v = undef) (List.cons (fun v _ => v = undef) (List.cons (fun v _ => v = undef) (List.cons (fun v _ => v = undef) (List.cons (fun v _ => v = undef) (List.cons (fun v _ => v = undef) (List.cons (fun v _ => v = undef) (List.cons (fun v _ => v = undef) (List.cons (fun v _ => v = undef) (List.cons (fun v _ => v = undef) (List.cons (fun v _ => v = undef) (List.cons (fun v _ => v = .bool true) ([]))))))))))))))))))))))))))) (MonoL.at_ (.cons (mono_val _) (.cons (mono_val _) (.cons (mono_val _) (.cons (mono_val _) (.cons (mono_val _) (.cons (mono_val _) (.cons (mono_val _) (.cons (mono_val _) (.cons (mono_val _) (.cons (mono_val _) (.cons (mono_val _) (.cons (mono_val _) (.cons (mono_val _) (.cons (mono_val _) (.cons (mono_val _) (.cons (mono_val _) (.cons (mono_val _) (.cons (mono_val _) (.cons (mono_val _) (.cons (mono_val _) (.cons (mono_val _) (.cons (mono_val _) (.cons (mono_val _) (.cons (mono_val _) (.cons (mono_val _) .nil)))))))))))))))))))))))))) (by kernel_rfl) (by kernel_rfl) ⟨?_, ?_, ?_, ?_, ?_, ?_, ?_, ?_, ?_, ?_, ?_, ?_, ?_, ?_, ?_, ?_, ?_, ?_, ?_, ?_, ?_, ?_, ?_, ?_, ?_, trivial⟩ ?_
       ·intro a vs W hX hR he hf K hK
        rw [if_pos (wanted_none rfl)]
        have e0 : a.eval (.tmp 0) = .pointer (some ⟨g, 0, none⟩) := hf 0 (by kernel_rfl)
        refine wp_value (v := .pointer (some ⟨g, 0, none⟩)) ?_ (hK _ _ rfl (grown_refl W _))
        simp only [execOp, e0]
        try go_simp
       ·intro a vs W hX hR he hf K hK
        rw [if_pos (wanted_none rfl)]
        have e24 : a.eval (.tmp 24) = .pointer (some ⟨g, 0, none⟩) := (he 0 24 (by kernel_rfl) rfl).trans (hR 0 (by kernel_rfl))
        refine wp_value (v := .pointer (some ⟨g, 0, none⟩)) ?_ (hK _ _ rfl (grown_refl W _))
        simp only [execOp, e24]
        try go_simp
       ·intro a vs W hX hR he hf K hK
        rw [if_pos (wanted_none rfl)]
        have e25 : a.eval (.tmp 25) = .pointer (some ⟨g, 0, none⟩) := (he 1 25 (by kernel_rfl) rfl).trans (hR 1 (by kernel_rfl))
        refine wp_value (v := .pointer (some ⟨g, 3, none⟩)) ?_ (hK _ _ rfl (grown_refl W _))
        simp only [execOp, e25]
        try go_simp
       ·intro a vs W hX hR he hf K hK
        rw [if_pos (wanted_none rfl)]
        have e26 : a.eval (.tmp 26) = .pointer (some ⟨g, 3, none⟩) := (he 2 26 (by kernel_rfl) rfl).trans (hR 2 (by kernel_rfl))
        have hbW := bthen (below_drew _) (grow_below hX)
        have hc : W.cell? ⟨g, 3, none⟩ = some (.slice (some ⟨bA, 0, none⟩) t.N.length c) := (HTR.out.blk.on hbW).cell 3
        refine wp_value (v := _) ?_ (hK _ _ rfl (grown_refl W _))
        simp only [execOp, e26]
        try go_simp
       ·intro a vs W hX hR he hf K hK
        rw [if_pos (wanted_none rfl)]
        have e5 : a.eval (.tmp 5) = .int .i64 (k : Int) := hf 5 (by kernel_rfl)
        refine wp_value (v := .int .i64 (k : Int)) ?_ (hK _ _ rfl (grown_refl W _))
        simp only [execOp, e5]
        try go_simp
       ·intro a vs W hX hR he hf K hK
        rw [if_pos (wanted_none rfl)]
        have e27 : a.eval (.tmp 27) = .slice (some ⟨bA, 0, none⟩) t.N.length c := (he 3 27 (by kernel_rfl) rfl).trans (hR 3 (by kernel_rfl))
        have e28 : a.eval (.tmp 28) = .int .i64 (k : Int) := (he 4 28 (by kernel_rfl) rfl).trans (hR 4 (by kernel_rfl))
        refine wp_value (v := .pointer (some ⟨bA, k * 22, none⟩)) ?_ (hK _ _ rfl (grown_refl W _))
        simp only [execOp, e27, e28]
        go_simp
       ·intro a vs W hX hR he hf K hK
        rw [if_pos (wanted_none rfl)]
        have e29 : a.eval (.tmp 29) = .pointer (some ⟨bA, k * 22, none⟩) := (he 5 29 (by kernel_rfl) rfl).trans (hR 5 (by kernel_rfl))
        refine wp_value (v := .pointer (some ⟨bA, k * 22, none⟩)) ?_ (hK _ _ rfl (grown_refl W _))
        simp only [execOp, e29]
        try go_simp
       ·intro a vs W hX hR he hf K hK
        rw [if_pos (wanted_none rfl)]
        have e30 : a.eval (.tmp 30) = .pointer (some ⟨bA, k * 22, none⟩) := (he 6 30 (by kernel_rfl) rfl).trans (hR 6 (by kernel_rfl))
        have hbW := bthen (below_drew _) (grow_below hX)
        exact wp_value (exec_load_mid 30 _ rfl bA (k * 22) e30 x.p.cells _ (range_below hbW HBA.out (Nd.px_range HXR.out)) Try.underlying30 rfl (sizePx _ HXF.out.addr)) (hK _ _ rfl (grown_refl W _))
       ·intro a vs W hX hR he hf K hK
        rw [if_pos (wanted_none rfl)]
        have e3 : a.eval (.tmp 3) = .pointer (some ⟨g1, 0, none⟩) := hf 3 (by kernel_rfl)
        have hbW := bthen (below_drew _) (grow_below hX)
        exact wp_value (exec_load 30 _ rfl g1 e3 30 p.cells _ (HP.out.on hbW) Try.underlying30 rfl (sizePx _ HF.out.addr)) (hK _ _ rfl (grown_refl W _))
       ·intro a vs W hX hR he hf K hK
        rw [if_pos (wanted_none rfl)]
        have e31 : a.eval (.tmp 31) = .agg x.p.cells.toArray := (he 7 31 (by kernel_rfl) rfl).trans (hR 7 (by kernel_rfl))
        have e32 : a.eval (.tmp 32) = .agg p.cells.toArray := (he 8 32 (by kernel_rfl) rfl).trans (hR 8 (by kernel_rfl))
        refine wp_enter (f := 40) (args := #[.agg x.p.cells.toArray, .agg p.cells.toArray]) (by simp only [execOp, e31, e32]; go_simp; exact ⟨by simpa [Act.eval] using e31, by simpa [Act.eval] using e32⟩) ((covers_any x.p HXF.out p HF.out W).mono ?_)
        rintro e w' ⟨rfl, hb⟩
        rw [HCV.out]
        exact ⟨_, rfl, hK _ _ rfl (below_grow hb _)⟩
       ·intro a vs W hX hR he hf K hK
        rw [if_pos (wanted_none rfl)]
        have e33 : a.eval (.tmp 33) = .bool false := (he 9 33 (by kernel_rfl) rfl).trans (hR 9 (by kernel_rfl))
        refine wp_value (v := .bool true) ?_ (hK _ _ rfl (grown_refl W _))
        simp only [execOp, e33]
        try go_simp
       ·intro a vs W hX hR he hf K hK
        rw [if_pos (wanted_none rfl)]
        have e34 : a.eval (.tmp 34) = .bool true := (he 10 34 (by kernel_rfl) rfl).trans (hR 10 (by kernel_rfl))
        refine wp_value (v := .bool true) ?_ (hK _ _ rfl (grown_refl W _))
        simp only [execOp, e34]
        try go_simp
       ·intro a vs W hX hR he hf K hK
        have e35 : a.eval (.tmp 35) = .bool true := (he 11 35 (by kernel_rfl) rfl).trans (hR 11 (by kernel_rfl))
        refine Eq.mpr (if_neg (fun hz => Bool.false_ne_true (Eq.trans (by exact Eq.symm ((wanted_some rfl rfl e35).trans rfl)) hz))) ?_
        exact hK _ _ rfl (grown_refl W _)
       ·intro a vs W hX hR he hf K hK
        have e35 : a.eval (.tmp 35) = .bool true := (he 11 35 (by kernel_rfl) rfl).trans (hR 11 (by kernel_rfl))
        refine Eq.mpr (if_neg (fun hz => Bool.false_ne_true (Eq.trans (by exact Eq.symm ((wanted_some rfl rfl e35).trans rfl)) hz))) ?_
        exact hK _ _ rfl (grown_refl W _)
       ·intro a vs W hX hR he hf K hK
        have e35 : a.eval (.tmp 35) = .bool true := (he 11 35 (by kernel_rfl) rfl).trans (hR 11 (by kernel_rfl))
        refine Eq.mpr (if_neg (fun hz => Bool.false_ne_true (Eq.trans (by exact Eq.symm ((wanted_some rfl rfl e35).trans rfl)) hz))) ?_
        exact hK _ _ rfl (grown_refl W _)
       ·intro a vs W hX hR he hf K hK
        have e35 : a.eval (.tmp 35) = .bool true := (he 11 35 (by kernel_rfl) rfl).trans (hR 11 (by kernel_rfl))
        refine Eq.mpr (if_neg (fun hz => Bool.false_ne_true (Eq.trans (by exact Eq.symm ((wanted_some rfl rfl e35).trans rfl)) hz))) ?_
        exact hK _ _ rfl (grown_refl W _)
       ·intro a vs W hX hR he hf K hK
        have e35 : a.eval (.tmp 35) = .bool true := (he 11 35 (by kernel_rfl) rfl).trans (hR 11 (by kernel_rfl))
        refine Eq.mpr (if_neg (fun hz => Bool.false_ne_true (Eq.trans (by exact Eq.symm ((wanted_some rfl rfl e35).trans rfl)) hz))) ?_
        exact hK _ _ rfl (grown_refl W _)
       ·intro a vs W hX hR he hf K hK
        have e35 : a.eval (.tmp 35) = .bool true := (he 11 35 (by kernel_rfl) rfl).trans (hR 11 (by kernel_rfl))
        refine Eq.mpr (if_neg (fun hz => Bool.false_ne_true (Eq.trans (by exact Eq.symm ((wanted_some rfl rfl e35).trans rfl)) hz))) ?_
        exact hK _ _ rfl (grown_refl W _)
       ·intro a vs W hX hR he hf K hK
        have e35 : a.eval (.tmp 35) = .bool true := (he 11 35 (by kernel_rfl) rfl).trans (hR 11 (by kernel_rfl))
        refine Eq.mpr (if_neg (fun hz => Bool.false_ne_true (Eq.trans (by exact Eq.symm ((wanted_some rfl rfl e35).trans rfl)) hz))) ?_
        exact hK _ _ rfl (grown_refl W _)
       ·intro a vs W hX hR he hf K hK
        have e35 : a.eval (.tmp 35) = .bool true := (he 11 35 (by kernel_rfl) rfl).trans (hR 11 (by kernel_rfl))
        refine Eq.mpr (if_neg (fun hz => Bool.false_ne_true (Eq.trans (by exact Eq.symm ((wanted_some rfl rfl e35).trans rfl)) hz))) ?_
        exact hK _ _ rfl (grown_refl W _)
       ·intro a vs W hX hR he hf K hK
        have e35 : a.eval (.tmp 35) = .bool true := (he 11 35 (by kernel_rfl) rfl).trans (hR 11 (by kernel_rfl))
        refine Eq.mpr (if_neg (fun hz => Bool.false_ne_true (Eq.trans (by exact Eq.symm ((wanted_some rfl rfl e35).trans rfl)) hz))) ?_
        exact hK _ _ rfl (grown_refl W _)
       ·intro a vs W hX hR he hf K hK
        have e35 : a.eval (.tmp 35) = .bool true := (he 11 35 (by kernel_rfl) rfl).trans (hR 11 (by kernel_rfl))
        refine Eq.mpr (if_neg (fun hz => Bool.false_ne_true (Eq.trans (by exact Eq.symm ((wanted_some rfl rfl e35).trans rfl)) hz))) ?_
        exact hK _ _ rfl (grown_refl W _)
       ·intro a vs W hX hR he hf K hK
        have e35 : a.eval (.tmp 35) = .bool true := (he 11 35 (by kernel_rfl) rfl).trans (hR 11 (by kernel_rfl))
        refine Eq.mpr (if_neg (fun hz => Bool.false_ne_true (Eq.trans (by exact Eq.symm ((wanted_some rfl rfl e35).trans rfl)) hz))) ?_
        exact hK _ _ rfl (grown_refl W _)
       ·intro a vs W hX hR he hf K hK
        have e35 : a.eval (.tmp 35) = .bool true := (he 11 35 (by kernel_rfl) rfl).trans (hR 11 (by kernel_rfl))
        refine Eq.mpr (if_neg (fun hz => Bool.false_ne_true (Eq.trans (by exact Eq.symm ((wanted_some rfl rfl e35).trans rfl)) hz))) ?_
        exact hK _ _ rfl (grown_refl W _)
       ·intro a vs W hX hR he hf K hK
        rw [if_pos (wanted_none rfl)]
        have e35 : a.eval (.tmp 35) = .bool true := (he 11 35 (by kernel_rfl) rfl).trans (hR 11 (by kernel_rfl))
        have e47 : a.eval (.tmp 47) = undef := (he 23 47 (by kernel_rfl) rfl).trans (hR 23 (by kernel_rfl))
        refine wp_value (v := .bool true) ?_ (hK _ _ rfl (grown_refl W _))
        simp only [execOp, e35, e47]
        try go_simp
       ·intro vs wx hXx hR
        have q0 := hR 0 (by decide)
        have q1 := hR 1 (by decide)
        have q2 := hR 2 (by decide)
        have q3 := hR 3 (by decide)
        have q4 := hR 4 (by decide)
        have q5 := hR 5 (by decide)
        have q6 := hR 6 (by decide)
        have q7 := hR 7 (by decide)
        have q8 := hR 8 (by decide)
        have q9 := hR 9 (by decide)
        have q10 := hR 10 (by decide)
        have q11 := hR 11 (by decide)
        have q12 := hR 12 (by decide)
        have q13 := hR 13 (by decide)
        have q14 := hR 14 (by decide)
        have q15 := hR 15 (by decide)
        have q16 := hR 16 (by decide)
        have q17 := hR 17 (by decide)
        have q18 := hR 18 (by decide)
        have q19 := hR 19 (by decide)
        have q20 := hR 20 (by decide)
        have q21 := hR 21 (by decide)
        have q22 := hR 22 (by decide)
        have q23 := hR 23 (by decide)
        have q24 := hR 24 (by decide)
        change vs 0 = .pointer (some ⟨g, 0, none⟩) at q0
        change vs 1 = .pointer (some ⟨g, 0, none⟩) at q1
        change vs 2 = .pointer (some ⟨g, 3, none⟩) at q2
        change vs 3 = .slice (some ⟨bA, 0, none⟩) t.N.length c at q3
        change vs 4 = .int .i64 (k : Int) at q4
        change vs 5 = .pointer (some ⟨bA, k * 22, none⟩) at q5
        change vs 6 = .pointer (some ⟨bA, k * 22, none⟩) at q6
        change vs 7 = .agg x.p.cells.toArray at q7
        change vs 8 = .agg p.cells.toArray at q8
        change vs 9 = .bool false at q9
        change vs 10 = .bool true at q10
        change vs 11 = .bool true at q11
        change vs 12 = undef at q12
        change vs 13 = undef at q13
        change vs 14 = undef at q14
        change vs 15 = undef at q15
        change vs 16 = undef at q16
        change vs 17 = undef at q17
        change vs 18 = undef at q18
        change vs 19 = undef at q19
        change vs 20 = undef at q20
        change vs 21 = undef at q21
        change vs 22 = undef at q22
        change vs 23 = undef at q23
        change vs 24 = .bool true at q24
        simp only [putAll, Act.put, List.setIfInBounds_toArray, List.set_cons_zero, List.set_cons_succ, q0, q1, q2, q3, q4, q5, q6, q7, q8, q9, q10, q11, q12, q13, q14, q15, q16, q17, q18, q19, q20, q21, q22, q23, q24]
        clear q0 q1 q2 q3 q4 q5 q6 q7 q8 q9 q10 q11 q12 q13 q14 q15 q16 q17 q18 q19 q20 q21 q22 q23 q24
        clear hR
        replace hBE := Lib.hid (hBE.out.trans ((bthen (below_drew _) (grow_below hXx)).mono hBE.out.size))
        replace HP := Lib.hid (HP.out.on (bthen (below_drew _) (grow_below hXx)))
        replace HW := Lib.hid (bthen HW.out (bthen (below_drew _) (grow_below hXx)))
        replace HTR := Lib.hid (HTR.out.on (bthen (below_drew _) (grow_below hXx)))
        clear hXx
        go_wp2_with fail
        go_ret
        exact ⟨rfl, HW.out⟩
     ·rw [hcv, Bool.true_and] at hfd
      have HCV := Lib.hid hcv
      by_cases hle : x.p.len = p.len
      ·rw [decide_eq_true hle] at hfd
       have hr0 : r = 0 := by simpa using hfd.symm
       subst hr0
       have HLE := Lib.hid hle
       clear hfd hcv hle
       go_wp2_with fail
       refine wp_region_rel (fun A B => A.grownBy B none) (fun A => grown_refl A _) (fun A B C h k => grown_trans h k) (relAt (List.cons (fun v _ => v = .int .i64 (k : Int)) (List.cons (fun v _ => v = .bool true) (List.cons (fun v _ => v = .bool true) (List.cons (fun v _ => v = .pointer (some ⟨g, 0, none⟩)) (List.cons (fun v _ => v = .pointer (some ⟨g, 0, none⟩)) (List.cons (fun v _ => v = .pointer (some ⟨g, 3, none⟩)) (List.cons (fun v _ => v = .slice (some ⟨bA, 0, none⟩) t.N.length c) (List.cons (fun v _ => v = .int .i64 (k : Int)) (List.cons (fun v _ => v = .pointer (some ⟨bA, k * 22, none⟩)) (List.cons (fun v _ => v = .pointer (some ⟨bA, k * 22, none⟩)) (List.cons (fun v _ => v = .agg x.p.cells.toArray) (List.cons (fun v _ => v = .agg p.cells.toArray) (List.cons (fun v _ => v = .bool true) (List.cons (fun v _ => v = .bool true) ([])))))))))))))))) (MonoL.at_ (.cons (mono_val _) (.cons (mono_val _) (.cons (mono_val _) (.cons (mono_val _) (.cons (mono_val _) (.cons (mono_val _) (.cons (mono_val _) (.cons (mono_val _) (.cons (mono_val _) (.cons (mono_val _) (.cons (mono_val _) (.cons (mono_val _) (.cons (mono_val _) (.cons (mono_val _) .nil))))))))))))))) (by kernel_rfl) (by kernel_rfl) ⟨?_, ?_, ?_, ?_, ?_, ?_, ?_, ?_, ?_, ?_, ?_, ?_, ?_, ?_, trivial⟩ ?_
       ·intro a vs W hX hR he hf K hK
        rw [if_pos (wanted_none rfl)]
        have e5 : a.eval (.tmp 5) = .int .i64 (k : Int) := hf 5 (by kernel_rfl)
        refine wp_value (v := .int .i64 (k : Int)) ?_ (hK _ _ rfl (grown_refl W _))
        simp only [execOp, e5]
        try go_simp
       ·intro a vs W hX hR he hf K hK
        rw [if_pos (wanted_none rfl)]
        have e10 : a.eval (.tmp 10) = .int .i64 (k : Int) := (he 0 10 (by kernel_rfl) rfl).trans (hR 0 (by kernel_rfl))
        refine wp_value (v := .bool true) ?_ (hK _ _ rfl (grown_refl W _))
        have h9 := HKN.out
        simp only [execOp, e10]
        go_simp
        try omega
       ·intro a vs W hX hR he hf K hK
        rw [if_pos (wanted_none rfl)]
        have e11 : a.eval (.tmp 11) = .bool true := (he 1 11 (by kernel_rfl) rfl).trans (hR 1 (by kernel_rfl))
        refine wp_value (v := .bool true) ?_ (hK _ _ rfl (grown_refl W _))
        simp only [execOp, e11]
        try go_simp
       ·intro a vs W hX hR he hf K hK
        have e12 : a.eval (.tmp 12) = .bool true := (he 2 12 (by kernel_rfl) rfl).trans (hR 2 (by kernel_rfl))
        refine Eq.mpr (if_pos (by exact (wanted_some rfl rfl e12).trans rfl)) ?_
        have e0 : a.eval (.tmp 0) = .pointer (some ⟨g, 0, none⟩) := hf 0 (by kernel_rfl)
        refine wp_value (v := .pointer (some ⟨g, 0, none⟩)) ?_ (hK _ _ rfl (grown_refl W _))
        simp only [execOp, e0]
        try go_simp
       ·intro a vs W hX hR he hf K hK
        have e12 : a.eval (.tmp 12) = .bool true := (he 2 12 (by kernel_rfl) rfl).trans (hR 2 (by kernel_rfl))
        refine Eq.mpr (if_pos (by exact (wanted_some rfl rfl e12).trans rfl)) ?_
        have e13 : a.eval (.tmp 13) = .pointer (some ⟨g, 0, none⟩) := (he 3 13 (by kernel_rfl) rfl).trans (hR 3 (by kernel_rfl))
        refine wp_value (v := .pointer (some ⟨g, 0, none⟩)) ?_ (hK _ _ rfl (grown_refl W _))
        simp only [execOp, e13]
        try go_simp
       ·intro a vs W hX hR he hf K hK
        have e12 : a.eval (.tmp 12) = .bool true := (he 2 12 (by kernel_rfl) rfl).trans (hR 2 (by kernel_rfl))
        refine Eq.mpr (if_pos (by exact (wanted_some rfl rfl e12).trans rfl)) ?_
        have e14 : a.eval (.tmp 14) = .pointer (some ⟨g, 0, none⟩) := (he 4 14 (by kernel_rfl) rfl).trans (hR 4 (by kernel_rfl))
        refine wp_value (v := .pointer (some ⟨g, 3, none⟩)) ?_ (hK _ _ rfl (grown_refl W _))
        simp only [execOp, e14]
        try go_simp
       ·intro a vs W hX hR he hf K hK
        have e12 : a.eval (.tmp 12) = .bool true := (he 2 12 (by kernel_rfl) rfl).trans (hR 2 (by kernel_rfl))
        refine Eq.mpr (if_pos (by exact (wanted_some rfl rfl e12).trans rfl)) ?_
        have e15 : a.eval (.tmp 15) = .pointer (some ⟨g, 3, none⟩) := (he 5 15 (by kernel_rfl) rfl).trans (hR 5 (by kernel_rfl))
        have hbW := bthen (below_drew _) (grow_below hX)
        have hc : W.cell? ⟨g, 3, none⟩ = some (.slice (some ⟨bA, 0, none⟩) t.N.length c) := (HTR.out.blk.on hbW).cell 3
        refine wp_value (v := _) ?_ (hK _ _ rfl (grown_refl W _))
        simp only [execOp, e15]
        try go_simp
       ·intro a vs W hX hR he hf K hK
        have e12 : a.eval (.tmp 12) = .bool true := (he 2 12 (by kernel_rfl) rfl).trans (hR 2 (by kernel_rfl))
        refine Eq.mpr (if_pos (by exact (wanted_some rfl rfl e12).trans rfl)) ?_
        have e5 : a.eval (.tmp 5) = .int .i64 (k : Int) := hf 5 (by kernel_rfl)
        refine wp_value (v := .int .i64 (k : Int)) ?_ (hK _ _ rfl (grown_refl W _))
        simp only [execOp, e5]
        try go_simp
       ·intro a vs W hX hR he hf K hK
        have e12 : a.eval (.tmp 12) = .bool true := (he 2 12 (by kernel_rfl) rfl).trans (hR 2 (by kernel_rfl))
        refine Eq.mpr (if_pos (by exact (wanted_some rfl rfl e12).trans rfl)) ?_
        have e16 : a.eval (.tmp 16) = .slice (some ⟨bA, 0, none⟩) t.N.length c := (he 6 16 (by kernel_rfl) rfl).trans (hR 6 (by kernel_rfl))
        have e17 : a.eval (.tmp 17) = .int .i64 (k : Int) := (he 7 17 (by kernel_rfl) rfl).trans (hR 7 (by kernel_rfl))
        refine wp_value (v := .pointer (some ⟨bA, k * 22, none⟩)) ?_ (hK _ _ rfl (grown_refl W _))
        simp only [execOp, e16, e17]
        go_simp
       ·intro a vs W hX hR he hf K hK
        have e12 : a.eval (.tmp 12) = .bool true := (he 2 12 (by kernel_rfl) rfl).trans (hR 2 (by kernel_rfl))
        refine Eq.mpr (if_pos (by exact (wanted_some rfl rfl e12).trans rfl)) ?_
        have e18 : a.eval (.tmp 18) = .pointer (some ⟨bA, k * 22, none⟩) := (he 8 18 (by kernel_rfl) rfl).trans (hR 8 (by kernel_rfl))
        refine wp_value (v := .pointer (some ⟨bA, k * 22, none⟩)) ?_ (hK _ _ rfl (grown_refl W _))
        simp only [execOp, e18]
        try go_simp
       ·intro a vs W hX hR he hf K hK
        have e12 : a.eval (.tmp 12) = .bool true := (he 2 12 (by kernel_rfl) rfl).trans (hR 2 (by kernel_rfl))
        refine Eq.mpr (if_pos (by exact (wanted_some rfl rfl e12).trans rfl)) ?_
        have e19 : a.eval (.tmp 19) = .pointer (some ⟨bA, k * 22, none⟩) := (he 9 19 (by kernel_rfl) rfl).trans (hR 9 (by kernel_rfl))
        have hbW := bthen (below_drew _) (grow_below hX)
        exact wp_value (exec_load_mid 30 _ rfl bA (k * 22) e19 x.p.cells _ (range_below hbW HBA.out (Nd.px_range HXR.out)) Try.underlying30 rfl (sizePx _ HXF.out.addr)) (hK _ _ rfl (grown_refl W _))
       ·intro a vs W hX hR he hf K hK
        have e12 : a.eval (.tmp 12) = .bool true := (he 2 12 (by kernel_rfl) rfl).trans (hR 2 (by kernel_rfl))
        refine Eq.mpr (if_pos (by exact (wanted_some rfl rfl e12).trans rfl)) ?_
        have e3 : a.eval (.tmp 3) = .pointer (some ⟨g1, 0, none⟩) := hf 3 (by kernel_rfl)
        have hbW := bthen (below_drew _) (grow_below hX)
        exact wp_value (exec_load 30 _ rfl g1 e3 30 p.cells _ (HP.out.on hbW) Try.underlying30 rfl (sizePx _ HF.out.addr)) (hK _ _ rfl (grown_refl W _))
       ·intro a vs W hX hR he hf K hK
        have e12 : a.eval (.tmp 12) = .bool true := (he 2 12 (by kernel_rfl) rfl).trans (hR 2 (by kernel_rfl))
        refine Eq.mpr (if_pos (by exact (wanted_some rfl rfl e12).trans rfl)) ?_
        have e20 : a.eval (.tmp 20) = .agg x.p.cells.toArray := (he 10 20 (by kernel_rfl) rfl).trans (hR 10 (by kernel_rfl))
        have e21 : a.eval (.tmp 21) = .agg p.cells.toArray := (he 11 21 (by kernel_rfl) rfl).trans (hR 11 (by kernel_rfl))
        exact wp_value (exec_nePx _ _ _ rfl x.p p HXF.out.addr HF.out.addr false HEQ.out e20 e21) (hK _ _ rfl (grown_refl W _))
       ·intro a vs W hX hR he hf K hK
        rw [if_pos (wanted_none rfl)]
        have e12 : a.eval (.tmp 12) = .bool true := (he 2 12 (by kernel_rfl) rfl).trans (hR 2 (by kernel_rfl))
        have e22 : a.eval (.tmp 22) = .bool true := (he 12 22 (by kernel_rfl) rfl).trans (hR 12 (by kernel_rfl))
        refine wp_value (v := .bool true) ?_ (hK _ _ rfl (grown_refl W _))
        simp only [execOp, e12, e22]
        try go_simp
       ·intro vs wx hXx hR
        have q0 := hR 0 (by decide)
        have q1 := hR 1 (by decide)
        have q2 := hR 2 (by decide)
        have q3 := hR 3 (by decide)
        have q4 := hR 4 (by decide)
        have q5 := hR 5 (by decide)
        have q6 := hR 6 (by decide)
        have q7 := hR 7 (by decide)
        have q8 := hR 8 (by decide)
        have q9 := hR 9 (by decide)
        have q10 := hR 10 (by decide)
        have q11 := hR 11 (by decide)
        have q12 := hR 12 (by decide)
        have q13 := hR 13 (by decide)
        change vs 0 = .int .i64 (k : Int) at q0
        change vs 1 = .bool true at q1
        change vs 2 = .bool true at q2
        change vs 3 = .pointer (some ⟨g, 0, none⟩) at q3
        change vs 4 = .pointer (some ⟨g, 0, none⟩) at q4
        change vs 5 = .pointer (some ⟨g, 3, none⟩) at q5
        change vs 6 = .slice (some ⟨bA, 0, none⟩) t.N.length c at q6
        change vs 7 = .int .i64 (k : Int) at q7
        change vs 8 = .pointer (some ⟨bA, k * 22, none⟩) at q8
        change vs 9 = .pointer (some ⟨bA, k * 22, none⟩) at q9
        change vs 10 = .agg x.p.cells.toArray at q10
        change vs 11 = .agg p.cells.toArray at q11
        change vs 12 = .bool true at q12
        change vs 13 = .bool true at q13
        simp only [putAll, Act.put, List.setIfInBounds_toArray, List.set_cons_zero, List.set_cons_succ, q0, q1, q2, q3, q4, q5, q6, q7, q8, q9, q10, q11, q12, q13]
        clear q0 q1 q2 q3 q4 q5 q6 q7 q8 q9 q10 q11 q12 q13
        clear hR
        replace hBE := Lib.hid (hBE.out.trans ((bthen (below_drew _) (grow_below hXx)).mono hBE.out.size))
        replace HP := Lib.hid (HP.out.on (bthen (below_drew _) (grow_below hXx)))
        replace HW := Lib.hid (bthen HW.out (bthen (below_drew _) (grow_below hXx)))
        replace HTR := Lib.hid (HTR.out.on (bthen (below_drew _) (grow_below hXx)))
        replace HXR := Lib.hid (range_below (bthen (below_drew _) (grow_below hXx)) HBA.out HXR.out)
        replace HBA := Lib.hid (Nat.lt_of_lt_of_le HBA.out (bthen (below_drew _) (grow_below hXx)).size)
        clear hXx
        go_wp2_with fail
        refine wp_region_rel (fun A B => A.grownBy B none) (fun A => grown_refl A _) (fun A B C h k => grown_trans h k) (relAt (List.cons (fun v _ => v = .pointer (some ⟨g, 0, none⟩)) (List.cons (fun v _ => v = .pointer (some ⟨g, 0, none⟩)) (List.cons (fun v _ => v = .pointer (some ⟨g, 3, none⟩)) (List.cons (fun v _ => v = .slice (some ⟨bA, 0, none⟩) t.N.length c) (List.cons (fun v _ => v = .int .i64 (k : Int)) (List.cons (fun v _ => v = .pointer (some ⟨bA, k * 22, none⟩)) (List.cons (fun v _ => v = .pointer (some ⟨bA, k * 22, none⟩)) (List.cons (fun v _ => v = .agg x.p.cells.toArray) (List.cons (fun v _ => v = .agg p.cells.toArray) (List.cons (fun v _ => v = .bool true) (List.cons (fun v _ => v = .bool false) (List.cons (fun v _ => v = .bool false) (List.cons (fun v _ => v = .pointer (some ⟨g, 0, none⟩)) (List.cons (fun v _ => v = .pointer (some ⟨g, 0, none⟩)) (List.cons (fun v _ => v = .pointer (some ⟨g, 3, none⟩)) (List.cons (fun v _ => v = .slice (some ⟨bA, 0, none⟩) t.N.length c) (List.cons (fun v _ => v = .int .i64 (k : Int)) (List.cons (fun v _ => v = .pointer (some ⟨bA, k * 22, none⟩)) (List.cons (fun v _ => v = .pointer (some ⟨bA, k * 22, none⟩)) (List.cons (fun v _ => v = .pointer (some ⟨bA, k * 22 + 17, none⟩)) (List.cons (fun v _ => v = .int .i64 x.p.len) (List.cons (fun v _ => v = .pointer (some ⟨g1, 17, none⟩)) (List.cons (fun v _ => v = .int .i64 p.len) (List.cons (fun v _ => v = .bool true) (List.cons (fun v _ => v = .bool true) ([]))))))))))))))))))))))))))) (MonoL.at_ (.cons (mono_val _) (.cons (mono_val _) (.cons (mono_val _) (.cons (mono_val _) (.cons (mono_val _) (.cons (mono_val _) (.cons (mono_val _) (.cons (mono_val _) (.cons (mono_val _) (.cons (mono_val _) (.cons (mono_val _) (.cons (mono_val _) (.cons (mono_val _) (.cons (mono_val _) (.cons (mono_val _) (.cons (mono_val _) (.cons (mono_val _) (.cons (mono_val _) (.cons (mono_val _) (.cons (mono_val _) (.cons (mono_val _) (.cons (mono_val _) (.cons (mono_val _) (.cons (mono_val _) (.cons (mono_val _) .nil)))))))))))))))))))))))))) (by kernel_rfl) (by kernel_rfl) ⟨?_, ?_, ?_, ?_, ?_, ?_, ?_, ?_, ?_, ?_, ?_, ?_, ?_, ?_, ?_, ?_, ?_, ?_, ?_, ?_, ?_, ?_, ?_, ?_, ?_, trivial⟩ ?_
        ·intro a vs W hX hR he hf K hK
         rw [if_pos (wanted_none rfl)]
         have e0 : a.eval (.tmp 0) = .pointer (some ⟨g, 0, none⟩) := hf 0 (by kernel_rfl)
         refine wp_value (v := .pointer (some ⟨g, 0, none⟩)) ?_ (hK _ _ rfl (grown_refl W _))
         simp only [execOp, e0]
         try go_simp
        ·intro a vs W hX hR he hf K hK
         rw [if_pos (wanted_none rfl)]
         have e24 : a.eval (.tmp 24) = .pointer (some ⟨g, 0, none⟩) := (he 0 24 (by kernel_rfl) rfl).trans (hR 0 (by kernel_rfl))
         refine wp_value (v := .pointer (some ⟨g, 0, none⟩)) ?_ (hK _ _ rfl (grown_refl W _))
         simp only [execOp, e24]
         try go_simp
        ·intro a vs W hX hR he hf K hK
         rw [if_pos (wanted_none rfl)]
         have e25 : a.eval (.tmp 25) = .pointer (some ⟨g, 0, none⟩) := (he 1 25 (by kernel_rfl) rfl).trans (hR 1 (by kernel_rfl))
         refine wp_value (v := .pointer (some ⟨g, 3, none⟩)) ?_ (hK _ _ rfl (grown_refl W _))
         simp only [execOp, e25]
         try go_simp
        ·intro a vs W hX hR he hf K hK
         rw [if_pos (wanted_none rfl)]
         have e26 : a.eval (.tmp 26) = .pointer (some ⟨g, 3, none⟩) := (he 2 26 (by kernel_rfl) rfl).trans (hR 2 (by kernel_rfl))
         have hbW := bthen (below_drew _) (grow_below hX)
         have hc : W.cell? ⟨g, 3, none⟩ = some (.slice (some ⟨bA, 0, none⟩) t.N.length c) := (HTR.out.blk.on hbW).cell 3
         refine wp_value (v := _) ?_ (hK _ _ rfl (grown_refl W _))
         simp only [execOp, e26]
         try go_simp
        ·intro a vs W hX hR he hf K hK
         rw [if_pos (wanted_none rfl)]
         have e5 : a.eval (.tmp 5) = .int .i64 (k : Int) := hf 5 (by kernel_rfl)
         refine wp_value (v := .int .i64 (k : Int)) ?_ (hK _ _ rfl (grown_refl W _))
         simp only [execOp, e5]
         try go_simp
        ·intro a vs W hX hR he hf K hK
         rw [if_pos (wanted_none rfl)]
         have e27 : a.eval (.tmp 27) = .slice (some ⟨bA, 0, none⟩) t.N.length c := (he 3 27 (by kernel_rfl) rfl).trans (hR 3 (by kernel_rfl))
         have e28 : a.eval (.tmp 28) = .int .i64 (k : Int) := (he 4 28 (by kernel_rfl) rfl).trans (hR 4 (by kernel_rfl))
         refine wp_value (v := .pointer (some ⟨bA, k * 22, none⟩)) ?_ (hK _ _ rfl (grown_refl W _))
         simp only [execOp, e27, e28]
         go_simp
        ·intro a vs W hX hR he hf K hK
         rw [if_pos (wanted_none rfl)]
         have e29 : a.eval (.tmp 29) = .pointer (some ⟨bA, k * 22, none⟩) := (he 5 29 (by kernel_rfl) rfl).trans (hR 5 (by kernel_rfl))
         refine wp_value (v := .pointer (some ⟨bA, k * 22, none⟩)) ?_ (hK _ _ rfl (grown_refl W _))
         simp only [execOp, e29]
         try go_simp
        ·intro a vs W hX hR he hf K hK
         rw [if_pos (wanted_none rfl)]
         have e30 : a.eval (.tmp 30) = .pointer (some ⟨bA, k * 22, none⟩) := (he 6 30 (by kernel_rfl) rfl).trans (hR 6 (by kernel_rfl))
         have hbW := bthen (below_drew _) (grow_below hX)
         exact wp_value (exec_load_mid 30 _ rfl bA (k * 22) e30 x.p.cells _ (range_below hbW HBA.out (Nd.px_range HXR.out)) Try.underlying30 rfl (sizePx _ HXF.out.addr)) (hK _ _ rfl (grown_refl W _))
        ·intro a vs W hX hR he hf K hK
         rw [if_pos (wanted_none rfl)]
         have e3 : a.eval (.tmp 3) = .pointer (some ⟨g1, 0, none⟩) := hf 3 (by kernel_rfl)
         have hbW := bthen (below_drew _) (grow_below hX)
         exact wp_value (exec_load 30 _ rfl g1 e3 30 p.cells _ (HP.out.on hbW) Try.underlying30 rfl (sizePx _ HF.out.addr)) (hK _ _ rfl (grown_refl W _))
        ·intro a vs W hX hR he hf K hK
         rw [if_pos (wanted_none rfl)]
         have e31 : a.eval (.tmp 31) = .agg x.p.cells.toArray := (he 7 31 (by kernel_rfl) rfl).trans (hR 7 (by kernel_rfl))
         have e32 : a.eval (.tmp 32) = .agg p.cells.toArray := (he 8 32 (by kernel_rfl) rfl).trans (hR 8 (by kernel_rfl))
         refine wp_enter (f := 40) (args := #[.agg x.p.cells.toArray, .agg p.cells.toArray]) (by simp only [execOp, e31, e32]; go_simp; exact ⟨by simpa [Act.eval] using e31, by simpa [Act.eval] using e32⟩) ((covers_any x.p HXF.out p HF.out W).mono ?_)
         rintro e w' ⟨rfl, hb⟩
         rw [HCV.out]
         exact ⟨_, rfl, hK _ _ rfl (below_grow hb _)⟩
        ·intro a vs W hX hR he hf K hK
         rw [if_pos (wanted_none rfl)]
         have e33 : a.eval (.tmp 33) = .bool true := (he 9 33 (by kernel_rfl) rfl).trans (hR 9 (by kernel_rfl))
         refine wp_value (v := .bool false) ?_ (hK _ _ rfl (grown_refl W _))
         simp only [execOp, e33]
         try go_simp
        ·intro a vs W hX hR he hf K hK
         rw [if_pos (wanted_none rfl)]
         have e34 : a.eval (.tmp 34) = .bool false := (he 10 34 (by kernel_rfl) rfl).trans (hR 10 (by kernel_rfl))
         refine wp_value (v := .bool false) ?_ (hK _ _ rfl (grown_refl W _))
         simp only [execOp, e34]
         try go_simp
        ·intro a vs W hX hR he hf K hK
         have e35 : a.eval (.tmp 35) = .bool false := (he 11 35 (by kernel_rfl) rfl).trans (hR 11 (by kernel_rfl))
         refine Eq.mpr (if_pos (by exact (wanted_some rfl rfl e35).trans rfl)) ?_
         have e0 : a.eval (.tmp 0) = .pointer (some ⟨g, 0, none⟩) := hf 0 (by kernel_rfl)
         refine wp_value (v := .pointer (some ⟨g, 0, none⟩)) ?_ (hK _ _ rfl (grown_refl W _))
         simp only [execOp, e0]
         try go_simp
        ·intro a vs W hX hR he hf K hK
         have e35 : a.eval (.tmp 35) = .bool false := (he 11 35 (by kernel_rfl) rfl).trans (hR 11 (by kernel_rfl))
         refine Eq.mpr (if_pos (by exact (wanted_some rfl rfl e35).trans rfl)) ?_
         have e36 : a.eval (.tmp 36) = .pointer (some ⟨g, 0, none⟩) := (he 12 36 (by kernel_rfl) rfl).trans (hR 12 (by kernel_rfl))
         refine wp_value (v := .pointer (some ⟨g, 0, none⟩)) ?_ (hK _ _ rfl (grown_refl W _))
         simp only [execOp, e36]
         try go_simp
        ·intro a vs W hX hR he hf K hK
         have e35 : a.eval (.tmp 35) = .bool false := (he 11 35 (by kernel_rfl) rfl).trans (hR 11 (by kernel_rfl))
         refine Eq.mpr (if_pos (by exact (wanted_some rfl rfl e35).trans rfl)) ?_
         have e37 : a.eval (.tmp 37) = .pointer (some ⟨g, 0, none⟩) := (he 13 37 (by kernel_rfl) rfl).trans (hR 13 (by kernel_rfl))
         refine wp_value (v := .pointer (some ⟨g, 3, none⟩)) ?_ (hK _ _ rfl (grown_refl W _))
         simp only [execOp, e37]
         try go_simp
        ·intro a vs W hX hR he hf K hK
         have e35 : a.eval (.tmp 35) = .bool false := (he 11 35 (by kernel_rfl) rfl).trans (hR 11 (by kernel_rfl))
         refine Eq.mpr (if_pos (by exact (wanted_some rfl rfl e35).trans rfl)) ?_
         have e38 : a.eval (.tmp 38) = .pointer (some ⟨g, 3, none⟩) := (he 14 38 (by kernel_rfl) rfl).trans (hR 14 (by kernel_rfl))
         have hbW := bthen (below_drew _) (grow_below hX)
         have hc : W.cell? ⟨g, 3, none⟩ = some (.slice (some ⟨bA, 0, none⟩) t.N.length c) := (HTR.out.blk.on hbW).cell 3
         refine wp_value (v := _) ?_ (hK _ _ rfl (grown_refl W _))
         simp only [execOp, e38]
         try go_simp
        ·intro a vs W hX hR he hf K hK
         have e35 : a.eval (.tmp 35) = .bool false := (he 11 35 (by kernel_rfl) rfl).trans (hR 11 (by kernel_rfl))
         refine Eq.mpr (if_pos (by exact (wanted_some rfl rfl e35).trans rfl)) ?_
         have e5 : a.eval (.tmp 5) = .int .i64 (k : Int) := hf 5 (by kernel_rfl)
         refine wp_value (v := .int .i64 (k : Int)) ?_ (hK _ _ rfl (grown_refl W _))
         simp only [execOp, e5]
         try go_simp
        ·intro a vs W hX hR he hf K hK
         have e35 : a.eval (.tmp 35) = .bool false := (he 11 35 (by kernel_rfl) rfl).trans (hR 11 (by kernel_rfl))
         refine Eq.mpr (if_pos (by exact (wanted_some rfl rfl e35).trans rfl)) ?_
         have e39 : a.eval (.tmp 39) = .slice (some ⟨bA, 0, none⟩) t.N.length c := (he 15 39 (by kernel_rfl) rfl).trans (hR 15 (by kernel_rfl))
         have e40 : a.eval (.tmp 40) = .int .i64 (k : Int) := (he 16 40 (by kernel_rfl) rfl).trans (hR 16 (by kernel_rfl))
         refine wp_value (v := .pointer (some ⟨bA, k * 22, none⟩)) ?_ (hK _ _ rfl (grown_refl W _))
         simp only [execOp, e39, e40]
         go_simp
        ·intro a vs W hX hR he hf K hK
         have e35 : a.eval (.tmp 35) = .bool false := (he 11 35 (by kernel_rfl) rfl).trans (hR 11 (by kernel_rfl))
         refine Eq.mpr (if_pos (by exact (wanted_some rfl rfl e35).trans rfl)) ?_
         have e41 : a.eval (.tmp 41) = .pointer (some ⟨bA, k * 22, none⟩) := (he 17 41 (by kernel_rfl) rfl).trans (hR 17 (by kernel_rfl))
         refine wp_value (v := .pointer (some ⟨bA, k * 22, none⟩)) ?_ (hK _ _ rfl (grown_refl W _))
         simp only [execOp, e41]
         try go_simp
        ·intro a vs W hX hR he hf K hK
         have e35 : a.eval (.tmp 35) = .bool false := (he 11 35 (by kernel_rfl) rfl).trans (hR 11 (by kernel_rfl))
         refine Eq.mpr (if_pos (by exact (wanted_some rfl rfl e35).trans rfl)) ?_
         have e42 : a.eval (.tmp 42) = .pointer (some ⟨bA, k * 22, none⟩) := (he 18 42 (by kernel_rfl) rfl).trans (hR 18 (by kernel_rfl))
         refine wp_value (v := .pointer (some ⟨bA, k * 22 + 17, none⟩)) ?_ (hK _ _ rfl (grown_refl W _))
         simp only [execOp, e42]
         try go_simp
        ·intro a vs W hX hR he hf K hK
         have e35 : a.eval (.tmp 35) = .bool false := (he 11 35 (by kernel_rfl) rfl).trans (hR 11 (by kernel_rfl))
         refine Eq.mpr (if_pos (by exact (wanted_some rfl rfl e35).trans rfl)) ?_
         have e43 : a.eval (.tmp 43) = .pointer (some ⟨bA, k * 22 + 17, none⟩) := (he 19 43 (by kernel_rfl) rfl).trans (hR 19 (by kernel_rfl))
         have hbW := bthen (below_drew _) (grow_below hX)
         have hc : W.cell? ⟨bA, k * 22 + 17, none⟩ = some (.int .i64 x.p.len) := range_below hbW HBA.out HXR.out 17 _ (x.get_len HXF.out.addr)
         refine wp_value (v := _) ?_ (hK _ _ rfl (grown_refl W _))
         simp only [execOp, e43]
         try go_simp
        ·intro a vs W hX hR he hf K hK
         have e35 : a.eval (.tmp 35) = .bool false := (he 11 35 (by kernel_rfl) rfl).trans (hR 11 (by kernel_rfl))
         refine Eq.mpr (if_pos (by exact (wanted_some rfl rfl e35).trans rfl)) ?_
         have e3 : a.eval (.tmp 3) = .pointer (some ⟨g1, 0, none⟩) := hf 3 (by kernel_rfl)
         refine wp_value (v := .pointer (some ⟨g1, 17, none⟩)) ?_ (hK _ _ rfl (grown_refl W _))
         simp only [execOp, e3]
         try go_simp
        ·intro a vs W hX hR he hf K hK
         have e35 : a.eval (.tmp 35) = .bool false := (he 11 35 (by kernel_rfl) rfl).trans (hR 11 (by kernel_rfl))
         refine Eq.mpr (if_pos (by exact (wanted_some rfl rfl e35).trans rfl)) ?_
         have e45 : a.eval (.tmp 45) = .pointer (some ⟨g1, 17, none⟩) := (he 21 45 (by kernel_rfl) rfl).trans (hR 21 (by kernel_rfl))
         have hbW := bthen (below_drew _) (grow_below hX)
         have hc : W.cell? ⟨g1, 17, none⟩ = some (.int .i64 p.len) := ((HP.out.on hbW).cell 17).trans (p.get_len HF.out.addr)
         refine wp_value (v := _) ?_ (hK _ _ rfl (grown_refl W _))
         simp only [execOp, e45]
         try go_simp
        ·intro a vs W hX hR he hf K hK
         have e35 : a.eval (.tmp 35) = .bool false := (he 11 35 (by kernel_rfl) rfl).trans (hR 11 (by kernel_rfl))
         refine Eq.mpr (if_pos (by exact (wanted_some rfl rfl e35).trans rfl)) ?_
         have e44 : a.eval (.tmp 44) = .int .i64 x.p.len := (he 20 44 (by kernel_rfl) rfl).trans (hR 20 (by kernel_rfl))
         have e46 : a.eval (.tmp 46) = .int .i64 p.len := (he 22 46 (by kernel_rfl) rfl).trans (hR 22 (by kernel_rfl))
         refine wp_value (v := .bool true) ?_ (hK _ _ rfl (grown_refl W _))
         have h9 := HLE.out
         simp only [execOp, e44, e46]
         go_simp
         try omega
        ·intro a vs W hX hR he hf K hK
         rw [if_pos (wanted_none rfl)]
         have e35 : a.eval (.tmp 35) = .bool false := (he 11 35 (by kernel_rfl) rfl).trans (hR 11 (by kernel_rfl))
         have e47 : a.eval (.tmp 47) = .bool true := (he 23 47 (by kernel_rfl) rfl).trans (hR 23 (by kernel_rfl))
         refine wp_value (v := .bool true) ?_ (hK _ _ rfl (grown_refl W _))
         simp only [execOp, e35, e47]
         try go_simp
        ·intro vs wx hXx hR
         have q0 := hR 0 (by decide)
         have q1 := hR 1 (by decide)
         have q2 := hR 2 (by decide)
         have q3 := hR 3 (by decide)
         have q4 := hR 4 (by decide)
         have q5 := hR 5 (by decide)
         have q6 := hR 6 (by decide)
         have q7 := hR 7 (by decide)
         have q8 := hR 8 (by decide)
         have q9 := hR 9 (by decide)
         have q10 := hR 10 (by decide)
         have q11 := hR 11 (by decide)
         have q12 := hR 12 (by decide)
         have q13 := hR 13 (by decide)
         have q14 := hR 14 (by decide)
         have q15 := hR 15 (by decide)
         have q16 := hR 16 (by decide)
         have q17 := hR 17 (by decide)
         have q18 := hR 18 (by decide)
         have q19 := hR 19 (by decide)
         have q20 := hR 20 (by decide)
         have q21 := hR 21 (by decide)
         have q22 := hR 22 (by decide)
         have q23 := hR 23 (by decide)
         have q24 := hR 24 (by decide)
         change vs 0 = .pointer (some ⟨g, 0, none⟩) at q0
         change vs 1 = .pointer (some ⟨g, 0, none⟩) at q1
         change vs 2 = .pointer (some ⟨g, 3, none⟩) at q2
         change vs 3 = .slice (some ⟨bA, 0, none⟩) t.N.length c at q3
         change vs 4 = .int .i64 (k : Int) at q4
         change vs 5 = .pointer (some ⟨bA, k * 22, none⟩) at q5
         change vs 6 = .pointer (some ⟨bA, k * 22, none⟩) at q6
         change vs 7 = .agg x.p.cells.toArray at q7
         change vs 8 = .agg p.cells.toArray at q8
         change vs 9 = .bool true at q9
         change vs 10 = .bool false at q10
         change vs 11 = .bool false at q11
         change vs 12 = .pointer (some ⟨g, 0, none⟩) at q12
         change vs 13 = .pointer (some ⟨g, 0, none⟩) at q13
         change vs 14 = .pointer (some ⟨g, 3, none⟩) at q14
         change vs 15 = .slice (some ⟨bA, 0, none⟩) t.N.length c at q15
         change vs 16 = .int .i64 (k : Int) at q16
         change vs 17 = .pointer (some ⟨bA, k * 22, none⟩) at q17
         change vs 18 = .pointer (some ⟨bA, k * 22, none⟩) at q18
         change vs 19 = .pointer (some ⟨bA, k * 22 + 17, none⟩) at q19
         change vs 20 = .int .i64 x.p.len at q20
         change vs 21 = .pointer (some ⟨g1, 17, none⟩) at q21
         change vs 22 = .int .i64 p.len at q22
         change vs 23 = .bool true at q23
         change vs 24 = .bool true at q24
         simp only [putAll, Act.put, List.setIfInBounds_toArray, List.set_cons_zero, List.set_cons_succ, q0, q1, q2, q3, q4, q5, q6, q7, q8, q9, q10, q11, q12, q13, q14, q15, q16, q17, q18, q19, q20, q21, q22, q23, q24]
         clear q0 q1 q2 q3 q4 q5 q6 q7 q8 q9 q10 q11 q12 q13 q14 q15 q16 q17 q18 q19 q20 q21 q22 q23 q24
         clear hR
         replace hBE := Lib.hid (hBE.out.trans ((bthen (below_drew _) (grow_below hXx)).mono hBE.out.size))
         replace HP := Lib.hid (HP.out.on (bthen (below_drew _) (grow_below hXx)))
         replace HW := Lib.hid (bthen HW.out (bthen (below_drew _) (grow_below hXx)))
         replace HTR := Lib.hid (HTR.out.on (bthen (below_drew _) (grow_below hXx)))
         clear hXx
         go_wp2_with fail
         go_ret
         exact ⟨rfl, HW.out⟩
      ·have hcond := decide_eq_false hle
       rw [hcond] at hfd
       simp only [Bool.not_false, if_true] at hfd
       have HFN := Lib.hid hfd
       have HLE := Lib.hid hle
       have HCT := Lib.hid (show (covP x.p p && !(decide (x.p.len = p.len))) = true by rw [hcv, hcond]; rfl)
       obtain ⟨s, hs⟩ : ∃ s, bitN p.addr x.p.len = s := ⟨_, rfl⟩
       have hs2 : (s : Int) < 2 := by rw [← hs]; have := bitN_lt p.addr x.p.len; omega
       have HS := Lib.hid hs
       clear hfd hcv hle hcond hs
       go_wp2_with fail
       refine wp_region_rel (fun A B => A.grownBy B none) (fun A => grown_refl A _) (fun A B C h k => grown_trans h k) (relAt (List.cons (fun v _ => v = .int .i64 (k : Int)) (List.cons (fun v _ => v = .bool true) (List.cons (fun v _ => v = .bool true) (List.cons (fun v _ => v = .pointer (some ⟨g, 0, none⟩)) (List.cons (fun v _ => v = .pointer (some ⟨g, 0, none⟩)) (List.cons (fun v _ => v = .pointer (some ⟨g, 3, none⟩)) (List.cons (fun v _ => v = .slice (some ⟨bA, 0, none⟩) t.N.length c) (List.cons (fun v _ => v = .int .i64 (k : Int)) (List.cons (fun v _ => v = .pointer (some ⟨bA, k * 22, none⟩)) (List.cons (fun v _ => v = .pointer (some ⟨bA, k * 22, none⟩)) (List.cons (fun v _ => v = .agg x.p.cells.toArray) (List.cons (fun v _ => v = .agg p.cells.toArray) (List.cons (fun v _ => v = .bool true) (List.cons (fun v _ => v = .bool true) ([])))))))))))))))) (MonoL.at_ (.cons (mono_val _) (.cons (mono_val _) (.cons (mono_val _) (.cons (mono_val _) (.cons (mono_val _) (.cons (mono_val _) (.cons (mono_val _) (.cons (mono_val _) (.cons (mono_val _) (.cons (mono_val _) (.cons (mono_val _) (.cons (mono_val _) (.cons (mono_val _) (.cons (mono_val _) .nil))))))))))))))) (by kernel_rfl) (by kernel_rfl) ⟨?_, ?_, ?_, ?_, ?_, ?_, ?_, ?_, ?_, ?_, ?_, ?_, ?_, ?_, trivial⟩ ?_
       ·intro a vs W hX hR he hf K hK
        rw [if_pos (wanted_none rfl)]
        have e5 : a.eval (.tmp 5) = .int .i64 (k : Int) := hf 5 (by kernel_rfl)
        refine wp_value (v := .int .i64 (k : Int)) ?_ (hK _ _ rfl (grown_refl W _))
        simp only [execOp, e5]
        try go_simp
       ·intro a vs W hX hR he hf K hK
        rw [if_pos (wanted_none rfl)]
        have e10 : a.eval (.tmp 10) = .int .i64 (k : Int) := (he 0 10 (by kernel_rfl) rfl).trans (hR 0 (by kernel_rfl))
        refine wp_value (v := .bool true) ?_ (hK _ _ rfl (grown_refl W _))
        have h9 := HKN.out
        simp only [execOp, e10]
        go_simp
        try omega
       ·intro a vs W hX hR he hf K hK
        rw [if_pos (wanted_none rfl)]
        have e11 : a.eval (.tmp 11) = .bool true := (he 1 11 (by kernel_rfl) rfl).trans (hR 1 (by kernel_rfl))
        refine wp_value (v := .bool true) ?_ (hK _ _ rfl (grown_refl W _))
        simp only [execOp, e11]
        try go_simp
       ·intro a vs W hX hR he hf K hK
        have e12 : a.eval (.tmp 12) = .bool true := (he 2 12 (by kernel_rfl) rfl).trans (hR 2 (by kernel_rfl))
        refine Eq.mpr (if_pos (by exact (wanted_some rfl rfl e12).trans rfl)) ?_
        have e0 : a.eval (.tmp 0) = .pointer (some ⟨g, 0, none⟩) := hf 0 (by kernel_rfl)
        refine wp_value (v := .pointer (some ⟨g, 0, none⟩)) ?_ (hK _ _ rfl (grown_refl W _))
        simp only [execOp, e0]
        try go_simp
       ·intro a vs W hX hR he hf K hK
        have e12 : a.eval (.tmp 12) = .bool true := (he 2 12 (by kernel_rfl) rfl).trans (hR 2 (by kernel_rfl))
        refine Eq.mpr (if_pos (by exact (wanted_some rfl rfl e12).trans rfl)) ?_
        have e13 : a.eval (.tmp 13) = .pointer (some ⟨g, 0, none⟩) := (he 3 13 (by kernel_rfl) rfl).trans (hR 3 (by kernel_rfl))
        refine wp_value (v := .pointer (some ⟨g, 0, none⟩)) ?_ (hK _ _ rfl (grown_refl W _))
        simp only [execOp, e13]
        try go_simp
       ·intro a vs W hX hR he hf K hK
        have e12 : a.eval (.tmp 12) = .bool true := (he 2 12 (by kernel_rfl) rfl).trans (hR 2 (by kernel_rfl))
        refine Eq.mpr (if_pos (by exact (wanted_some rfl rfl e12).trans rfl)) ?_
        have e14 : a.eval (.tmp 14) = .pointer (some ⟨g, 0, none⟩) := (he 4 14 (by kernel_rfl) rfl).trans (hR 4 (by kernel_rfl))
        refine wp_value (v := .pointer (some ⟨g, 3, none⟩)) ?_ (hK _ _ rfl (grown_refl W _))
        simp only [execOp, e14]
        try go_simp
       ·intro a vs W hX hR he hf K hK
        have e12 : a.eval (.tmp 12) = .bool true := (he 2 12 (by kernel_rfl) rfl).trans (hR 2 (by kernel_rfl))
        refine Eq.mpr (if_pos (by exact (wanted_some rfl rfl e12).trans rfl)) ?_
        have e15 : a.eval (.tmp 15) = .pointer (some ⟨g, 3, none⟩) := (he 5 15 (by kernel_rfl) rfl).trans (hR 5 (by kernel_rfl))
        have hbW := bthen (below_drew _) (grow_below hX)
        have hc : W.cell? ⟨g, 3, none⟩ = some (.slice (some ⟨bA, 0, none⟩) t.N.length c) := (HTR.out.blk.on hbW).cell 3
        refine wp_value (v := _) ?_ (hK _ _ rfl (grown_refl W _))
        simp only [execOp, e15]
        try go_simp
       ·intro a vs W hX hR he hf K hK
        have e12 : a.eval (.tmp 12) = .bool true := (he 2 12 (by kernel_rfl) rfl).trans (hR 2 (by kernel_rfl))
        refine Eq.mpr (if_pos (by exact (wanted_some rfl rfl e12).trans rfl)) ?_
        have e5 : a.eval (.tmp 5) = .int .i64 (k : Int) := hf 5 (by kernel_rfl)
        refine wp_value (v := .int .i64 (k : Int)) ?_ (hK _ _ rfl (grown_refl W _))
        simp only [execOp, e5]
        try go_simp
       ·intro a vs W hX hR he hf K hK
        have e12 : a.eval (.tmp 12) = .bool true := (he 2 12 (by kernel_rfl) rfl).trans (hR 2 (by kernel_rfl))
        refine Eq.mpr (if_pos (by exact (wanted_some rfl rfl e12).trans rfl)) ?_
        have e16 : a.eval (.tmp 16) = .slice (some ⟨bA, 0, none⟩) t.N.length c := (he 6 16 (by kernel_rfl) rfl).trans (hR 6 (by kernel_rfl))
        have e17 : a.eval (.tmp 17) = .int .i64 (k : Int) := (he 7 17 (by kernel_rfl) rfl).trans (hR 7 (by kernel_rfl))
        refine wp_value (v := .pointer (some ⟨bA, k * 22, none⟩)) ?_ (hK _ _ rfl (grown_refl W _))
        simp only [execOp, e16, e17]
        go_simp
       ·intro a vs W hX hR he hf K hK
        have e12 : a.eval (.tmp 12) = .bool true := (he 2 12 (by kernel_rfl) rfl).trans (hR 2 (by kernel_rfl))
        refine Eq.mpr (if_pos (by exact (wanted_some rfl rfl e12).trans rfl)) ?_
        have e18 : a.eval (.tmp 18) = .pointer (some ⟨bA, k * 22, none⟩) := (he 8 18 (by kernel_rfl) rfl).trans (hR 8 (by kernel_rfl))
        refine wp_value (v := .pointer (some ⟨bA, k * 22, none⟩)) ?_ (hK _ _ rfl (grown_refl W _))
        simp only [execOp, e18]
        try go_simp
       ·intro a vs W hX hR he hf K hK
        have e12 : a.eval (.tmp 12) = .bool true := (he 2 12 (by kernel_rfl) rfl).trans (hR 2 (by kernel_rfl))
        refine Eq.mpr (if_pos (by exact (wanted_some rfl rfl e12).trans rfl)) ?_
        have e19 : a.eval (.tmp 19) = .pointer (some ⟨bA, k * 22, none⟩) := (he 9 19 (by kernel_rfl) rfl).trans (hR 9 (by kernel_rfl))
        have hbW := bthen (below_drew _) (grow_below hX)
        exact wp_value (exec_load_mid 30 _ rfl bA (k * 22) e19 x.p.cells _ (range_below hbW HBA.out (Nd.px_range HXR.out)) Try.underlying30 rfl (sizePx _ HXF.out.addr)) (hK _ _ rfl (grown_refl W _))
       ·intro a vs W hX hR he hf K hK
        have e12 : a.eval (.tmp 12) = .bool true := (he 2 12 (by kernel_rfl) rfl).trans (hR 2 (by kernel_rfl))
        refine Eq.mpr (if_pos (by exact (wanted_some rfl rfl e12).trans rfl)) ?_
        have e3 : a.eval (.tmp 3) = .pointer (some ⟨g1, 0, none⟩) := hf 3 (by kernel_rfl)
        have hbW := bthen (below_drew _) (grow_below hX)
        exact wp_value (exec_load 30 _ rfl g1 e3 30 p.cells _ (HP.out.on hbW) Try.underlying30 rfl (sizePx _ HF.out.addr)) (hK _ _ rfl (grown_refl W _))
       ·intro a vs W hX hR he hf K hK
        have e12 : a.eval (.tmp 12) = .bool true := (he 2 12 (by kernel_rfl) rfl).trans (hR 2 (by kernel_rfl))
        refine Eq.mpr (if_pos (by exact (wanted_some rfl rfl e12).trans rfl)) ?_
        have e20 : a.eval (.tmp 20) = .agg x.p.cells.toArray := (he 10 20 (by kernel_rfl) rfl).trans (hR 10 (by kernel_rfl))
        have e21 : a.eval (.tmp 21) = .agg p.cells.toArray := (he 11 21 (by kernel_rfl) rfl).trans (hR 11 (by kernel_rfl))
        exact wp_value (exec_nePx _ _ _ rfl x.p p HXF.out.addr HF.out.addr false HEQ.out e20 e21) (hK _ _ rfl (grown_refl W _))
       ·intro a vs W hX hR he hf K hK
        rw [if_pos (wanted_none rfl)]
        have e12 : a.eval (.tmp 12) = .bool true := (he 2 12 (by kernel_rfl) rfl).trans (hR 2 (by kernel_rfl))
        have e22 : a.eval (.tmp 22) = .bool true := (he 12 22 (by kernel_rfl) rfl).trans (hR 12 (by kernel_rfl))
        refine wp_value (v := .bool true) ?_ (hK _ _ rfl (grown_refl W _))
        simp only [execOp, e12, e22]
        try go_simp
       ·intro vs wx hXx hR
        have q0 := hR 0 (by decide)
        have q1 := hR 1 (by decide)
        have q2 := hR 2 (by decide)
        have q3 := hR 3 (by decide)
        have q4 := hR 4 (by decide)
        have q5 := hR 5 (by decide)
        have q6 := hR 6 (by decide)
        have q7 := hR 7 (by decide)
        have q8 := hR 8 (by decide)
        have q9 := hR 9 (by decide)
        have q10 := hR 10 (by decide)
        have q11 := hR 11 (by decide)
        have q12 := hR 12 (by decide)
        have q13 := hR 13 (by decide)
        change vs 0 = .int .i64 (k : Int) at q0
        change vs 1 = .bool true at q1
        change vs 2 = .bool true at q2
        change vs 3 = .pointer (some ⟨g, 0, none⟩) at q3
        change vs 4 = .pointer (some ⟨g, 0, none⟩) at q4
        change vs 5 = .pointer (some ⟨g, 3, none⟩) at q5
        change vs 6 = .slice (some ⟨bA, 0, none⟩) t.N.length c at q6
        change vs 7 = .int .i64 (k : Int) at q7
        change vs 8 = .pointer (some ⟨bA, k * 22, none⟩) at q8
        change vs 9 = .pointer (some ⟨bA, k * 22, none⟩) at q9
        change vs 10 = .agg x.p.cells.toArray at q10
        change vs 11 = .agg p.cells.toArray at q11
        change vs 12 = .bool true at q12
        change vs 13 = .bool true at q13
        simp only [putAll, Act.put, List.setIfInBounds_toArray, List.set_cons_zero, List.set_cons_succ, q0, q1, q2, q3, q4, q5, q6, q7, q8, q9, q10, q11, q12, q13]
        clear q0 q1 q2 q3 q4 q5 q6 q7 q8 q9 q10 q11 q12 q13
        clear hR
        replace hBE := Lib.hid (hBE.out.trans ((bthen (below_drew _) (grow_below hXx)).mono hBE.out.size))
        replace HP := Lib.hid (HP.out.on (bthen (below_drew _) (grow_below hXx)))
        replace HW := Lib.hid (bthen HW.out (bthen (below_drew _) (grow_below hXx)))
        replace HTR := Lib.hid (HTR.out.on (bthen (below_drew _) (grow_below hXx)))
        replace HXR := Lib.hid (range_below (bthen (below_drew _) (grow_below hXx)) HBA.out HXR.out)
        replace HBA := Lib.hid (Nat.lt_of_lt_of_le HBA.out (bthen (below_drew _) (grow_below hXx)).size)
        clear hXx
        go_wp2_with fail
        refine wp_region_rel (fun A B => A.grownBy B none) (fun A => grown_refl A _) (fun A B C h k => grown_trans h k) (relAt (List.cons (fun v _ => v = .pointer (some ⟨g, 0, none⟩)) (List.cons (fun v _ => v = .pointer (some ⟨g, 0, none⟩)) (List.cons (fun v _ => v = .pointer (some ⟨g, 3, none⟩)) (List.cons (fun v _ => v = .slice (some ⟨bA, 0, none⟩) t.N.length c) (List.cons (fun v _ => v = .int .i64 (k : Int)) (List.cons (fun v _ => v = .pointer (some ⟨bA, k * 22, none⟩)) (List.cons (fun v _ => v = .pointer (some ⟨bA, k * 22, none⟩)) (List.cons (fun v _ => v = .agg x.p.cells.toArray) (List.cons (fun v _ => v = .agg p.cells.toArray) (List.cons (fun v _ => v = .bool true) (List.cons (fun v _ => v = .bool false) (List.cons (fun v _ => v = .bool false) (List.cons (fun v _ => v = .pointer (some ⟨g, 0, none⟩)) (List.cons (fun v _ => v = .pointer (some ⟨g, 0, none⟩)) (List.cons (fun v _ => v = .pointer (some ⟨g, 3, none⟩)) (List.cons (fun v _ => v = .slice (some ⟨bA, 0, none⟩) t.N.length c) (List.cons (fun v _ => v = .int .i64 (k : Int)) (List.cons (fun v _ => v = .pointer (some ⟨bA, k * 22, none⟩)) (List.cons (fun v _ => v = .pointer (some ⟨bA, k * 22, none⟩)) (List.cons (fun v _ => v = .pointer (some ⟨bA, k * 22 + 17, none⟩)) (List.cons (fun v _ => v = .int .i64 x.p.len) (List.cons (fun v _ => v = .pointer (some ⟨g1, 17, none⟩)) (List.cons (fun v _ => v = .int .i64 p.len) (List.cons (fun v _ => v = .bool false) (List.cons (fun v _ => v = .bool false) ([]))))))))))))))))))))))))))) (MonoL.at_ (.cons (mono_val _) (.cons (mono_val _) (.cons (mono_val _) (.cons (mono_val _) (.cons (mono_val _) (.cons (mono_val _) (.cons (mono_val _) (.cons (mono_val _) (.cons (mono_val _) (.cons (mono_val _) (.cons (mono_val _) (.cons (mono_val _) (.cons (mono_val _) (.cons (mono_val _) (.cons (mono_val _) (.cons (mono_val _) (.cons (mono_val _) (.cons (mono_val _) (.cons (mono_val _) (.cons (mono_val _) (.cons (mono_val _) (.cons (mono_val _) (.cons (mono_val _) (.cons (mono_val _) (.cons (mono_val _) .nil)))))))))))))))))))))))))) (by kernel_rfl) (by kernel_rfl) ⟨?_, ?_, ?_, ?_, ?_, ?_, ?_, ?_, ?_, ?_, ?_, ?_, ?_, ?_, ?_, ?_, ?_, ?_, ?_, ?_, ?_, ?_, ?_, ?_, ?_, trivial⟩ ?_
        ·intro a vs W hX hR he hf K hK
         rw [if_pos (wanted_none rfl)]
         have e0 : a.eval (.tmp 0) = .pointer (some ⟨g, 0, none⟩) := hf 0 (by kernel_rfl)
         refine wp_value (v := .pointer (some ⟨g, 0, none⟩)) ?_ (hK _ _ rfl (grown_refl W _))
         simp only [execOp, e0]
         try go_simp
        ·intro a vs W hX hR he hf K hK
         rw [if_pos (wanted_none rfl)]
         have e24 : a.eval (.tmp 24) = .pointer (some ⟨g, 0, none⟩) := (he 0 24 (by kernel_rfl) rfl).trans (hR 0 (by kernel_rfl))
         refine wp_value (v := .pointer (some ⟨g, 0, none⟩)) ?_ (hK _ _ rfl (grown_refl W _))
         simp only [execOp, e24]
         try go_simp
        ·intro a vs W hX hR he hf K hK
         rw [if_pos (wanted_none rfl)]
         have e25 : a.eval (.tmp 25) = .pointer (some ⟨g, 0, none⟩) := (he 1 25 (by kernel_rfl) rfl).trans (hR 1 (by kernel_rfl))
         refine wp_value (v := .pointer (some ⟨g, 3, none⟩)) ?_ (hK _ _ rfl (grown_refl W _))
         simp only [execOp, e25]
         try go_simp
        ·intro a vs W hX hR he hf K hK
         rw [if_pos (wanted_none rfl)]
         have e26 : a.eval (.tmp 26) = .pointer (some ⟨g, 3, none⟩) := (he 2 26 (by kernel_rfl) rfl).trans (hR 2 (by kernel_rfl))
         have hbW := bthen (below_drew _) (grow_below hX)
         have hc : W.cell? ⟨g, 3, none⟩ = some (.slice (some ⟨bA, 0, none⟩) t.N.length c) := (HTR.out.blk.on hbW).cell 3
         refine wp_value (v := _) ?_ (hK _ _ rfl (grown_refl W _))
         simp only [execOp, e26]
         try go_simp
        ·intro a vs W hX hR he hf K hK
         rw [if_pos (wanted_none rfl)]
         have e5 : a.eval (.tmp 5) = .int .i64 (k : Int) := hf 5 (by kernel_rfl)
         refine wp_value (v := .int .i64 (k : Int)) ?_ (hK _ _ rfl (grown_refl W _))
         simp only [execOp, e5]
         try go_simp
        ·intro a vs W hX hR he hf K hK
         rw [if_pos (wanted_none rfl)]
         have e27 : a.eval (.tmp 27) = .slice (some ⟨bA, 0, none⟩) t.N.length c := (he 3 27 (by kernel_rfl) rfl).trans (hR 3 (by kernel_rfl))
         have e28 : a.eval (.tmp 28) = .int .i64 (k : Int) := (he 4 28 (by kernel_rfl) rfl).trans (hR 4 (by kernel_rfl))
         refine wp_value (v := .pointer (some ⟨bA, k * 22, none⟩)) ?_ (hK _ _ rfl (grown_refl W _))
         simp only [execOp, e27, e28]
         go_simp
        ·intro a vs W hX hR he hf K hK
         rw [if_pos (wanted_none rfl)]
         have e29 : a.eval (.tmp 29) = .pointer (some ⟨bA, k * 22, none⟩) := (he 5 29 (by kernel_rfl) rfl).trans (hR 5 (by kernel_rfl))
         refine wp_value (v := .pointer (some ⟨bA, k * 22, none⟩)) ?_ (hK _ _ rfl (grown_refl W _))
         simp only [execOp, e29]
         try go_simp
        ·intro a vs W hX hR he hf K hK
         rw [if_pos (wanted_none rfl)]
         have e30 : a.eval (.tmp 30) = .pointer (some ⟨bA, k * 22, none⟩) := (he 6 30 (by kernel_rfl) rfl).trans (hR 6 (by kernel_rfl))
         have hbW := bthen (below_drew _) (grow_below hX)
         exact wp_value (exec_load_mid 30 _ rfl bA (k * 22) e30 x.p.cells _ (range_below hbW HBA.out (Nd.px_range HXR.out)) Try.underlying30 rfl (sizePx _ HXF.out.addr)) (hK _ _ rfl (grown_refl W _))
        ·intro a vs W hX hR he hf K hK
         rw [if_pos (wanted_none rfl)]
         have e3 : a.eval (.tmp 3) = .pointer (some ⟨g1, 0, none⟩) := hf 3 (by kernel_rfl)
         have hbW := bthen (below_drew _) (grow_below hX)
         exact wp_value (exec_load 30 _ rfl g1 e3 30 p.cells _ (HP.out.on hbW) Try.underlying30 rfl (sizePx _ HF.out.addr)) (hK _ _ rfl (grown_refl W _))
        ·intro a vs W hX hR he hf K hK
         rw [if_pos (wanted_none rfl)]
         have e31 : a.eval (.tmp 31) = .agg x.p.cells.toArray := (he 7 31 (by kernel_rfl) rfl).trans (hR 7 (by kernel_rfl))
         have e32 : a.eval (.tmp 32) = .agg p.cells.toArray := (he 8 32 (by kernel_rfl) rfl).trans (hR 8 (by kernel_rfl))
         refine wp_enter (f := 40) (args := #[.agg x.p.cells.toArray, .agg p.cells.toArray]) (by simp only [execOp, e31, e32]; go_simp; exact ⟨by simpa [Act.eval] using e31, by simpa [Act.eval] using e32⟩) ((covers_any x.p HXF.out p HF.out W).mono ?_)
         rintro e w' ⟨rfl, hb⟩
         rw [HCV.out]
         exact ⟨_, rfl, hK _ _ rfl (below_grow hb _)⟩
        ·intro a vs W hX hR he hf K hK
         rw [if_pos (wanted_none rfl)]
         have e33 : a.eval (.tmp 33) = .bool true := (he 9 33 (by kernel_rfl) rfl).trans (hR 9 (by kernel_rfl))
         refine wp_value (v := .bool false) ?_ (hK _ _ rfl (grown_refl W _))
         simp only [execOp, e33]
         try go_simp
        ·intro a vs W hX hR he hf K hK
         rw [if_pos (wanted_none rfl)]
         have e34 : a.eval (.tmp 34) = .bool false := (he 10 34 (by kernel_rfl) rfl).trans (hR 10 (by kernel_rfl))
         refine wp_value (v := .bool false) ?_ (hK _ _ rfl (grown_refl W _))
         simp only [execOp, e34]
         try go_simp
        ·intro a vs W hX hR he hf K hK
         have e35 : a.eval (.tmp 35) = .bool false := (he 11 35 (by kernel_rfl) rfl).trans (hR 11 (by kernel_rfl))
         refine Eq.mpr (if_pos (by exact (wanted_some rfl rfl e35).trans rfl)) ?_
         have e0 : a.eval (.tmp 0) = .pointer (some ⟨g, 0, none⟩) := hf 0 (by kernel_rfl)
         refine wp_value (v := .pointer (some ⟨g, 0, none⟩)) ?_ (hK _ _ rfl (grown_refl W _))
         simp only [execOp, e0]
         try go_simp
        ·intro a vs W hX hR he hf K hK
         have e35 : a.eval (.tmp 35) = .bool false := (he 11 35 (by kernel_rfl) rfl).trans (hR 11 (by kernel_rfl))
         refine Eq.mpr (if_pos (by exact (wanted_some rfl rfl e35).trans rfl)) ?_
         have e36 : a.eval (.tmp 36) = .pointer (some ⟨g, 0, none⟩) := (he 12 36 (by kernel_rfl) rfl).trans (hR 12 (by kernel_rfl))
         refine wp_value (v := .pointer (some ⟨g, 0, none⟩)) ?_ (hK _ _ rfl (grown_refl W _))
         simp only [execOp, e36]
         try go_simp
        ·intro a vs W hX hR he hf K hK
         have e35 : a.eval (.tmp 35) = .bool false := (he 11 35 (by kernel_rfl) rfl).trans (hR 11 (by kernel_rfl))
         refine Eq.mpr (if_pos (by exact (wanted_some rfl rfl e35).trans rfl)) ?_
         have e37 : a.eval (.tmp 37) = .pointer (some ⟨g, 0, none⟩) := (he 13 37 (by kernel_rfl) rfl).trans (hR 13 (by kernel_rfl))
         refine wp_value (v := .pointer (some ⟨g, 3, none⟩)) ?_ (hK _ _ rfl (grown_refl W _))
         simp only [execOp, e37]
         try go_simp
        ·intro a vs W hX hR he hf K hK
         have e35 : a.eval (.tmp 35) = .bool false := (he 11 35 (by kernel_rfl) rfl).trans (hR 11 (by kernel_rfl))
         refine Eq.mpr (if_pos (by exact (wanted_some rfl rfl e35).trans rfl)) ?_
         have e38 : a.eval (.tmp 38) = .pointer (some ⟨g, 3, none⟩) := (he 14 38 (by kernel_rfl) rfl).trans (hR 14 (by kernel_rfl))
         have hbW := bthen (below_drew _) (grow_below hX)
         have hc : W.cell? ⟨g, 3, none⟩ = some (.slice (some ⟨bA, 0, none⟩) t.N.length c) := (HTR.out.blk.on hbW).cell 3
         refine wp_value (v := _) ?_ (hK _ _ rfl (grown_refl W _))
         simp only [execOp, e38]
         try go_simp
        ·intro a vs W hX hR he hf K hK
         have e35 : a.eval (.tmp 35) = .bool false := (he 11 35 (by kernel_rfl) rfl).trans (hR 11 (by kernel_rfl))
         refine Eq.mpr (if_pos (by exact (wanted_some rfl rfl e35).trans rfl)) ?_
         have e5 : a.eval (.tmp 5) = .int .i64 (k : Int) := hf 5 (by kernel_rfl)
         refine wp_value (v := .int .i64 (k : Int)) ?_ (hK _ _ rfl (grown_refl W _))
         simp only [execOp, e5]
         try go_simp
        ·intro a vs W hX hR he hf K hK
         have e35 : a.eval (.tmp 35) = .bool false := (he 11 35 (by kernel_rfl) rfl).trans (hR 11 (by kernel_rfl))
         refine Eq.mpr (if_pos (by exact (wanted_some rfl rfl e35).trans rfl)) ?_
         have e39 : a.eval (.tmp 39) = .slice (some ⟨bA, 0, none⟩) t.N.length c := (he 15 39 (by kernel_rfl) rfl).trans (hR 15 (by kernel_rfl))
         have e40 : a.eval (.tmp 40) = .int .i64 (k : Int) := (he 16 40 (by kernel_rfl) rfl).trans (hR 16 (by kernel_rfl))
         refine wp_value (v := .pointer (some ⟨bA, k * 22, none⟩)) ?_ (hK _ _ rfl (grown_refl W _))
         simp only [execOp, e39, e40]
         go_simp
        ·intro a vs W hX hR he hf K hK
         have e35 : a.eval (.tmp 35) = .bool false := (he 11 35 (by kernel_rfl) rfl).trans (hR 11 (by kernel_rfl))
         refine Eq.mpr (if_pos (by exact (wanted_some rfl rfl e35).trans rfl)) ?_
         have e41 : a.eval (.tmp 41) = .pointer (some ⟨bA, k * 22, none⟩) := (he 17 41 (by kernel_rfl) rfl).trans (hR 17 (by kernel_rfl))
         refine wp_value (v := .pointer (some ⟨bA, k * 22, none⟩)) ?_ (hK _ _ rfl (grown_refl W _))
         simp only [execOp, e41]
         try go_simp
        ·intro a vs W hX hR he hf K hK
         have e35 : a.eval (.tmp 35) = .bool false := (he 11 35 (by kernel_rfl) rfl).trans (hR 11 (by kernel_rfl))
         refine Eq.mpr (if_pos (by exact (wanted_some rfl rfl e35).trans rfl)) ?_
         have e42 : a.eval (.tmp 42) = .pointer (some ⟨bA, k * 22, none⟩) := (he 18 42 (by kernel_rfl) rfl).trans (hR 18 (by kernel_rfl))
         refine wp_value (v := .pointer (some ⟨bA, k * 22 + 17, none⟩)) ?_ (hK _ _ rfl (grown_refl W _))
         simp only [execOp, e42]
         try go_simp
        ·intro a vs W hX hR he hf K hK
         have e35 : a.eval (.tmp 35) = .bool false := (he 11 35 (by kernel_rfl) rfl).trans (hR 11 (by kernel_rfl))
         refine Eq.mpr (if_pos (by exact (wanted_some rfl rfl e35).trans rfl)) ?_
         have e43 : a.eval (.tmp 43) = .pointer (some ⟨bA, k * 22 + 17, none⟩) := (he 19 43 (by kernel_rfl) rfl).trans (hR 19 (by kernel_rfl))
         have hbW := bthen (below_drew _) (grow_below hX)
         have hc : W.cell? ⟨bA, k * 22 + 17, none⟩ = some (.int .i64 x.p.len) := range_below hbW HBA.out HXR.out 17 _ (x.get_len HXF.out.addr)
         refine wp_value (v := _) ?_ (hK _ _ rfl (grown_refl W _))
         simp only [execOp, e43]
         try go_simp
        ·intro a vs W hX hR he hf K hK
         have e35 : a.eval (.tmp 35) = .bool false := (he 11 35 (by kernel_rfl) rfl).trans (hR 11 (by kernel_rfl))
         refine Eq.mpr (if_pos (by exact (wanted_some rfl rfl e35).trans rfl)) ?_
         have e3 : a.eval (.tmp 3) = .pointer (some ⟨g1, 0, none⟩) := hf 3 (by kernel_rfl)
         refine wp_value (v := .pointer (some ⟨g1, 17, none⟩)) ?_ (hK _ _ rfl (grown_refl W _))
         simp only [execOp, e3]
         try go_simp
        ·intro a vs W hX hR he hf K hK
         have e35 : a.eval (.tmp 35) = .bool false := (he 11 35 (by kernel_rfl) rfl).trans (hR 11 (by kernel_rfl))
         refine Eq.mpr (if_pos (by exact (wanted_some rfl rfl e35).trans rfl)) ?_
         have e45 : a.eval (.tmp 45) = .pointer (some ⟨g1, 17, none⟩) := (he 21 45 (by kernel_rfl) rfl).trans (hR 21 (by kernel_rfl))
         have hbW := bthen (below_drew _) (grow_below hX)
         have hc : W.cell? ⟨g1, 17, none⟩ = some (.int .i64 p.len) := ((HP.out.on hbW).cell 17).trans (p.get_len HF.out.addr)
         refine wp_value (v := _) ?_ (hK _ _ rfl (grown_refl W _))
         simp only [execOp, e45]
         try go_simp
        ·intro a vs W hX hR he hf K hK
         have e35 : a.eval (.tmp 35) = .bool false := (he 11 35 (by kernel_rfl) rfl).trans (hR 11 (by kernel_rfl))
         refine Eq.mpr (if_pos (by exact (wanted_some rfl rfl e35).trans rfl)) ?_
         have e44 : a.eval (.tmp 44) = .int .i64 x.p.len := (he 20 44 (by kernel_rfl) rfl).trans (hR 20 (by kernel_rfl))
         have e46 : a.eval (.tmp 46) = .int .i64 p.len := (he 22 46 (by kernel_rfl) rfl).trans (hR 22 (by kernel_rfl))
         refine wp_value (v := .bool false) ?_ (hK _ _ rfl (grown_refl W _))
         have h9 := HLE.out
         simp only [execOp, e44, e46]
         go_simp
         try omega
        ·intro a vs W hX hR he hf K hK
         rw [if_pos (wanted_none rfl)]
         have e35 : a.eval (.tmp 35) = .bool false := (he 11 35 (by kernel_rfl) rfl).trans (hR 11 (by kernel_rfl))
         have e47 : a.eval (.tmp 47) = .bool false := (he 23 47 (by kernel_rfl) rfl).trans (hR 23 (by kernel_rfl))
         refine wp_value (v := .bool false) ?_ (hK _ _ rfl (grown_refl W _))
         simp only [execOp, e35, e47]
         try go_simp
        ·intro vs wx hXx hR
         have q0 := hR 0 (by decide)
         have q1 := hR 1 (by decide)
         have q2 := hR 2 (by decide)
         have q3 := hR 3 (by decide)
         have q4 := hR 4 (by decide)
         have q5 := hR 5 (by decide)
         have q6 := hR 6 (by decide)
         have q7 := hR 7 (by decide)
         have q8 := hR 8 (by decide)
         have q9 := hR 9 (by decide)
         have q10 := hR 10 (by decide)
         have q11 := hR 11 (by decide)
         have q12 := hR 12 (by decide)
         have q13 := hR 13 (by decide)
         have q14 := hR 14 (by decide)
         have q15 := hR 15 (by decide)
         have q16 := hR 16 (by decide)
         have q17 := hR 17 (by decide)
         have q18 := hR 18 (by decide)
         have q19 := hR 19 (by decide)
         have q20 := hR 20 (by decide)
         have q21 := hR 21 (by decide)
         have q22 := hR 22 (by decide)
         have q23 := hR 23 (by decide)
         have q24 := hR 24 (by decide)
         change vs 0 = .pointer (some ⟨g, 0, none⟩) at q0
         change vs 1 = .pointer (some ⟨g, 0, none⟩) at q1
         change vs 2 = .pointer (some ⟨g, 3, none⟩) at q2
         change vs 3 = .slice (some ⟨bA, 0, none⟩) t.N.length c at q3
         change vs 4 = .int .i64 (k : Int) at q4
         change vs 5 = .pointer (some ⟨bA, k * 22, none⟩) at q5
         change vs 6 = .pointer (some ⟨bA, k * 22, none⟩) at q6
         change vs 7 = .agg x.p.cells.toArray at q7
         change vs 8 = .agg p.cells.toArray at q8
         change vs 9 = .bool true at q9
         change vs 10 = .bool false at q10
         change vs 11 = .bool false at q11
         change vs 12 = .pointer (some ⟨g, 0, none⟩) at q12
         change vs 13 = .pointer (some ⟨g, 0, none⟩) at q13
         change vs 14 = .pointer (some ⟨g, 3, none⟩) at q14
         change vs 15 = .slice (some ⟨bA, 0, none⟩) t.N.length c at q15
         change vs 16 = .int .i64 (k : Int) at q16
         change vs 17 = .pointer (some ⟨bA, k * 22, none⟩) at q17
         change vs 18 = .pointer (some ⟨bA, k * 22, none⟩) at q18
         change vs 19 = .pointer (some ⟨bA, k * 22 + 17, none⟩) at q19
         change vs 20 = .int .i64 x.p.len at q20
         change vs 21 = .pointer (some ⟨g1, 17, none⟩) at q21
         change vs 22 = .int .i64 p.len at q22
         change vs 23 = .bool false at q23
         change vs 24 = .bool false at q24
         simp only [putAll, Act.put, List.setIfInBounds_toArray, List.set_cons_zero, List.set_cons_succ, q0, q1, q2, q3, q4, q5, q6, q7, q8, q9, q10, q11, q12, q13, q14, q15, q16, q17, q18, q19, q20, q21, q22, q23, q24]
         clear q0 q1 q2 q3 q4 q5 q6 q7 q8 q9 q10 q11 q12 q13 q14 q15 q16 q17 q18 q19 q20 q21 q22 q23 q24
         clear hR
         replace hBE := Lib.hid (hBE.out.trans ((bthen (below_drew _) (grow_below hXx)).mono hBE.out.size))
         replace HP := Lib.hid (HP.out.on (bthen (below_drew _) (grow_below hXx)))
         replace HW := Lib.hid (bthen HW.out (bthen (below_drew _) (grow_below hXx)))
         replace HTR := Lib.hid (HTR.out.on (bthen (below_drew _) (grow_below hXx)))
         replace HXR := Lib.hid (range_below (bthen (below_drew _) (grow_below hXx)) HBA.out HXR.out)
         replace HBA := Lib.hid (Nat.lt_of_lt_of_le HBA.out (bthen (below_drew _) (grow_below hXx)).size)
         clear hXx
         go_wp2_with fail
         refine wp_region_rel (fun A B => A.grownBy B none) (fun A => grown_refl A _) (fun A B C h k => grown_trans h k) (relAt (List.cons (fun v _ => v = .pointer (some ⟨g, 0, none⟩)) (List.cons (fun v _ => v = .pointer (some ⟨g, 0, none⟩)) (List.cons (fun v _ => v = .pointer (some ⟨g, 3, none⟩)) (List.cons (fun v _ => v = .slice (some ⟨bA, 0, none⟩) t.N.length c) (List.cons (fun v _ => v = .int .i64 (k : Int)) (List.cons (fun v _ => v = .pointer (some ⟨g, 0, none⟩)) (List.cons (fun v _ => v = .int .i64 (k : Int)) (List.cons (fun v _ => v = .agg p.cells.toArray) (List.cons (fun v _ => v = .int .i64 (s : Int)) (List.cons (fun v _ => v = .pointer (some ⟨bA, k * 22, none⟩)) (List.cons (fun v _ => v = .pointer (some ⟨bA, k * 22 + 20, none⟩)) (List.cons (fun v _ => v = .pointer (some ⟨bA, k * 22 + (20 + s), none⟩)) (List.cons (fun v _ => v = .int .i64 ((x.kid s : Nat) : Int)) (List.cons (fun v _ => v = .int .i64 ((x.kid s : Nat) : Int)) ([])))))))))))))))) (MonoL.at_ (.cons (mono_val _) (.cons (mono_val _) (.cons (mono_val _) (.cons (mono_val _) (.cons (mono_val _) (.cons (mono_val _) (.cons (mono_val _) (.cons (mono_val _) (.cons (mono_val _) (.cons (mono_val _) (.cons (mono_val _) (.cons (mono_val _) (.cons (mono_val _) (.cons (mono_val _) .nil))))))))))))))) (by kernel_rfl) (by kernel_rfl) ⟨?_, ?_, ?_, ?_, ?_, ?_, ?_, ?_, ?_, ?_, ?_, ?_, ?_, ?_, trivial⟩ ?_
         ·intro a vs W hX hR he hf K hK
          rw [if_pos (wanted_none rfl)]
          have e0 : a.eval (.tmp 0) = .pointer (some ⟨g, 0, none⟩) := hf 0 (by kernel_rfl)
          refine wp_value (v := .pointer (some ⟨g, 0, none⟩)) ?_ (hK _ _ rfl (grown_refl W _))
          simp only [execOp, e0]
          try go_simp
         ·intro a vs W hX hR he hf K hK
          rw [if_pos (wanted_none rfl)]
          have e49 : a.eval (.tmp 49) = .pointer (some ⟨g, 0, none⟩) := (he 0 49 (by kernel_rfl) rfl).trans (hR 0 (by kernel_rfl))
          refine wp_value (v := .pointer (some ⟨g, 0, none⟩)) ?_ (hK _ _ rfl (grown_refl W _))
          simp only [execOp, e49]
          try go_simp
         ·intro a vs W hX hR he hf K hK
          rw [if_pos (wanted_none rfl)]
          have e50 : a.eval (.tmp 50) = .pointer (some ⟨g, 0, none⟩) := (he 1 50 (by kernel_rfl) rfl).trans (hR 1 (by kernel_rfl))
          refine wp_value (v := .pointer (some ⟨g, 3, none⟩)) ?_ (hK _ _ rfl (grown_refl W _))
          simp only [execOp, e50]
          try go_simp
         ·intro a vs W hX hR he hf K hK
          rw [if_pos (wanted_none rfl)]
          have e51 : a.eval (.tmp 51) = .pointer (some ⟨g, 3, none⟩) := (he 2 51 (by kernel_rfl) rfl).trans (hR 2 (by kernel_rfl))
          have hbW := bthen (below_drew _) (grow_below hX)
          have hc : W.cell? ⟨g, 3, none⟩ = some (.slice (some ⟨bA, 0, none⟩) t.N.length c) := (HTR.out.blk.on hbW).cell 3
          refine wp_value (v := _) ?_ (hK _ _ rfl (grown_refl W _))
          simp only [execOp, e51]
          try go_simp
         ·intro a vs W hX hR he hf K hK
          rw [if_pos (wanted_none rfl)]
          have e5 : a.eval (.tmp 5) = .int .i64 (k : Int) := hf 5 (by kernel_rfl)
          refine wp_value (v := .int .i64 (k : Int)) ?_ (hK _ _ rfl (grown_refl W _))
          simp only [execOp, e5]
          try go_simp
         ·intro a vs W hX hR he hf K hK
          rw [if_pos (wanted_none rfl)]
          have e0 : a.eval (.tmp 0) = .pointer (some ⟨g, 0, none⟩) := hf 0 (by kernel_rfl)
          refine wp_value (v := .pointer (some ⟨g, 0, none⟩)) ?_ (hK _ _ rfl (grown_refl W _))
          simp only [execOp, e0]
          try go_simp
         ·intro a vs W hX hR he hf K hK
          rw [if_pos (wanted_none rfl)]
          have e5 : a.eval (.tmp 5) = .int .i64 (k : Int) := hf 5 (by kernel_rfl)
          refine wp_value (v := .int .i64 (k : Int)) ?_ (hK _ _ rfl (grown_refl W _))
          simp only [execOp, e5]
          try go_simp
         ·intro a vs W hX hR he hf K hK
          rw [if_pos (wanted_none rfl)]
          have e3 : a.eval (.tmp 3) = .pointer (some ⟨g1, 0, none⟩) := hf 3 (by kernel_rfl)
          have hbW := bthen (below_drew _) (grow_below hX)
          exact wp_value (exec_load 30 _ rfl g1 e3 30 p.cells _ (HP.out.on hbW) Try.underlying30 rfl (sizePx _ HF.out.addr)) (hK _ _ rfl (grown_refl W _))
         ·intro a vs W hX hR he hf K hK
          rw [if_pos (wanted_none rfl)]
          have e54 : a.eval (.tmp 54) = .pointer (some ⟨g, 0, none⟩) := (he 5 54 (by kernel_rfl) rfl).trans (hR 5 (by kernel_rfl))
          have e55 : a.eval (.tmp 55) = .int .i64 (k : Int) := (he 6 55 (by kernel_rfl) rfl).trans (hR 6 (by kernel_rfl))
          have e56 : a.eval (.tmp 56) = .agg p.cells.toArray := (he 7 56 (by kernel_rfl) rfl).trans (hR 7 (by kernel_rfl))
          have hbW := bthen (below_drew _) (grow_below hX)
          refine wp_enter (f := 72) (args := #[.pointer (some ⟨g, 0, none⟩), .int .i64 (k : Int), .agg p.cells.toArray]) (by simp only [execOp, e54, e55, e56]; go_simp; exact ⟨by simpa [Act.eval] using e54, by simpa [Act.eval] using e55, by simpa [Act.eval] using e56⟩) ((tside_any W g t _ _ _ _ (HTR.out.on hbW) k x HNX.out p HF.out).mono ?_)
          rintro e w' ⟨rfl, hb⟩
          rw [HS.out]
          exact ⟨_, rfl, hK _ _ rfl (below_grow hb _)⟩
         ·intro a vs W hX hR he hf K hK
          rw [if_pos (wanted_none rfl)]
          have e52 : a.eval (.tmp 52) = .slice (some ⟨bA, 0, none⟩) t.N.length c := (he 3 52 (by kernel_rfl) rfl).trans (hR 3 (by kernel_rfl))
          have e53 : a.eval (.tmp 53) = .int .i64 (k : Int) := (he 4 53 (by kernel_rfl) rfl).trans (hR 4 (by kernel_rfl))
          refine wp_value (v := .pointer (some ⟨bA, k * 22, none⟩)) ?_ (hK _ _ rfl (grown_refl W _))
          simp only [execOp, e52, e53]
          go_simp
         ·intro a vs W hX hR he hf K hK
          rw [if_pos (wanted_none rfl)]
          have e58 : a.eval (.tmp 58) = .pointer (some ⟨bA, k * 22, none⟩) := (he 9 58 (by kernel_rfl) rfl).trans (hR 9 (by kernel_rfl))
          refine wp_value (v := .pointer (some ⟨bA, k * 22 + 20, none⟩)) ?_ (hK _ _ rfl (grown_refl W _))
          simp only [execOp, e58]
          try go_simp
         ·intro a vs W hX hR he hf K hK
          rw [if_pos (wanted_none rfl)]
          have e59 : a.eval (.tmp 59) = .pointer (some ⟨bA, k * 22 + 20, none⟩) := (he 10 59 (by kernel_rfl) rfl).trans (hR 10 (by kernel_rfl))
          have e57 : a.eval (.tmp 57) = .int .i64 (s : Int) := (he 8 57 (by kernel_rfl) rfl).trans (hR 8 (by kernel_rfl))
          refine wp_value (v := .pointer (some ⟨bA, k * 22 + (20 + s), none⟩)) ?_ (hK _ _ rfl (grown_refl W _))
          simp only [execOp, e59, e57]
          go_simp
          try omega
         ·intro a vs W hX hR he hf K hK
          rw [if_pos (wanted_none rfl)]
          have e60 : a.eval (.tmp 60) = .pointer (some ⟨bA, k * 22 + (20 + s), none⟩) := (he 11 60 (by kernel_rfl) rfl).trans (hR 11 (by kernel_rfl))
          have hbW := bthen (below_drew _) (grow_below hX)
          have hc : W.cell? ⟨bA, k * 22 + (20 + s), none⟩ = some (.int .i64 ((x.kid s : Nat) : Int)) := range_below hbW HBA.out HXR.out (20 + s) _ (x.get_kid HXF.out.addr s (by omega))
          refine wp_value (v := _) ?_ (hK _ _ rfl (grown_refl W _))
          simp only [execOp, e60]
          try go_simp
         ·intro a vs W hX hR he hf K hK
          rw [if_pos (wanted_none rfl)]
          have e61 : a.eval (.tmp 61) = .int .i64 ((x.kid s : Nat) : Int) := (he 12 61 (by kernel_rfl) rfl).trans (hR 12 (by kernel_rfl))
          refine wp_value (v := .int .i64 ((x.kid s : Nat) : Int)) ?_ (hK _ _ rfl (grown_refl W _))
          simp only [execOp, e61]
          try go_simp
         ·intro vs wx hXx hR
          have q0 := hR 0 (by decide)
          have q1 := hR 1 (by decide)
          have q2 := hR 2 (by decide)
          have q3 := hR 3 (by decide)
          have q4 := hR 4 (by decide)
          have q5 := hR 5 (by decide)
          have q6 := hR 6 (by decide)
          have q7 := hR 7 (by decide)
          have q8 := hR 8 (by decide)
          have q9 := hR 9 (by decide)
          have q10 := hR 10 (by decide)
          have q11 := hR 11 (by decide)
          have q12 := hR 12 (by decide)
          have q13 := hR 13 (by decide)
          change vs 0 = .pointer (some ⟨g, 0, none⟩) at q0
          change vs 1 = .pointer (some ⟨g, 0, none⟩) at q1
          change vs 2 = .pointer (some ⟨g, 3, none⟩) at q2
          change vs 3 = .slice (some ⟨bA, 0, none⟩) t.N.length c at q3
          change vs 4 = .int .i64 (k : Int) at q4
          change vs 5 = .pointer (some ⟨g, 0, none⟩) at q5
          change vs 6 = .int .i64 (k : Int) at q6
          change vs 7 = .agg p.cells.toArray at q7
          change vs 8 = .int .i64 (s : Int) at q8
          change vs 9 = .pointer (some ⟨bA, k * 22, none⟩) at q9
          change vs 10 = .pointer (some ⟨bA, k * 22 + 20, none⟩) at q10
          change vs 11 = .pointer (some ⟨bA, k * 22 + (20 + s), none⟩) at q11
          change vs 12 = .int .i64 ((x.kid s : Nat) : Int) at q12
          change vs 13 = .int .i64 ((x.kid s : Nat) : Int) at q13
          simp only [putAll, Act.put, List.setIfInBounds_toArray, List.set_cons_zero, List.set_cons_succ, q0, q1, q2, q3, q4, q5, q6, q7, q8, q9, q10, q11, q12, q13]
          clear q0 q1 q2 q3 q4 q5 q6 q7 q8 q9 q10 q11 q12 q13
          clear hR
          replace hBE := Lib.hid (hBE.out.trans ((bthen (below_drew _) (grow_below hXx)).mono hBE.out.size))
          replace HP := Lib.hid (HP.out.on (bthen (below_drew _) (grow_below hXx)))
          replace HW := Lib.hid (bthen HW.out (bthen (below_drew _) (grow_below hXx)))
          replace HTR := Lib.hid (HTR.out.on (bthen (below_drew _) (grow_below hXx)))
          clear hXx
          go_wp2_with fail
          go_roundw
          case rel => exact ⟨f, x.kid s, by omega, rfl, by rw [← HS.out]; exact HFN.out, hBE.out⟩
          case measure =>
           have h1 := cntN_more t.N p (f + 1) k r HFK.out F hfF
           have h2 := cntN_more t.N p f _ r HFN.out F (by omega)
           simp only [intOf, Int.toNat_natCast]
           rw [HS.out] at h2
           rw [h1, h2]
           have h3 : cntN t.N p (f + 1) k = 1 + cntN t.N p f (x.kid s) := by
            conv => lhs; unfold cntN
            rw [if_neg (by have := HKN.out; omega), HNX.out]
            simp only []
            rw [if_neg HPQ.out, if_pos HCT.out, HS.out]
           omega
end Go.Proofs.Ytdmgomknamdcfaa


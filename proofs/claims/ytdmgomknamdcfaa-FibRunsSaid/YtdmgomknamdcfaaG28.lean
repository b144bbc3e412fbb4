/- Texts of this claim put together, in build order: each one's own remark stands ahead of it. -/
import Derived.Test.YtdmgomknamdcfaaG02
import Derived.Test.YtdmgomknamdcfaaG27
import Derived.Test.YtdmgomknamdcfaaG11
import Derived.Deep.DeepCutAuto
/- What fib.New, of, Put, Delete, Get and Look compute. No condition but sizes. -/
namespace Go.Proofs.Ytdmgomknamdcfaa
open Go.RowKit
set_option linter.unusedVariables false
set_option maxRecDepth 20000
set_option linter.unusedSimpArgs false

/-- a list of each kind, one of them another one -/
def setL (L : Bool → List Itm) (b : Bool) (x : List Itm) : Bool → List Itm := fun k => if k = b then x else L k
/-- prefixes of both kinds (or none): its blocks lie among S; the row of each kind -/
def FbO (w : World) (S : Nat → Prop) (f : Option Nat) (is : Bool) (room : Int) (L : Bool → List Itm) (K : Nat) : Prop :=
 ∃ (o : Bool → Option Nat) (T : Bool → Nat → Prop), (f = none → ∀ b, o b = none) ∧ (∀ g, f = some g → Blk w g 70 [ptV (o false), ptV (o true)] ∧ S g ∧ ∀ b, ¬ T b g) ∧
  (∀ b, TabO w (T b) (o b) is b room (L b) K) ∧ (∀ k, T false k → ¬ T true k) ∧ (∀ b k, T b k → S k)
section
variable {w w' : World} {S : Nat → Prop} {f : Option Nat} {is : Bool} {room : Int} {L : Bool → List Itm} {K : Nat}
theorem FbO.on (h : FbO w S f is room L K) (hb : Below w.heap.size w w') : FbO w' S f is room L K := by
 obtain ⟨o, T, h1, h2, h3, h4, h5⟩ := h
 exact ⟨o, T, h1, fun g hg => ⟨(h2 g hg).1.on hb, (h2 g hg).2⟩, fun b => (h3 b).on hb, h4, h5⟩
theorem FbO.kept {U : Nat → Prop} (h : FbO w S f is room L K) (hk : Kept U w w') (hd : ∀ b, S b → ¬ U b) : FbO w' S f is room L K := by
 obtain ⟨o, T, h1, h2, h3, h4, h5⟩ := h
 exact ⟨o, T, h1, fun g hg => ⟨hk.blk (h2 g hg).1 (hd g (h2 g hg).2.1), (h2 g hg).2⟩, fun b => (h3 b).kept hk (fun k hk => hd k (h5 b k hk)), h4, h5⟩
theorem FbO.mono {S' : Nat → Prop} {K' : Nat} (h : FbO w S f is room L K) (hs : ∀ b, b < w.heap.size → S b → S' b) (hK : K ≤ K') : FbO w S' f is room L K' := by
 obtain ⟨o, T, h1, h2, h3, h4, h5⟩ := h
 exact ⟨o, fun b k => T b k ∧ k < w.heap.size, h1, fun g hg => ⟨(h2 g hg).1, hs g (h2 g hg).1.lt (h2 g hg).2.1, fun b hb => (h2 g hg).2.2 b hb.1⟩, fun b => (h3 b).mono (fun k hk hT => ⟨hT, hk⟩) hK, fun k hk hk' => h4 k hk.1 hk'.1, fun b k hk => hs k hk.2 (h5 b k hk.1)⟩
theorem FbO.lok (h : FbO w S f is room L K) (b : Bool) : Lok b (L b) := by
 obtain ⟨o, T, h1, h2, h3, _⟩ := h
 exact (h3 b).lok
theorem FbO.len (h : FbO w S f is room L K) (b : Bool) : (L b).length ≤ K := by
 obtain ⟨o, T, h1, h2, h3, _⟩ := h
 exact (h3 b).len
/-- one of the tables with a new row -/
theorem fb_set {o : Bool → Option Nat} {T : Bool → Nat → Prop} {W : World} {K' : Nat} (six : Bool) (x : List Itm) (h1 : f = none → ∀ b, o b = none) (h2 : ∀ g, f = some g → Blk w g 70 [ptV (o false), ptV (o true)] ∧ S g ∧ ∀ b, ¬ T b g)
  (h3 : ∀ b, TabO w (T b) (o b) is b room (L b) K) (h4 : ∀ k, T false k → ¬ T true k) (h5 : ∀ b k, T b k → S k) (hb : Below w.heap.size w W) (hK : K ≤ K')
  (hT : TabO w' (ext (T six) W w') (o six) is six room x K') (hk : Kept (T six) W w') : FbO w' (ext S w w') f is room (setL L six x) K' := by
 have hn : ∀ k, T false k ∧ k < w.heap.size → ¬ (T true k ∧ k < w.heap.size) := fun k a b => h4 k a.1 b.1
 refine ⟨o, fun b k => if b = six then (T six k ∧ k < w.heap.size) ∨ (W.heap.size ≤ k ∧ k < w'.heap.size) ∨ (w.heap.size ≤ k ∧ k < w'.heap.size ∧ T six k) else T b k ∧ k < w.heap.size, h1, fun g hg => ?_, fun b => ?_, fun k ha hc => ?_, fun b k hq => ?_⟩
 ·obtain ⟨k1, k2, k3⟩ := h2 g hg
  refine ⟨hk.blk (k1.on hb) (k3 six), .inl k2, fun b hb' => ?_⟩
  have hlt := k1.lt
  change (if b = six then _ else _) at hb'
  split at hb'
  ·rcases hb' with e | e | e
   ·exact k3 six e.1
   ·have := hb.size; omega
   omega
  exact k3 b hb'.1
 ·by_cases hbs : b = six
  ·subst hbs
   have e : setL L b x b = x := by unfold setL; rw [if_pos rfl]
   rw [e]
   refine hT.mono (fun k hk hT => ?_) (Nat.le_refl _)
   show (if b = b then _ else _)
   rw [if_pos rfl]
   rcases hT with hT | hT
   ·by_cases hkw : k < w.heap.size
    ·exact .inl ⟨hT, hkw⟩
    exact .inr (.inr ⟨Nat.not_lt.1 hkw, hk, hT⟩)
   exact .inr (.inl hT)
  have e : setL L six x b = L b := by unfold setL; rw [if_neg hbs]
  rw [e]
  have h9 := ((h3 b).mono (S' := fun k => T b k ∧ k < w.heap.size) (fun k hk hT => ⟨hT, hk⟩) hK).on hb
  refine (h9.kept hk (fun k ha hT => ?_)).mono (fun k _ hc => ?_) (Nat.le_refl _)
  ·cases b <;> cases six
   ·exact hbs rfl
   ·exact h4 k ha.1 hT
   ·exact h4 k hT ha.1
   exact hbs rfl
  show (if b = six then _ else _)
  rw [if_neg hbs]
  exact hc
 ·have hbz := hb.size
  cases six
  ·rw [if_pos rfl] at ha
   rw [if_neg (by decide)] at hc
   rcases ha with e | e | e
   ·exact h4 k e.1 hc.1
   ·omega
   omega
  rw [if_neg (by decide)] at ha
  rw [if_pos rfl] at hc
  rcases hc with e | e | e
  ·exact h4 k ha.1 e.1
  ·omega
  omega
 have hbz := hb.size
 change (if b = six then _ else _) at hq
 split at hq
 ·rcases hq with e | e | e
  ·exact .inl (h5 six k e.1)
  ·exact .inr ⟨by omega, e.2⟩
  exact .inl (h5 six k e.2.2)
 exact .inl (h5 b k hq.1)
end
theorem ansL'_fit {s : Bool} {L : List Itm} (h : Lok s L) (ad : List UInt8) : (ansL' L ad).1.1.fit := by
 unfold ansL'
 cases hB : bestP ad L none with
 | none => exact ⟨rfl, by decide, by decide⟩
 | some y => exact (h.good y (bestP_mem hB)).fit
theorem fof_any (w : World) (f : Option Nat) (o : Bool → Option Nat) (h1 : f = none → ∀ b, o b = none) (h2 : ∀ g, f = some g → Blk w g 70 [ptV (o false), ptV (o true)]) (six : Bool) :
  Calls Try.prog 30 #[ptV f, .bool six] w fun e w' => e = .returned (ptV (o six)) ∧ w = w' := by
 cases f with
 | none =>
  rw [h1 rfl six]
  show Calls Try.prog 30 #[.pointer none, .bool six] w _
  go_enter Try.func30, Try.ntmps30
  go_wp2_with fail
  go_ret
  exact ⟨rfl, rfl⟩
 | some g =>
  have c0 : w.cell? ⟨g, 0, none⟩ = some (ptV (o false)) := (h2 g rfl).cell 0
  have c1 : w.cell? ⟨g, 1, none⟩ = some (ptV (o true)) := (h2 g rfl).cell 1
  show Calls Try.prog 30 #[.pointer (some ⟨g, 0, none⟩), .bool six] w _
  clear h1 h2
  cases six
  ·go_enter Try.func30, Try.ntmps30
   go_wp2_with fail
   go_ret
   exact ⟨rfl, rfl⟩
  go_enter Try.func30, Try.ntmps30
  go_wp2_with fail
  go_ret
  exact ⟨rfl, rfl⟩
set_option maxHeartbeats 4000000 in
theorem fput_any {w : World} {S : Nat → Prop} {f : Option Nat} {is : Bool} {room : Int} {L : Bool → List Itm} {K : Nat} (h : FbO w S f is room L K) (hK : K ≤ 999990) (p : Px) (hp : p.fit) (vl : Int) :
  Calls Try.prog 8 #[ptV f, .agg p.cells.toArray, .int .i64 vl] w fun e w' => e = .returned (.int .i64 (putR is p.six room (L p.six) p vl).2) ∧ FbO w' (ext S w w') f is room (setL L p.six (putR is p.six room (L p.six) p vl).1) (K + 2) ∧ Kept S w w' := by
 obtain ⟨o, T, h1, h2, h3, h4, h5⟩ := h
 have HP := Hh hp
 have HK := Hh hK
 have HN := Hh h1
 have HC := Hh (fun g hg => (h2 g hg).1)
 have H2 := Hh h2
 have HT := Hh h3
 have H4 := Hh h4
 have H5 := Hh h5
 clear hp hK h1 h2 h3 h4 h5
 go_enter Try.func8, Try.ntmps8
 go_upto_region 1 with (refine wpList_box_blk (by rfl) 30 (.tmp 1) rfl p.cells rfl ?_; intro w1 hb1 hB1 hs1; clear hs1)
 obtain ⟨gp, hgp⟩ : ∃ g, w.heap.size = g := ⟨_, rfl⟩
 rw [hgp] at hb1
 try rw [hgp]
 have HB1 := Hh hB1
 have HPX := Hh hb1
 have HGP := Hh (show w.heap.size ≤ gp by omega)
 clear hb1 hB1 hgp
 go_wp2_with fail
 refine wp_region_mid 6 7 [true, true, true, true, true, true, true] (fun _ => True) (fun x W' => x = .int .i64 (putR is p.six room (L p.six) p vl).2 ∧ ∃ V, Below w.heap.size w V ∧ TabO W' (ext (T p.six) V W') (o p.six) is p.six room (putR is p.six room (L p.six) p vl).1 (K + 2) ∧ Kept (T p.six) V W') (fun A B => A.grownBy B none) (fun A => grown_refl A _) (fun A B C h k => grown_trans h k) (relAt (List.cons (fun v _ => v = ptV f) (List.cons (fun v _ => v = .pointer (some ⟨gp, 0, none⟩)) (List.cons (fun v _ => v = .bool p.six) (List.cons (fun v _ => v = ptV (o p.six)) (List.cons (fun v _ => v = .agg p.cells.toArray) (List.cons (fun v _ => v = .int .i64 vl) (List.cons (fun _ _ => True) ([]))))))))) (MonoL.at_ (.cons (mono_val _) (.cons (mono_val _) (.cons (mono_val _) (.cons (mono_val _) (.cons (mono_val _) (.cons (mono_val _) (.cons ((fun _ _ _ h _ => h)) .nil)))))))) (ConstL.at_ (.cons (fun _ _ _ h => h) (.cons (fun _ _ _ h => h) (.cons (fun _ _ _ h => h) (.cons (fun _ _ _ h => h) (.cons (fun _ _ _ h => h) (.cons (fun _ _ _ h => h) (.cons (fun _ _ _ h => h) .nil)))))))) (fun v W h => True.intro) (fun W hX => True.intro) (fun v W h => True.intro) (by kernel_rfl) (by kernel_rfl) rfl (by decide) (by kernel_rfl) (by kernel_rfl) _ rfl rfl ⟨?_, ?_, ?_, ?_, ?_, ?_, ?_, trivial⟩ ?_
 ·refine stepM_anc ?_ ?_ ?_
  ·rfl
  ·kernel_rfl
  intro a vs W hX hR he hf K hK
  refine wn rfl ?_
  have e0 : a.eval (.tmp 0) = ptV f := hf 0 (by kernel_rfl)
  refine wV hK rfl ?_
  simp only [execOp, e0]
  try go_simp
 ·refine stepM_anc ?_ ?_ ?_
  ·rfl
  ·kernel_rfl
  intro a vs W hX hR he hf K hK
  refine wn rfl ?_
  have e4 : a.eval (.tmp 4) = .pointer (some ⟨gp, 0, none⟩) := hf 4 (by kernel_rfl)
  refine wV hK rfl ?_
  simp only [execOp, e4]
  try go_simp
 ·refine stepM_anc ?_ ?_ ?_
  ·rfl
  ·kernel_rfl
  intro a vs W hX hR he hf K hK
  refine wn rfl ?_
  have e8 : a.eval (.tmp 8) = .pointer (some ⟨gp, 0, none⟩) := eH he hR 1 (by kernel_rfl) rfl
  have hbW := bthen (below_drew _) (grow_below hX)
  have hc : W.cell? ⟨gp, 0, none⟩ = some (.bool p.six) := (HPX.out.on hbW).cell 0
  refine wV hK rfl ?_
  simp only [execOp, e8]
  try go_simp
 ·refine stepM_anc ?_ ?_ ?_
  ·rfl
  ·kernel_rfl
  intro a vs W hX hR he hf K hK
  refine wn rfl ?_
  have e7 : a.eval (.tmp 7) = ptV f := eH he hR 0 (by kernel_rfl) rfl
  have e9 : a.eval (.tmp 9) = .bool p.six := eH he hR 2 (by kernel_rfl) rfl
  have hbW := bthen (below_drew _) (grow_below hX)
  refine wp_enter (f := 30) (args := #[ptV f, .bool p.six]) (by simp only [execOp, e7, e9]; go_simp; exact ⟨by simpa [Act.eval] using e7, by simpa [Act.eval] using e9⟩) ((fof_any W f o HN.out (fun g hg => ((HC.out g hg).on HB1.out).on hbW) p.six).mono ?_)
  rintro e w' ⟨rfl, rfl⟩
  exact ⟨_, rfl, hK _ _ rfl (grown_refl W _)⟩
 ·refine stepM_anc ?_ ?_ ?_
  ·rfl
  ·kernel_rfl
  intro a vs W hX hR he hf K hK
  refine wn rfl ?_
  have e4 : a.eval (.tmp 4) = .pointer (some ⟨gp, 0, none⟩) := hf 4 (by kernel_rfl)
  have hbW := bthen (below_drew _) (grow_below hX)
  exact wp_value (exec_load 30 _ rfl gp e4 30 p.cells _ (HPX.out.on hbW) Try.underlying30 rfl (sizePx _ HP.out.addr)) (gK hK rfl)
 ·refine stepM_anc ?_ ?_ ?_
  ·rfl
  ·kernel_rfl
  intro a vs W hX hR he hf K hK
  refine wn rfl ?_
  have e2 : a.eval (.tmp 2) = .int .i64 vl := hf 2 (by kernel_rfl)
  refine wV hK rfl ?_
  simp only [execOp, e2]
  try go_simp
 ·refine stepM_heavy ?_ ?_
  ·rfl
  intro a vs W hX hR he hf K hK
  refine wn rfl ?_
  have e10 : a.eval (.tmp 10) = ptV (o p.six) := eH he hR 3 (by kernel_rfl) rfl
  have e11 : a.eval (.tmp 11) = .agg p.cells.toArray := eH he hR 4 (by kernel_rfl) rfl
  have e12 : a.eval (.tmp 12) = .int .i64 vl := eH he hR 5 (by kernel_rfl) rfl
  have hbW := bthen (below_drew _) (grow_below hX)
  have hw2 := bthen HB1.out hbW
  have hcl := tput_O ((HT.out p.six).on hw2) HK.out p HP.out vl
  refine wp_enter (f := 31) (args := #[ptV (o p.six), .agg p.cells.toArray, .int .i64 vl]) (by simp only [execOp, e10, e11, e12]; go_simp; exact ⟨by simpa [Act.eval] using e10, by simpa [Act.eval] using e11, by simpa [Act.eval] using e12⟩) (hcl.mono ?_)
  rintro e w' ⟨rfl, hT', hk'⟩
  exact ⟨_, rfl, hK _ _ ⟨rfl, W, hw2, hT', hk'⟩⟩
 intro vs wv hPv hR
 have q0 := hR 0 (by decide) rfl
 change vs 0 = ptV f at q0
 have q1 := hR 1 (by decide) rfl
 change vs 1 = .pointer (some ⟨gp, 0, none⟩) at q1
 have q2 := hR 2 (by decide) rfl
 change vs 2 = .bool p.six at q2
 have q3 := hR 3 (by decide) rfl
 change vs 3 = ptV (o p.six) at q3
 have q4 := hR 4 (by decide) rfl
 change vs 4 = .agg p.cells.toArray at q4
 have q5 := hR 5 (by decide) rfl
 change vs 5 = .int .i64 vl at q5
 simp only [putAll, Act.put, List.setIfInBounds_toArray, List.set_cons_zero, List.set_cons_succ, List.take_succ_cons, List.take_zero, q0, q1, q2, q3, q4, q5]
 clear q0 q1 q2 q3 q4 q5
 clear hR
 generalize vs 6 = vh at hPv ⊢
 obtain ⟨rfl, V, hV, hT', hk'⟩ := hPv
 refine wp_value (v := .int .i64 (putR is p.six room (L p.six) p vl).2) (w' := wv) (by simp only [execOp]; go_simp) ?_
 try simp only [List.getElem_toArray, List.getElem_cons_succ, List.getElem_cons_zero, Act.put, List.setIfInBounds_toArray, List.set_cons_zero, List.set_cons_succ]
 have HFB := Hh (fb_set p.six _ HN.out H2.out HT.out H4.out H5.out hV (by omega) hT' hk')
 have HKP := Hh (((Kept.of_below (S := S) hV).trans hk' (fun k hk _ => H5.out _ k hk)))
 clear hV hT' hk'
 go_wp2_with fail
 go_ret
 exact ⟨rfl, HFB.out, HKP.out⟩
set_option maxHeartbeats 4000000 in
theorem fdel_any {w : World} {S : Nat → Prop} {f : Option Nat} {is : Bool} {room : Int} {L : Bool → List Itm} {K : Nat} (h : FbO w S f is room L K) (hK : K ≤ 999990) (p : Px) (hp : p.fit) :
  Calls Try.prog 17 #[ptV f, .agg p.cells.toArray] w fun e w' => e = .returned (.int .i64 (delR is p.six (L p.six) p).2) ∧ FbO w' (ext S w w') f is room (setL L p.six (delR is p.six (L p.six) p).1) K ∧ Kept S w w' := by
 obtain ⟨o, T, h1, h2, h3, h4, h5⟩ := h
 have HP := Hh hp
 have HK := Hh hK
 have HN := Hh h1
 have HC := Hh (fun g hg => (h2 g hg).1)
 have H2 := Hh h2
 have HT := Hh h3
 have H4 := Hh h4
 have H5 := Hh h5
 clear hp hK h1 h2 h3 h4 h5
 go_enter Try.func17, Try.ntmps17
 go_upto_region 1 with (refine wpList_box_blk (by rfl) 30 (.tmp 1) rfl p.cells rfl ?_; intro w1 hb1 hB1 hs1; clear hs1)
 obtain ⟨gp, hgp⟩ : ∃ g, w.heap.size = g := ⟨_, rfl⟩
 rw [hgp] at hb1
 try rw [hgp]
 have HB1 := Hh hB1
 have HPX := Hh hb1
 have HGP := Hh (show w.heap.size ≤ gp by omega)
 clear hb1 hB1 hgp
 go_wp2_with fail
 refine wp_region_mid 5 6 [true, true, true, true, true, true] (fun _ => True) (fun x W' => x = .int .i64 (delR is p.six (L p.six) p).2 ∧ ∃ V, Below w.heap.size w V ∧ TabO W' (ext (T p.six) V W') (o p.six) is p.six room (delR is p.six (L p.six) p).1 K ∧ Kept (T p.six) V W') (fun A B => A.grownBy B none) (fun A => grown_refl A _) (fun A B C h k => grown_trans h k) (relAt (List.cons (fun v _ => v = ptV f) (List.cons (fun v _ => v = .pointer (some ⟨gp, 0, none⟩)) (List.cons (fun v _ => v = .bool p.six) (List.cons (fun v _ => v = ptV (o p.six)) (List.cons (fun v _ => v = .agg p.cells.toArray) (List.cons (fun _ _ => True) ([])))))))) (MonoL.at_ (.cons (mono_val _) (.cons (mono_val _) (.cons (mono_val _) (.cons (mono_val _) (.cons (mono_val _) (.cons ((fun _ _ _ h _ => h)) .nil))))))) (ConstL.at_ (.cons (fun _ _ _ h => h) (.cons (fun _ _ _ h => h) (.cons (fun _ _ _ h => h) (.cons (fun _ _ _ h => h) (.cons (fun _ _ _ h => h) (.cons (fun _ _ _ h => h) .nil))))))) (fun v W h => True.intro) (fun W hX => True.intro) (fun v W h => True.intro) (by kernel_rfl) (by kernel_rfl) rfl (by decide) (by kernel_rfl) (by kernel_rfl) _ rfl rfl ⟨?_, ?_, ?_, ?_, ?_, ?_, trivial⟩ ?_
 ·refine stepM_anc ?_ ?_ ?_
  ·rfl
  ·kernel_rfl
  intro a vs W hX hR he hf K hK
  refine wn rfl ?_
  have e0 : a.eval (.tmp 0) = ptV f := hf 0 (by kernel_rfl)
  refine wV hK rfl ?_
  simp only [execOp, e0]
  try go_simp
 ·refine stepM_anc ?_ ?_ ?_
  ·rfl
  ·kernel_rfl
  intro a vs W hX hR he hf K hK
  refine wn rfl ?_
  have e3 : a.eval (.tmp 3) = .pointer (some ⟨gp, 0, none⟩) := hf 3 (by kernel_rfl)
  refine wV hK rfl ?_
  simp only [execOp, e3]
  try go_simp
 ·refine stepM_anc ?_ ?_ ?_
  ·rfl
  ·kernel_rfl
  intro a vs W hX hR he hf K hK
  refine wn rfl ?_
  have e6 : a.eval (.tmp 6) = .pointer (some ⟨gp, 0, none⟩) := eH he hR 1 (by kernel_rfl) rfl
  have hbW := bthen (below_drew _) (grow_below hX)
  have hc : W.cell? ⟨gp, 0, none⟩ = some (.bool p.six) := (HPX.out.on hbW).cell 0
  refine wV hK rfl ?_
  simp only [execOp, e6]
  try go_simp
 ·refine stepM_anc ?_ ?_ ?_
  ·rfl
  ·kernel_rfl
  intro a vs W hX hR he hf K hK
  refine wn rfl ?_
  have e5 : a.eval (.tmp 5) = ptV f := eH he hR 0 (by kernel_rfl) rfl
  have e7 : a.eval (.tmp 7) = .bool p.six := eH he hR 2 (by kernel_rfl) rfl
  have hbW := bthen (below_drew _) (grow_below hX)
  refine wp_enter (f := 30) (args := #[ptV f, .bool p.six]) (by simp only [execOp, e5, e7]; go_simp; exact ⟨by simpa [Act.eval] using e5, by simpa [Act.eval] using e7⟩) ((fof_any W f o HN.out (fun g hg => ((HC.out g hg).on HB1.out).on hbW) p.six).mono ?_)
  rintro e w' ⟨rfl, rfl⟩
  exact ⟨_, rfl, hK _ _ rfl (grown_refl W _)⟩
 ·refine stepM_anc ?_ ?_ ?_
  ·rfl
  ·kernel_rfl
  intro a vs W hX hR he hf K hK
  refine wn rfl ?_
  have e3 : a.eval (.tmp 3) = .pointer (some ⟨gp, 0, none⟩) := hf 3 (by kernel_rfl)
  have hbW := bthen (below_drew _) (grow_below hX)
  exact wp_value (exec_load 30 _ rfl gp e3 30 p.cells _ (HPX.out.on hbW) Try.underlying30 rfl (sizePx _ HP.out.addr)) (gK hK rfl)
 ·refine stepM_heavy ?_ ?_
  ·rfl
  intro a vs W hX hR he hf K hK
  refine wn rfl ?_
  have e8 : a.eval (.tmp 8) = ptV (o p.six) := eH he hR 3 (by kernel_rfl) rfl
  have e9 : a.eval (.tmp 9) = .agg p.cells.toArray := eH he hR 4 (by kernel_rfl) rfl
  have hbW := bthen (below_drew _) (grow_below hX)
  have hw2 := bthen HB1.out hbW
  have hcl := tdel_O ((HT.out p.six).on hw2) HK.out p HP.out
  refine wp_enter (f := 47) (args := #[ptV (o p.six), .agg p.cells.toArray]) (by simp only [execOp, e8, e9]; go_simp; exact ⟨by simpa [Act.eval] using e8, by simpa [Act.eval] using e9⟩) (hcl.mono ?_)
  rintro e w' ⟨rfl, hT', hk'⟩
  exact ⟨_, rfl, hK _ _ ⟨rfl, W, hw2, hT', hk'⟩⟩
 intro vs wv hPv hR
 have q0 := hR 0 (by decide) rfl
 change vs 0 = ptV f at q0
 have q1 := hR 1 (by decide) rfl
 change vs 1 = .pointer (some ⟨gp, 0, none⟩) at q1
 have q2 := hR 2 (by decide) rfl
 change vs 2 = .bool p.six at q2
 have q3 := hR 3 (by decide) rfl
 change vs 3 = ptV (o p.six) at q3
 have q4 := hR 4 (by decide) rfl
 change vs 4 = .agg p.cells.toArray at q4
 simp only [putAll, Act.put, List.setIfInBounds_toArray, List.set_cons_zero, List.set_cons_succ, List.take_succ_cons, List.take_zero, q0, q1, q2, q3, q4]
 clear q0 q1 q2 q3 q4
 clear hR
 generalize vs 5 = vh at hPv ⊢
 obtain ⟨rfl, V, hV, hT', hk'⟩ := hPv
 refine wp_value (v := .int .i64 (delR is p.six (L p.six) p).2) (w' := wv) (by simp only [execOp]; go_simp) ?_
 try simp only [List.getElem_toArray, List.getElem_cons_succ, List.getElem_cons_zero, Act.put, List.setIfInBounds_toArray, List.set_cons_zero, List.set_cons_succ]
 have HFB := Hh (fb_set p.six _ HN.out H2.out HT.out H4.out H5.out hV (by omega) hT' hk')
 have HKP := Hh (((Kept.of_below (S := S) hV).trans hk' (fun k hk _ => H5.out _ k hk)))
 clear hV hT' hk'
 go_wp2_with fail
 go_ret
 exact ⟨rfl, HFB.out, HKP.out⟩
set_option maxHeartbeats 4000000 in
theorem fget_any {w : World} {S : Nat → Prop} {f : Option Nat} {is : Bool} {room : Int} {L : Bool → List Itm} {K : Nat} (h : FbO w S f is room L K) (hK : True) (p : Px) (hp : p.fit) :
  Calls Try.prog 11 #[ptV f, .agg p.cells.toArray] w fun e w' => e = .returned (.tuple #[.int .i64 (getC (L p.six) p), .bool (hasC (L p.six) p)]) ∧ Below w.heap.size w w' := by
 obtain ⟨o, T, h1, h2, h3, h4, h5⟩ := h
 have HP := Hh hp
 have HK := Hh hK
 have HN := Hh h1
 have HC := Hh (fun g hg => (h2 g hg).1)
 have H2 := Hh h2
 have HT := Hh h3
 have H4 := Hh h4
 have H5 := Hh h5
 clear hp hK h1 h2 h3 h4 h5
 go_enter Try.func11, Try.ntmps11
 go_upto_region 1 with (refine wpList_box_blk (by rfl) 30 (.tmp 1) rfl p.cells rfl ?_; intro w1 hb1 hB1 hs1; clear hs1)
 obtain ⟨gp, hgp⟩ : ∃ g, w.heap.size = g := ⟨_, rfl⟩
 rw [hgp] at hb1
 try rw [hgp]
 have HB1 := Hh hB1
 have HPX := Hh hb1
 have HGP := Hh (show w.heap.size ≤ gp by omega)
 clear hb1 hB1 hgp
 go_wp2_with fail
 refine wp_region_rel (fun A B => A.grownBy B none) (fun A => grown_refl A _) (fun A B C h k => grown_trans h k) (relAt (eqs [ptV f, .pointer (some ⟨gp, 0, none⟩), .bool p.six, ptV (o p.six), .agg p.cells.toArray, .tuple #[.int .i64 (getC (L p.six) p), .bool (hasC (L p.six) p)], .int .i64 (getC (L p.six) p), .bool (hasC (L p.six) p), .int .i64 (getC (L p.six) p), .bool (hasC (L p.six) p)])) (MonoL.at_ (eqs_mono _)) (by kernel_rfl) (by kernel_rfl) ⟨?_, ?_, ?_, ?_, ?_, ?_, ?_, ?_, ?_, ?_, trivial⟩ ?_
 ·intro a vs W hX hR he hf K hK
  refine wn rfl ?_
  have e0 : a.eval (.tmp 0) = ptV f := hf 0 (by kernel_rfl)
  refine wV hK rfl ?_
  simp only [execOp, e0]
  try go_simp
 ·intro a vs W hX hR he hf K hK
  refine wn rfl ?_
  have e3 : a.eval (.tmp 3) = .pointer (some ⟨gp, 0, none⟩) := hf 3 (by kernel_rfl)
  refine wV hK rfl ?_
  simp only [execOp, e3]
  try go_simp
 ·intro a vs W hX hR he hf K hK
  refine wn rfl ?_
  have e7 : a.eval (.tmp 7) = .pointer (some ⟨gp, 0, none⟩) := eH he hR 1 (by kernel_rfl) rfl
  have hbW := bthen (below_drew _) (grow_below hX)
  have hc : W.cell? ⟨gp, 0, none⟩ = some (.bool p.six) := (HPX.out.on hbW).cell 0
  refine wV hK rfl ?_
  simp only [execOp, e7]
  try go_simp
 ·intro a vs W hX hR he hf K hK
  refine wn rfl ?_
  have e6 : a.eval (.tmp 6) = ptV f := eH he hR 0 (by kernel_rfl) rfl
  have e8 : a.eval (.tmp 8) = .bool p.six := eH he hR 2 (by kernel_rfl) rfl
  have hbW := bthen (below_drew _) (grow_below hX)
  refine wp_enter (f := 30) (args := #[ptV f, .bool p.six]) (by simp only [execOp, e6, e8]; go_simp; exact ⟨by simpa [Act.eval] using e6, by simpa [Act.eval] using e8⟩) ((fof_any W f o HN.out (fun g hg => ((HC.out g hg).on HB1.out).on hbW) p.six).mono ?_)
  rintro e w' ⟨rfl, rfl⟩
  exact ⟨_, rfl, hK _ _ rfl (grown_refl W _)⟩
 ·intro a vs W hX hR he hf K hK
  refine wn rfl ?_
  have e3 : a.eval (.tmp 3) = .pointer (some ⟨gp, 0, none⟩) := hf 3 (by kernel_rfl)
  have hbW := bthen (below_drew _) (grow_below hX)
  exact wp_value (exec_load 30 _ rfl gp e3 30 p.cells _ (HPX.out.on hbW) Try.underlying30 rfl (sizePx _ HP.out.addr)) (gK hK rfl)
 ·intro a vs W hX hR he hf K hK
  refine wn rfl ?_
  have e9 : a.eval (.tmp 9) = ptV (o p.six) := eH he hR 3 (by kernel_rfl) rfl
  have e10 : a.eval (.tmp 10) = .agg p.cells.toArray := eH he hR 4 (by kernel_rfl) rfl
  have hbW := bthen (below_drew _) (grow_below hX)
  refine wp_enter (f := 35) (args := #[ptV (o p.six), .agg p.cells.toArray]) (by simp only [execOp, e9, e10]; go_simp; exact ⟨by simpa [Act.eval] using e9, by simpa [Act.eval] using e10⟩) ((tget_O ((HT.out p.six).on (bthen HB1.out hbW)) p HP.out).mono ?_)
  rintro e w' ⟨rfl, hb⟩
  exact ⟨_, rfl, hK _ _ rfl (below_grow hb _)⟩
 ·intro a vs W hX hR he hf K hK
  refine wn rfl ?_
  have e11 : a.eval (.tmp 11) = .tuple #[.int .i64 (getC (L p.six) p), .bool (hasC (L p.six) p)] := eH he hR 5 (by kernel_rfl) rfl
  refine wV hK rfl ?_
  simp only [execOp, e11]
  try go_simp
 ·intro a vs W hX hR he hf K hK
  refine wn rfl ?_
  have e11 : a.eval (.tmp 11) = .tuple #[.int .i64 (getC (L p.six) p), .bool (hasC (L p.six) p)] := eH he hR 5 (by kernel_rfl) rfl
  refine wV hK rfl ?_
  simp only [execOp, e11]
  try go_simp
 ·intro a vs W hX hR he hf K hK
  refine wn rfl ?_
  have e12 : a.eval (.tmp 12) = .int .i64 (getC (L p.six) p) := eH he hR 6 (by kernel_rfl) rfl
  refine wV hK rfl ?_
  simp only [execOp, e12]
  try go_simp
 ·intro a vs W hX hR he hf K hK
  refine wn rfl ?_
  have e13 : a.eval (.tmp 13) = .bool (hasC (L p.six) p) := eH he hR 7 (by kernel_rfl) rfl
  refine wV hK rfl ?_
  simp only [execOp, e13]
  try go_simp
 intro vs wx hXx hR
 rw [put_eqs hR rfl]
 simp only [putL, Act.put, List.setIfInBounds_toArray, List.set_cons_zero, List.set_cons_succ]
 clear hR
 have HW := Hh (bthen HB1.out (bthen (below_drew _) (grow_below hXx)))
 clear hXx
 go_wp2_with fail
 go_ret2
 exact ⟨rfl, HW.out⟩
set_option maxHeartbeats 4000000 in
theorem flook_any {w : World} {S : Nat → Prop} {f : Option Nat} {is : Bool} {room : Int} {L : Bool → List Itm} {K : Nat} (h : FbO w S f is room L K) (six : Bool) (ad : List UInt8) (hal : ad.length = 16) :
  Calls Try.prog 10 #[ptV f, .bool six, .agg (bv ad).toArray] w fun e w' => e = .returned (.tuple #[.agg (itC (ansL' (L six) ad).1).toArray, .bool (ansL' (L six) ad).2]) ∧ Below w.heap.size w w' := by
 obtain ⟨Y, hY⟩ : ∃ x, ansL' (L six) ad = x := ⟨_, rfl⟩
 have hyf : Y.1.1.fit := by rw [← hY]; exact ansL'_fit (h.lok six) ad
 rw [hY]
 obtain ⟨y, b⟩ := Y
 have HYF := Hh hyf
 have HY := Hh hY
 clear hyf hY
 obtain ⟨o, T, h1, h2, h3, h4, h5⟩ := h
 have HAL := Hh hal
 have HN := Hh h1
 have HC := Hh (fun g hg => (h2 g hg).1)
 have HT := Hh h3
 clear hal h1 h2 h3 h4 h5
 go_enter Try.func10, Try.ntmps10
 go_upto_region 1 with (first
  | (refine wpList_box_blk (by rfl) 23 (.tmp 2) rfl (bv ad) rfl ?_; intro w1 hb1 hB1 hs1; clear hs1)
  | (refine wpList_alloc_blk (by rfl) 35 rfl (itC (Px.zero, 0)) zeroIt ?_; intro w2 hb2 hB2 hs2; clear hs2))
 obtain ⟨ga, hga⟩ : ∃ g, w.heap.size = g := ⟨_, rfl⟩
 obtain ⟨gr, hgr⟩ : ∃ g, w1.heap.size = g := ⟨_, rfl⟩
 have hk1 := hb1.on hB2
 have HB1 := Hh (bthen hB1 hB2)
 have HGR := Hh (show w.heap.size ≤ gr by have := hB1.size; omega)
 rw [hga] at hk1
 rw [hgr] at hb2
 try rw [hga]
 try rw [hgr]
 have HAX := Hh hk1
 have HRX := Hh hb2
 clear hb1 hB1 hb2 hB2 hk1 hga hgr
 go_wp2_with fail
 refine wp_region_mid 7 8 [true, true, true, true, true, true, true, true] (fun _ => True) (fun _ W' => Blk W' gr 35 (itC y) ∧ Below w.heap.size w W') (fun A B => A.grownBy B none) (fun A => grown_refl A _) (fun A B C h k => grown_trans h k) (relAt (List.cons (fun v _ => v = ptV f) (List.cons (fun v _ => v = .bool six) (List.cons (fun v _ => v = ptV (o six)) (List.cons (fun v _ => v = .agg (bv ad).toArray) (List.cons (fun v _ => v = .tuple #[.agg (itC y).toArray, .bool b]) (List.cons (fun v _ => v = .agg (itC y).toArray) (List.cons (fun v _ => v = .bool b) (List.cons (fun _ _ => True) ([])))))))))) (MonoL.at_ (.cons (mono_val _) (.cons (mono_val _) (.cons (mono_val _) (.cons (mono_val _) (.cons (mono_val _) (.cons (mono_val _) (.cons (mono_val _) (.cons ((fun _ _ _ h _ => h)) .nil))))))))) (ConstL.at_ (.cons (fun _ _ _ h => h) (.cons (fun _ _ _ h => h) (.cons (fun _ _ _ h => h) (.cons (fun _ _ _ h => h) (.cons (fun _ _ _ h => h) (.cons (fun _ _ _ h => h) (.cons (fun _ _ _ h => h) (.cons (fun _ _ _ h => h) .nil))))))))) (fun v W h => True.intro) (fun W hX => True.intro) (fun v W h => True.intro) (by kernel_rfl) (by kernel_rfl) rfl (by decide) (by kernel_rfl) (by kernel_rfl) _ rfl rfl ⟨?_, ?_, ?_, ?_, ?_, ?_, ?_, ?_, trivial⟩ ?_
 ·refine stepM_anc ?_ ?_ ?_
  ·rfl
  ·kernel_rfl
  intro a vs W hX hR he hf K hK
  refine wn rfl ?_
  have e0 : a.eval (.tmp 0) = ptV f := hf 0 (by kernel_rfl)
  refine wV hK rfl ?_
  simp only [execOp, e0]
  try go_simp
 ·refine stepM_anc ?_ ?_ ?_
  ·rfl
  ·kernel_rfl
  intro a vs W hX hR he hf K hK
  refine wn rfl ?_
  have e1 : a.eval (.tmp 1) = .bool six := hf 1 (by kernel_rfl)
  refine wV hK rfl ?_
  simp only [execOp, e1]
  try go_simp
 ·refine stepM_anc ?_ ?_ ?_
  ·rfl
  ·kernel_rfl
  intro a vs W hX hR he hf K hK
  refine wn rfl ?_
  have e8 : a.eval (.tmp 8) = ptV f := eH he hR 0 (by kernel_rfl) rfl
  have e9 : a.eval (.tmp 9) = .bool six := eH he hR 1 (by kernel_rfl) rfl
  have hbW := bthen (below_drew _) (grow_below hX)
  refine wp_enter (f := 30) (args := #[ptV f, .bool six]) (by simp only [execOp, e8, e9]; go_simp; exact ⟨by simpa [Act.eval] using e8, by simpa [Act.eval] using e9⟩) ((fof_any W f o HN.out (fun g hg => ((HC.out g hg).on HB1.out).on hbW) six).mono ?_)
  rintro e w' ⟨rfl, rfl⟩
  exact ⟨_, rfl, hK _ _ rfl (grown_refl W _)⟩
 ·refine stepM_anc ?_ ?_ ?_
  ·rfl
  ·kernel_rfl
  intro a vs W hX hR he hf K hK
  refine wn rfl ?_
  have e5 : a.eval (.tmp 5) = .pointer (some ⟨ga, 0, none⟩) := hf 5 (by kernel_rfl)
  have hbW := bthen (below_drew _) (grow_below hX)
  exact wp_value (exec_load 23 _ rfl ga e5 23 (bv ad) _ (HAX.out.on hbW) Try.underlying23 rfl (size16 _ HAL.out)) (gK hK rfl)
 ·refine stepM_anc ?_ ?_ ?_
  ·rfl
  ·kernel_rfl
  intro a vs W hX hR he hf K hK
  refine wn rfl ?_
  have e10 : a.eval (.tmp 10) = ptV (o six) := eH he hR 2 (by kernel_rfl) rfl
  have e11 : a.eval (.tmp 11) = .agg (bv ad).toArray := eH he hR 3 (by kernel_rfl) rfl
  have hbW := bthen (below_drew _) (grow_below hX)
  have hcl := tlook_O ((HT.out six).on (bthen HB1.out hbW)) ad HAL.out
  rw [HY.out] at hcl
  refine wp_enter (f := 34) (args := #[ptV (o six), .agg (bv ad).toArray]) (by simp only [execOp, e10, e11]; go_simp; exact ⟨by simpa [Act.eval] using e10, by simpa [Act.eval] using e11⟩) ((hcl).mono ?_)
  rintro e w' ⟨rfl, hb⟩
  exact ⟨_, rfl, hK _ _ rfl (below_grow hb _)⟩
 ·refine stepM_anc ?_ ?_ ?_
  ·rfl
  ·kernel_rfl
  intro a vs W hX hR he hf K hK
  refine wn rfl ?_
  have e12 : a.eval (.tmp 12) = .tuple #[.agg (itC y).toArray, .bool b] := eH he hR 4 (by kernel_rfl) rfl
  refine wV hK rfl ?_
  simp only [execOp, e12]
  try go_simp
 ·refine stepM_anc ?_ ?_ ?_
  ·rfl
  ·kernel_rfl
  intro a vs W hX hR he hf K hK
  refine wn rfl ?_
  have e12 : a.eval (.tmp 12) = .tuple #[.agg (itC y).toArray, .bool b] := eH he hR 4 (by kernel_rfl) rfl
  refine wV hK rfl ?_
  simp only [execOp, e12]
  try go_simp
 ·refine stepM_heavy ?_ ?_
  ·rfl
  intro a vs W hX hR he hf K hK
  refine wn rfl ?_
  have e6 : a.eval (.tmp 6) = .pointer (some ⟨gr, 0, none⟩) := hf 6 (by kernel_rfl)
  have e13 : a.eval (.tmp 13) = .agg (itC y).toArray := eH he hR 5 (by kernel_rfl) rfl
  have hbW := bthen (below_drew _) (grow_below hX)
  refine wp_store_all 35 _ _ rfl gr (itC y) e6 e13 35 _ (HRX.out.on hbW) (sizeIt _ HYF.out.addr) (by rw [itC_length y HYF.out.addr]; rfl) (oneIt _) ?_
  intro w' hb' hg' hs'
  exact hK _ _ ⟨hb', bgrown (bthen HB1.out hbW) hg' (Nat.le_trans HB1.out.size hbW.size) HGR.out⟩
 intro vs wv hPv hR
 have q0 := hR 0 (by decide) rfl
 change vs 0 = ptV f at q0
 have q1 := hR 1 (by decide) rfl
 change vs 1 = .bool six at q1
 have q2 := hR 2 (by decide) rfl
 change vs 2 = ptV (o six) at q2
 have q3 := hR 3 (by decide) rfl
 change vs 3 = .agg (bv ad).toArray at q3
 have q4 := hR 4 (by decide) rfl
 change vs 4 = .tuple #[.agg (itC y).toArray, .bool b] at q4
 have q5 := hR 5 (by decide) rfl
 change vs 5 = .agg (itC y).toArray at q5
 have q6 := hR 6 (by decide) rfl
 change vs 6 = .bool b at q6
 simp only [putAll, Act.put, List.setIfInBounds_toArray, List.set_cons_zero, List.set_cons_succ, List.take_succ_cons, List.take_zero, q0, q1, q2, q3, q4, q5, q6]
 clear q0 q1 q2 q3 q4 q5 q6
 clear hR
 generalize vs 7 = vh at hPv ⊢
 obtain ⟨hb', hW'⟩ := hPv
 refine wp_value (v := .bool b) (w' := wv) (by simp only [execOp]; go_simp) ?_
 try simp only [List.getElem_toArray, List.getElem_cons_succ, List.getElem_cons_zero, Act.put, List.setIfInBounds_toArray, List.set_cons_zero, List.set_cons_succ]
 have HB' := Hh hb'
 have HW' := Hh hW'
 clear hb' hW'
 go_wp2_with fail
 exact bodyPost_ret (results_cell2 rfl _ _ gr _ _ _ rfl HB'.out Try.underlying35 rfl (sizeIt _ HYF.out.addr)) rfl ⟨rfl, HW'.out⟩
end Go.Proofs.Ytdmgomknamdcfaa


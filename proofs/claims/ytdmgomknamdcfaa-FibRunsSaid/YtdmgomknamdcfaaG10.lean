/- Texts of this claim put together, in build order: each one's own remark stands ahead of it. -/
import Derived.Test.YtdmgomknamdcfaaG02
import Derived.Test.YtdmgomknamdcfaaG09
/- What the reference's Compare of prefixes (layer 8) computes. No condition but sizes. -/
namespace Go.Proofs.Ytdmgomknamdcfaa
open Go.RowKit
set_option linter.unusedVariables false
set_option maxRecDepth 20000
set_option linter.unusedSimpArgs false

theorem ltA_same (a : List UInt8) : ltA a a = false := by
 induction a with
 | nil => rfl
 | cons u a ih =>
  show (if u = u then ltA a a else decide (u.toNat < u.toNat)) = false
  rw [if_pos rfl, ih]
theorem ltA_at : ∀ (a b : List UInt8) (n : Nat) (u v : UInt8), (∀ j, j < n → a[j]? = b[j]?) → a[n]? = some u → b[n]? = some v → u ≠ v → ltA a b = decide (u.toNat < v.toNat)
 | [], _, _, _, _, _, h, _, _ => by simp at h
 | _ :: _, [], _, _, _, _, _, h, _ => by simp at h
 | x :: a, y :: b, 0, u, v, _, h1, h2, hne => by
  simp at h1 h2
  subst h1 h2
  show (if x = y then ltA a b else decide (x.toNat < y.toNat)) = _
  rw [if_neg hne]
 | x :: a, y :: b, n + 1, u, v, hj, h1, h2, hne => by
  have h0 := hj 0 (by omega)
  simp at h0
  show (if x = y then ltA a b else decide (x.toNat < y.toNat)) = _
  rw [if_pos h0]
  exact ltA_at a b n u v (fun j hl => by simpa using hj (j + 1) (by omega)) (by simpa using h1) (by simpa using h2) hne
/-- which of two prefixes stands ahead -/
def cmpP (p q : Px) : Int :=
 if p.six ≠ q.six then (if q.six then -1 else 1) else if ltA p.addr q.addr then -1 else if ltA q.addr p.addr then 1 else if p.len < q.len then -1 else if q.len < p.len then 1 else 0
theorem ltA_not {a b : List UInt8} (h : a.length = b.length) : (ltA a b = true → ltA b a = false ∧ a ≠ b) := by
 intro h1
 rw [← ltA_bits a b h] at h1
 refine ⟨?_, fun e => by rw [e, ltB_irrefl] at h1; cases h1⟩
 rw [← ltA_bits b a h.symm]
 cases h2 : ltB (abits b) (abits a)
 ·rfl
 have := ltB_trans _ _ _ h1 h2
 rw [ltB_irrefl] at this
 cases this
/-- of one kind: the first one stands ahead -/
theorem cmpP_lt {p q : Px} (hs : p.six = q.six) (hp : p.addr.length = 16) (hq : q.addr.length = 16) : decide (cmpP p q < 0) = ltP p q := by
 unfold cmpP ltP
 rw [if_neg (by simp [hs])]
 cases h1 : ltA p.addr q.addr
 ·simp only [Bool.false_eq_true, if_false, Bool.false_or]
  cases h2 : ltA q.addr p.addr
  ·have he : p.addr = q.addr := by
    refine abits_inj _ _ (by rw [hp, hq]) ?_
    rcases ltB_tri (abits p.addr) (abits q.addr) with h | h | h
    ·rw [ltA_bits _ _ (by rw [hp, hq]), h1] at h; cases h
    ·exact h
    rw [ltA_bits _ _ (by rw [hp, hq]), h2] at h; cases h
   rw [decide_eq_true he, Bool.true_and]
   simp only [Bool.false_eq_true, if_false]
   by_cases h3 : p.len < q.len
   ·rw [if_pos h3, decide_eq_true h3]; rfl
   rw [if_neg h3, decide_eq_false h3]
   by_cases h4 : q.len < p.len
   ·rw [if_pos h4]; rfl
   rw [if_neg h4]; rfl
  have := ltA_not (by rw [hp, hq]) h2
  rw [if_pos rfl, decide_eq_false (fun e : p.addr = q.addr => this.2 e.symm)]
  rfl
 simp
theorem Px.get_addr (p : Px) (h : p.addr.length = 16) (n : Nat) (hn : n < 16) : p.cells[1 + n]? = (bv p.addr)[n]? := by
 unfold Px.cells
 rw [Nat.add_comm, List.getElem?_cons_succ, List.getElem?_append_left (by rw [bv_length, h]; exact hn)]
set_option maxHeartbeats 4000000 in
theorem rcompare_any (p : Px) (hp : p.fit) (q : Px) (hq : q.fit) (w : World) :
  Calls Try.prog 81 #[.agg p.cells.toArray, .agg q.cells.toArray] w fun e w' => e = .returned (.int .i64 (cmpP p q)) ∧ Below w.heap.size w w' := by
 have HP := Hh hp
 have HQ := Hh hq
 clear hp hq
 obtain ⟨b1, hb1'⟩ : ∃ b, p.six = b := ⟨_, rfl⟩
 obtain ⟨b2, hb2'⟩ : ∃ b, q.six = b := ⟨_, rfl⟩
 have HS1 := Hh hb1'
 have HS2 := Hh hb2'
 clear hb1' hb2'
 by_cases hs : b1 = b2
 ·subst hs
  have HC := Hh (show cmpP p q = if ltA p.addr q.addr then -1 else if ltA q.addr p.addr then 1 else if p.len < q.len then -1 else if q.len < p.len then 1 else 0 by unfold cmpP; rw [if_neg (by rw [HS1.out, HS2.out]; simp)])
  go_enter Try.func81, Try.ntmps81
  go_upto_region 1 with (first
   | (refine wpList_box_blk (by rfl) 30 (.tmp 0) rfl p.cells rfl ?_; intro w1 hb1 hB1 hs1; clear hs1)
   | (refine wpList_box_blk (by rfl) 30 (.tmp 1) rfl q.cells rfl ?_; intro w2 hb2 hB2 hs2; clear hs2))
  obtain ⟨g0, hg0⟩ : ∃ g, w.heap.size = g := ⟨_, rfl⟩
  obtain ⟨g1, hg1⟩ : ∃ g, w1.heap.size = g := ⟨_, rfl⟩
  have hk0 := hb1.on hB2
  rw [hg0] at hk0
  rw [hg1] at hb2
  try rw [hg0]
  try rw [hg1]
  have HK0 := Hh hk0
  have HK1 := Hh hb2
  have HW := Hh (bthen hB1 hB2)
  have c0 : w2.cell? ⟨g0, 0, none⟩ = some (.bool b1) := by rw [← HS1.out]; exact hk0.cell 0
  have c1 : w2.cell? ⟨g1, 0, none⟩ = some (.bool b1) := by rw [← HS2.out]; exact hb2.cell 0
  clear hb1 hB1 hb2 hB2 hk0 hg0 hg1
  go_wp2_with fail
  clear c0 c1
  go_loopw [5] (fun i wr => ∃ n : Nat, n ≤ 16 ∧ i = .int .i64 (n : Nat) ∧ (∀ j, j < n → p.addr[j]? = q.addr[j]?) ∧ Below w2.heap.size w2 wr) (fun i _ => 16 - (intOf i).toNat)
  case atStart => exact ⟨0, by omega, rfl, fun j h => by omega, Below.refl _ _⟩
  case round =>
   obtain ⟨n, hn, rfl, hj, hbe⟩ := hrel
   have HJ := Hh hj
   have hBE := Hh hbe
   replace HK0 := Hh (HK0.out.on hbe)
   replace HK1 := Hh (HK1.out.on hbe)
   replace HW := Hh (bthen HW.out hbe)
   clear hj hbe
   by_cases hlt : n < 16
   ·have hli : (n : Int) < 16 := by omega
    obtain ⟨u, hu⟩ := get_ex p.addr (k := n) (by rw [HP.out.addr]; exact hlt)
    obtain ⟨z, hv⟩ := get_ex q.addr (k := n) (by rw [HQ.out.addr]; exact hlt)
    have HU := Hh ((p.get_addr HP.out.addr n hlt).trans (bv_get _ _ u hu))
    have HV := Hh ((q.get_addr HQ.out.addr n hlt).trans (bv_get _ _ z hv))
    by_cases h1 : u.toNat < z.toNat
    ·have HUV := Hh h1
     have hne : u ≠ z := fun e => by rw [e] at h1; omega
     have HC2 := Hh (show cmpP p q = -1 by rw [HC.out, ltA_at _ _ n u z HJ.out hu hv hne, decide_eq_true h1]; rfl)
     clear hu hv h1 hne
     go_wp2_with fail
     refine wp_region_rel (fun A B => A.grownBy B none) (fun A => grown_refl A _) (fun A B C h k => grown_trans h k) (relAt (eqs [.int .i64 (n : Int), .pointer (some ⟨g0, 1, none⟩), .pointer (some ⟨g0, 1 + n, none⟩), .int .u8 (u.toNat : Int), .int .i64 (n : Int), .pointer (some ⟨g1, 1, none⟩), .pointer (some ⟨g1, 1 + n, none⟩), .int .u8 (z.toNat : Int), .bool true])) (MonoL.at_ (eqs_mono _)) (by kernel_rfl) (by kernel_rfl) ⟨?_, ?_, ?_, ?_, ?_, ?_, ?_, ?_, ?_, trivial⟩ ?_
     ·intro a vs W hX hR he hf K hK
      refine wn rfl ?_
      have e5 : a.eval (.tmp 5) = .int .i64 (n : Int) := hf 5 (by kernel_rfl)
      refine wV hK rfl ?_
      simp only [execOp, e5]
      try go_simp
     ·intro a vs W hX hR he hf K hK
      refine wn rfl ?_
      have e2 : a.eval (.tmp 2) = .pointer (some ⟨g0, 0, none⟩) := hf 2 (by kernel_rfl)
      refine wV hK rfl ?_
      simp only [execOp, e2]
      try go_simp
     ·intro a vs W hX hR he hf K hK
      refine wn rfl ?_
      have e18 : a.eval (.tmp 18) = .pointer (some ⟨g0, 1, none⟩) := eH he hR 1 (by kernel_rfl) rfl
      have e17 : a.eval (.tmp 17) = .int .i64 (n : Int) := eH he hR 0 (by kernel_rfl) rfl
      refine wV hK rfl ?_
      simp only [execOp, e18, e17]
      go_simp
     ·intro a vs W hX hR he hf K hK
      refine wn rfl ?_
      have e19 : a.eval (.tmp 19) = .pointer (some ⟨g0, 1 + n, none⟩) := eH he hR 2 (by kernel_rfl) rfl
      have hbW := bthen (below_drew _) (grow_below hX)
      have hc := ((HK0.out.on hbW).cell (1 + n)).trans HU.out
      refine wV hK rfl ?_
      simp only [execOp, e19]
      go_simp
     ·intro a vs W hX hR he hf K hK
      refine wn rfl ?_
      have e5 : a.eval (.tmp 5) = .int .i64 (n : Int) := hf 5 (by kernel_rfl)
      refine wV hK rfl ?_
      simp only [execOp, e5]
      try go_simp
     ·intro a vs W hX hR he hf K hK
      refine wn rfl ?_
      have e3 : a.eval (.tmp 3) = .pointer (some ⟨g1, 0, none⟩) := hf 3 (by kernel_rfl)
      refine wV hK rfl ?_
      simp only [execOp, e3]
      try go_simp
     ·intro a vs W hX hR he hf K hK
      refine wn rfl ?_
      have e22 : a.eval (.tmp 22) = .pointer (some ⟨g1, 1, none⟩) := eH he hR 5 (by kernel_rfl) rfl
      have e21 : a.eval (.tmp 21) = .int .i64 (n : Int) := eH he hR 4 (by kernel_rfl) rfl
      refine wV hK rfl ?_
      simp only [execOp, e22, e21]
      go_simp
     ·intro a vs W hX hR he hf K hK
      refine wn rfl ?_
      have e23 : a.eval (.tmp 23) = .pointer (some ⟨g1, 1 + n, none⟩) := eH he hR 6 (by kernel_rfl) rfl
      have hbW := bthen (below_drew _) (grow_below hX)
      have hc := ((HK1.out.on hbW).cell (1 + n)).trans HV.out
      refine wV hK rfl ?_
      simp only [execOp, e23]
      go_simp
     ·intro a vs W hX hR he hf K hK
      refine wn rfl ?_
      have e20 : a.eval (.tmp 20) = .int .u8 (u.toNat : Int) := eH he hR 3 (by kernel_rfl) rfl
      have e24 : a.eval (.tmp 24) = .int .u8 (z.toNat : Int) := eH he hR 7 (by kernel_rfl) rfl
      refine wV hK rfl ?_
      simp only [execOp, e20, e24]
      have h9 := HUV.out
      go_simp
     intro vs wx hXx hR
     rw [put_eqs hR rfl]
     simp only [putL, Act.put, List.setIfInBounds_toArray, List.set_cons_zero, List.set_cons_succ]
     clear hR
     replace hBE := Hh (hBE.out.trans ((bthen (below_drew _) (grow_below hXx)).mono hBE.out.size))
     replace HK0 := Hh (HK0.out.on (bthen (below_drew _) (grow_below hXx)))
     replace HK1 := Hh (HK1.out.on (bthen (below_drew _) (grow_below hXx)))
     replace HW := Hh (bthen HW.out (bthen (below_drew _) (grow_below hXx)))
     clear hXx
     go_wp2_with fail
     go_ret
     exact ⟨by rw [HC2.out]; rfl, HW.out⟩
    by_cases h2 : z.toNat < u.toNat
    ·have HUV := Hh (show ¬ u.toNat < z.toNat ∧ z.toNat < u.toNat from ⟨h1, h2⟩)
     have hne : u ≠ z := fun e => by rw [e] at h2; omega
     have HC2 := Hh (show cmpP p q = 1 by rw [HC.out, ltA_at _ _ n u z HJ.out hu hv hne, decide_eq_false h1, ltA_at _ _ n z u (fun j h => (HJ.out j h).symm) hv hu (fun e => hne e.symm), decide_eq_true h2]; rfl)
     clear hu hv h1 h2 hne
     go_wp2_with fail
     refine wp_region_rel (fun A B => A.grownBy B none) (fun A => grown_refl A _) (fun A B C h k => grown_trans h k) (relAt (eqs [.int .i64 (n : Int), .pointer (some ⟨g0, 1, none⟩), .pointer (some ⟨g0, 1 + n, none⟩), .int .u8 (u.toNat : Int), .int .i64 (n : Int), .pointer (some ⟨g1, 1, none⟩), .pointer (some ⟨g1, 1 + n, none⟩), .int .u8 (z.toNat : Int), .bool false])) (MonoL.at_ (eqs_mono _)) (by kernel_rfl) (by kernel_rfl) ⟨?_, ?_, ?_, ?_, ?_, ?_, ?_, ?_, ?_, trivial⟩ ?_
     ·intro a vs W hX hR he hf K hK
      refine wn rfl ?_
      have e5 : a.eval (.tmp 5) = .int .i64 (n : Int) := hf 5 (by kernel_rfl)
      refine wV hK rfl ?_
      simp only [execOp, e5]
      try go_simp
     ·intro a vs W hX hR he hf K hK
      refine wn rfl ?_
      have e2 : a.eval (.tmp 2) = .pointer (some ⟨g0, 0, none⟩) := hf 2 (by kernel_rfl)
      refine wV hK rfl ?_
      simp only [execOp, e2]
      try go_simp
     ·intro a vs W hX hR he hf K hK
      refine wn rfl ?_
      have e18 : a.eval (.tmp 18) = .pointer (some ⟨g0, 1, none⟩) := eH he hR 1 (by kernel_rfl) rfl
      have e17 : a.eval (.tmp 17) = .int .i64 (n : Int) := eH he hR 0 (by kernel_rfl) rfl
      refine wV hK rfl ?_
      simp only [execOp, e18, e17]
      go_simp
     ·intro a vs W hX hR he hf K hK
      refine wn rfl ?_
      have e19 : a.eval (.tmp 19) = .pointer (some ⟨g0, 1 + n, none⟩) := eH he hR 2 (by kernel_rfl) rfl
      have hbW := bthen (below_drew _) (grow_below hX)
      have hc := ((HK0.out.on hbW).cell (1 + n)).trans HU.out
      refine wV hK rfl ?_
      simp only [execOp, e19]
      go_simp
     ·intro a vs W hX hR he hf K hK
      refine wn rfl ?_
      have e5 : a.eval (.tmp 5) = .int .i64 (n : Int) := hf 5 (by kernel_rfl)
      refine wV hK rfl ?_
      simp only [execOp, e5]
      try go_simp
     ·intro a vs W hX hR he hf K hK
      refine wn rfl ?_
      have e3 : a.eval (.tmp 3) = .pointer (some ⟨g1, 0, none⟩) := hf 3 (by kernel_rfl)
      refine wV hK rfl ?_
      simp only [execOp, e3]
      try go_simp
     ·intro a vs W hX hR he hf K hK
      refine wn rfl ?_
      have e22 : a.eval (.tmp 22) = .pointer (some ⟨g1, 1, none⟩) := eH he hR 5 (by kernel_rfl) rfl
      have e21 : a.eval (.tmp 21) = .int .i64 (n : Int) := eH he hR 4 (by kernel_rfl) rfl
      refine wV hK rfl ?_
      simp only [execOp, e22, e21]
      go_simp
     ·intro a vs W hX hR he hf K hK
      refine wn rfl ?_
      have e23 : a.eval (.tmp 23) = .pointer (some ⟨g1, 1 + n, none⟩) := eH he hR 6 (by kernel_rfl) rfl
      have hbW := bthen (below_drew _) (grow_below hX)
      have hc := ((HK1.out.on hbW).cell (1 + n)).trans HV.out
      refine wV hK rfl ?_
      simp only [execOp, e23]
      go_simp
     ·intro a vs W hX hR he hf K hK
      refine wn rfl ?_
      have e20 : a.eval (.tmp 20) = .int .u8 (u.toNat : Int) := eH he hR 3 (by kernel_rfl) rfl
      have e24 : a.eval (.tmp 24) = .int .u8 (z.toNat : Int) := eH he hR 7 (by kernel_rfl) rfl
      refine wV hK rfl ?_
      simp only [execOp, e20, e24]
      have h9 := HUV.out
      go_simp
     intro vs wx hXx hR
     rw [put_eqs hR rfl]
     simp only [putL, Act.put, List.setIfInBounds_toArray, List.set_cons_zero, List.set_cons_succ]
     clear hR
     replace hBE := Hh (hBE.out.trans ((bthen (below_drew _) (grow_below hXx)).mono hBE.out.size))
     replace HK0 := Hh (HK0.out.on (bthen (below_drew _) (grow_below hXx)))
     replace HK1 := Hh (HK1.out.on (bthen (below_drew _) (grow_below hXx)))
     replace HW := Hh (bthen HW.out (bthen (below_drew _) (grow_below hXx)))
     clear hXx
     go_wp2_with fail
     refine wp_region_rel (fun A B => A.grownBy B none) (fun A => grown_refl A _) (fun A B C h k => grown_trans h k) (relAt (eqs [.int .i64 (n : Int), .pointer (some ⟨g0, 1, none⟩), .pointer (some ⟨g0, 1 + n, none⟩), .int .u8 (u.toNat : Int), .int .i64 (n : Int), .pointer (some ⟨g1, 1, none⟩), .pointer (some ⟨g1, 1 + n, none⟩), .int .u8 (z.toNat : Int), .bool true])) (MonoL.at_ (eqs_mono _)) (by kernel_rfl) (by kernel_rfl) ⟨?_, ?_, ?_, ?_, ?_, ?_, ?_, ?_, ?_, trivial⟩ ?_
     ·intro a vs W hX hR he hf K hK
      refine wn rfl ?_
      have e5 : a.eval (.tmp 5) = .int .i64 (n : Int) := hf 5 (by kernel_rfl)
      refine wV hK rfl ?_
      simp only [execOp, e5]
      try go_simp
     ·intro a vs W hX hR he hf K hK
      refine wn rfl ?_
      have e2 : a.eval (.tmp 2) = .pointer (some ⟨g0, 0, none⟩) := hf 2 (by kernel_rfl)
      refine wV hK rfl ?_
      simp only [execOp, e2]
      try go_simp
     ·intro a vs W hX hR he hf K hK
      refine wn rfl ?_
      have e27 : a.eval (.tmp 27) = .pointer (some ⟨g0, 1, none⟩) := eH he hR 1 (by kernel_rfl) rfl
      have e26 : a.eval (.tmp 26) = .int .i64 (n : Int) := eH he hR 0 (by kernel_rfl) rfl
      refine wV hK rfl ?_
      simp only [execOp, e27, e26]
      go_simp
     ·intro a vs W hX hR he hf K hK
      refine wn rfl ?_
      have e28 : a.eval (.tmp 28) = .pointer (some ⟨g0, 1 + n, none⟩) := eH he hR 2 (by kernel_rfl) rfl
      have hbW := bthen (below_drew _) (grow_below hX)
      have hc := ((HK0.out.on hbW).cell (1 + n)).trans HU.out
      refine wV hK rfl ?_
      simp only [execOp, e28]
      go_simp
     ·intro a vs W hX hR he hf K hK
      refine wn rfl ?_
      have e5 : a.eval (.tmp 5) = .int .i64 (n : Int) := hf 5 (by kernel_rfl)
      refine wV hK rfl ?_
      simp only [execOp, e5]
      try go_simp
     ·intro a vs W hX hR he hf K hK
      refine wn rfl ?_
      have e3 : a.eval (.tmp 3) = .pointer (some ⟨g1, 0, none⟩) := hf 3 (by kernel_rfl)
      refine wV hK rfl ?_
      simp only [execOp, e3]
      try go_simp
     ·intro a vs W hX hR he hf K hK
      refine wn rfl ?_
      have e31 : a.eval (.tmp 31) = .pointer (some ⟨g1, 1, none⟩) := eH he hR 5 (by kernel_rfl) rfl
      have e30 : a.eval (.tmp 30) = .int .i64 (n : Int) := eH he hR 4 (by kernel_rfl) rfl
      refine wV hK rfl ?_
      simp only [execOp, e31, e30]
      go_simp
     ·intro a vs W hX hR he hf K hK
      refine wn rfl ?_
      have e32 : a.eval (.tmp 32) = .pointer (some ⟨g1, 1 + n, none⟩) := eH he hR 6 (by kernel_rfl) rfl
      have hbW := bthen (below_drew _) (grow_below hX)
      have hc := ((HK1.out.on hbW).cell (1 + n)).trans HV.out
      refine wV hK rfl ?_
      simp only [execOp, e32]
      go_simp
     ·intro a vs W hX hR he hf K hK
      refine wn rfl ?_
      have e29 : a.eval (.tmp 29) = .int .u8 (u.toNat : Int) := eH he hR 3 (by kernel_rfl) rfl
      have e33 : a.eval (.tmp 33) = .int .u8 (z.toNat : Int) := eH he hR 7 (by kernel_rfl) rfl
      refine wV hK rfl ?_
      simp only [execOp, e29, e33]
      have h9 := HUV.out
      go_simp
     intro vs wy hXx hR
     rw [put_eqs hR rfl]
     simp only [putL, Act.put, List.setIfInBounds_toArray, List.set_cons_zero, List.set_cons_succ]
     clear hR
     replace hBE := Hh (hBE.out.trans ((bthen (below_drew _) (grow_below hXx)).mono hBE.out.size))
     replace HK0 := Hh (HK0.out.on (bthen (below_drew _) (grow_below hXx)))
     replace HK1 := Hh (HK1.out.on (bthen (below_drew _) (grow_below hXx)))
     replace HW := Hh (bthen HW.out (bthen (below_drew _) (grow_below hXx)))
     clear hXx
     go_wp2_with fail
     go_ret
     exact ⟨by rw [HC2.out]; rfl, HW.out⟩
    have HUV := Hh (show ¬ u.toNat < z.toNat ∧ ¬ z.toNat < u.toNat from ⟨h1, h2⟩)
    have HEQ := Hh (show p.addr[n]? = q.addr[n]? by rw [hu, hv, show u = z from UInt8.toNat_inj.1 (by omega)])
    clear hu hv h1 h2
    go_wp2_with fail
    refine wp_region_rel (fun A B => A.grownBy B none) (fun A => grown_refl A _) (fun A B C h k => grown_trans h k) (relAt (eqs [.int .i64 (n : Int), .pointer (some ⟨g0, 1, none⟩), .pointer (some ⟨g0, 1 + n, none⟩), .int .u8 (u.toNat : Int), .int .i64 (n : Int), .pointer (some ⟨g1, 1, none⟩), .pointer (some ⟨g1, 1 + n, none⟩), .int .u8 (z.toNat : Int), .bool false])) (MonoL.at_ (eqs_mono _)) (by kernel_rfl) (by kernel_rfl) ⟨?_, ?_, ?_, ?_, ?_, ?_, ?_, ?_, ?_, trivial⟩ ?_
    ·intro a vs W hX hR he hf K hK
     refine wn rfl ?_
     have e5 : a.eval (.tmp 5) = .int .i64 (n : Int) := hf 5 (by kernel_rfl)
     refine wV hK rfl ?_
     simp only [execOp, e5]
     try go_simp
    ·intro a vs W hX hR he hf K hK
     refine wn rfl ?_
     have e2 : a.eval (.tmp 2) = .pointer (some ⟨g0, 0, none⟩) := hf 2 (by kernel_rfl)
     refine wV hK rfl ?_
     simp only [execOp, e2]
     try go_simp
    ·intro a vs W hX hR he hf K hK
     refine wn rfl ?_
     have e18 : a.eval (.tmp 18) = .pointer (some ⟨g0, 1, none⟩) := eH he hR 1 (by kernel_rfl) rfl
     have e17 : a.eval (.tmp 17) = .int .i64 (n : Int) := eH he hR 0 (by kernel_rfl) rfl
     refine wV hK rfl ?_
     simp only [execOp, e18, e17]
     go_simp
    ·intro a vs W hX hR he hf K hK
     refine wn rfl ?_
     have e19 : a.eval (.tmp 19) = .pointer (some ⟨g0, 1 + n, none⟩) := eH he hR 2 (by kernel_rfl) rfl
     have hbW := bthen (below_drew _) (grow_below hX)
     have hc := ((HK0.out.on hbW).cell (1 + n)).trans HU.out
     refine wV hK rfl ?_
     simp only [execOp, e19]
     go_simp
    ·intro a vs W hX hR he hf K hK
     refine wn rfl ?_
     have e5 : a.eval (.tmp 5) = .int .i64 (n : Int) := hf 5 (by kernel_rfl)
     refine wV hK rfl ?_
     simp only [execOp, e5]
     try go_simp
    ·intro a vs W hX hR he hf K hK
     refine wn rfl ?_
     have e3 : a.eval (.tmp 3) = .pointer (some ⟨g1, 0, none⟩) := hf 3 (by kernel_rfl)
     refine wV hK rfl ?_
     simp only [execOp, e3]
     try go_simp
    ·intro a vs W hX hR he hf K hK
     refine wn rfl ?_
     have e22 : a.eval (.tmp 22) = .pointer (some ⟨g1, 1, none⟩) := eH he hR 5 (by kernel_rfl) rfl
     have e21 : a.eval (.tmp 21) = .int .i64 (n : Int) := eH he hR 4 (by kernel_rfl) rfl
     refine wV hK rfl ?_
     simp only [execOp, e22, e21]
     go_simp
    ·intro a vs W hX hR he hf K hK
     refine wn rfl ?_
     have e23 : a.eval (.tmp 23) = .pointer (some ⟨g1, 1 + n, none⟩) := eH he hR 6 (by kernel_rfl) rfl
     have hbW := bthen (below_drew _) (grow_below hX)
     have hc := ((HK1.out.on hbW).cell (1 + n)).trans HV.out
     refine wV hK rfl ?_
     simp only [execOp, e23]
     go_simp
    ·intro a vs W hX hR he hf K hK
     refine wn rfl ?_
     have e20 : a.eval (.tmp 20) = .int .u8 (u.toNat : Int) := eH he hR 3 (by kernel_rfl) rfl
     have e24 : a.eval (.tmp 24) = .int .u8 (z.toNat : Int) := eH he hR 7 (by kernel_rfl) rfl
     refine wV hK rfl ?_
     simp only [execOp, e20, e24]
     have h9 := HUV.out
     go_simp
    intro vs wx hXx hR
    rw [put_eqs hR rfl]
    simp only [putL, Act.put, List.setIfInBounds_toArray, List.set_cons_zero, List.set_cons_succ]
    clear hR
    replace hBE := Hh (hBE.out.trans ((bthen (below_drew _) (grow_below hXx)).mono hBE.out.size))
    replace HK0 := Hh (HK0.out.on (bthen (below_drew _) (grow_below hXx)))
    replace HK1 := Hh (HK1.out.on (bthen (below_drew _) (grow_below hXx)))
    replace HW := Hh (bthen HW.out (bthen (below_drew _) (grow_below hXx)))
    clear hXx
    go_wp2_with fail
    refine wp_region_rel (fun A B => A.grownBy B none) (fun A => grown_refl A _) (fun A B C h k => grown_trans h k) (relAt (eqs [.int .i64 (n : Int), .pointer (some ⟨g0, 1, none⟩), .pointer (some ⟨g0, 1 + n, none⟩), .int .u8 (u.toNat : Int), .int .i64 (n : Int), .pointer (some ⟨g1, 1, none⟩), .pointer (some ⟨g1, 1 + n, none⟩), .int .u8 (z.toNat : Int), .bool false])) (MonoL.at_ (eqs_mono _)) (by kernel_rfl) (by kernel_rfl) ⟨?_, ?_, ?_, ?_, ?_, ?_, ?_, ?_, ?_, trivial⟩ ?_
    ·intro a vs W hX hR he hf K hK
     refine wn rfl ?_
     have e5 : a.eval (.tmp 5) = .int .i64 (n : Int) := hf 5 (by kernel_rfl)
     refine wV hK rfl ?_
     simp only [execOp, e5]
     try go_simp
    ·intro a vs W hX hR he hf K hK
     refine wn rfl ?_
     have e2 : a.eval (.tmp 2) = .pointer (some ⟨g0, 0, none⟩) := hf 2 (by kernel_rfl)
     refine wV hK rfl ?_
     simp only [execOp, e2]
     try go_simp
    ·intro a vs W hX hR he hf K hK
     refine wn rfl ?_
     have e27 : a.eval (.tmp 27) = .pointer (some ⟨g0, 1, none⟩) := eH he hR 1 (by kernel_rfl) rfl
     have e26 : a.eval (.tmp 26) = .int .i64 (n : Int) := eH he hR 0 (by kernel_rfl) rfl
     refine wV hK rfl ?_
     simp only [execOp, e27, e26]
     go_simp
    ·intro a vs W hX hR he hf K hK
     refine wn rfl ?_
     have e28 : a.eval (.tmp 28) = .pointer (some ⟨g0, 1 + n, none⟩) := eH he hR 2 (by kernel_rfl) rfl
     have hbW := bthen (below_drew _) (grow_below hX)
     have hc := ((HK0.out.on hbW).cell (1 + n)).trans HU.out
     refine wV hK rfl ?_
     simp only [execOp, e28]
     go_simp
    ·intro a vs W hX hR he hf K hK
     refine wn rfl ?_
     have e5 : a.eval (.tmp 5) = .int .i64 (n : Int) := hf 5 (by kernel_rfl)
     refine wV hK rfl ?_
     simp only [execOp, e5]
     try go_simp
    ·intro a vs W hX hR he hf K hK
     refine wn rfl ?_
     have e3 : a.eval (.tmp 3) = .pointer (some ⟨g1, 0, none⟩) := hf 3 (by kernel_rfl)
     refine wV hK rfl ?_
     simp only [execOp, e3]
     try go_simp
    ·intro a vs W hX hR he hf K hK
     refine wn rfl ?_
     have e31 : a.eval (.tmp 31) = .pointer (some ⟨g1, 1, none⟩) := eH he hR 5 (by kernel_rfl) rfl
     have e30 : a.eval (.tmp 30) = .int .i64 (n : Int) := eH he hR 4 (by kernel_rfl) rfl
     refine wV hK rfl ?_
     simp only [execOp, e31, e30]
     go_simp
    ·intro a vs W hX hR he hf K hK
     refine wn rfl ?_
     have e32 : a.eval (.tmp 32) = .pointer (some ⟨g1, 1 + n, none⟩) := eH he hR 6 (by kernel_rfl) rfl
     have hbW := bthen (below_drew _) (grow_below hX)
     have hc := ((HK1.out.on hbW).cell (1 + n)).trans HV.out
     refine wV hK rfl ?_
     simp only [execOp, e32]
     go_simp
    ·intro a vs W hX hR he hf K hK
     refine wn rfl ?_
     have e29 : a.eval (.tmp 29) = .int .u8 (u.toNat : Int) := eH he hR 3 (by kernel_rfl) rfl
     have e33 : a.eval (.tmp 33) = .int .u8 (z.toNat : Int) := eH he hR 7 (by kernel_rfl) rfl
     refine wV hK rfl ?_
     simp only [execOp, e29, e33]
     have h9 := HUV.out
     go_simp
    intro vs wy hXx hR
    rw [put_eqs hR rfl]
    simp only [putL, Act.put, List.setIfInBounds_toArray, List.set_cons_zero, List.set_cons_succ]
    clear hR
    replace hBE := Hh (hBE.out.trans ((bthen (below_drew _) (grow_below hXx)).mono hBE.out.size))
    replace HK0 := Hh (HK0.out.on (bthen (below_drew _) (grow_below hXx)))
    replace HK1 := Hh (HK1.out.on (bthen (below_drew _) (grow_below hXx)))
    replace HW := Hh (bthen HW.out (bthen (below_drew _) (grow_below hXx)))
    clear hXx
    go_wp2_with fail
    go_roundw
    case rel => exact ⟨n + 1, by omega, by simp, fun j h => by
     rcases Nat.lt_or_ge j n with h2 | h2
     ·exact HJ.out j h2
     obtain rfl : j = n := by omega
     exact HEQ.out, hBE.out⟩
    case measure => simp [intOf]; omega
   have hli : ¬ (n : Int) < 16 := by omega
   have hadr : p.addr = q.addr := List.ext_getElem? fun j => by
    by_cases h : j < 16
    ·exact HJ.out j (by omega)
    rw [List.getElem?_eq_none (by rw [HP.out.addr]; omega), List.getElem?_eq_none (by rw [HQ.out.addr]; omega)]
   have HCC := Hh (show cmpP p q = if p.len < q.len then -1 else if q.len < p.len then 1 else 0 by rw [HC.out, hadr, ltA_same]; rfl)
   have c2 : wr.cell? ⟨g0, 17, none⟩ = some (.int .i64 p.len) := (HK0.out.cell 17).trans (p.get_len HP.out.addr)
   have c3 : wr.cell? ⟨g1, 17, none⟩ = some (.int .i64 q.len) := (HK1.out.cell 17).trans (q.get_len HQ.out.addr)
   clear hadr
   by_cases h1 : p.len < q.len
   ·have HC2 := Hh (HCC.out.trans (if_pos h1))
    go_wp2_with fail
    go_ret
    exact ⟨by rw [HC2.out]; rfl, HW.out⟩
   by_cases h2 : q.len < p.len
   ·have HC2 := Hh ((HCC.out.trans (if_neg h1)).trans (if_pos h2))
    go_wp2_with fail
    go_ret
    exact ⟨by rw [HC2.out]; rfl, HW.out⟩
   have HC2 := Hh ((HCC.out.trans (if_neg h1)).trans (if_neg h2))
   go_wp2_with fail
   go_ret
   exact ⟨by rw [HC2.out]; rfl, HW.out⟩
 have HC := Hh (show cmpP p q = if b2 then -1 else 1 by unfold cmpP; rw [if_pos (by rw [HS1.out, HS2.out]; exact hs), HS2.out])
 cases b1 <;> cases b2
 ·exact absurd rfl hs
 ·clear hs
  go_enter Try.func81, Try.ntmps81
  go_upto_region 1 with (first
   | (refine wpList_box_blk (by rfl) 30 (.tmp 0) rfl p.cells rfl ?_; intro w1 hb1 hB1 hs1; clear hs1)
   | (refine wpList_box_blk (by rfl) 30 (.tmp 1) rfl q.cells rfl ?_; intro w2 hb2 hB2 hs2; clear hs2))
  obtain ⟨g0, hg0⟩ : ∃ g, w.heap.size = g := ⟨_, rfl⟩
  obtain ⟨g1, hg1⟩ : ∃ g, w1.heap.size = g := ⟨_, rfl⟩
  have hk0 := hb1.on hB2
  rw [hg0] at hk0
  rw [hg1] at hb2
  try rw [hg0]
  try rw [hg1]
  have HK0 := Hh hk0
  have HK1 := Hh hb2
  have HW := Hh (bthen hB1 hB2)
  have c0 : w2.cell? ⟨g0, 0, none⟩ = some (.bool false) := by rw [← HS1.out]; exact hk0.cell 0
  have c1 : w2.cell? ⟨g1, 0, none⟩ = some (.bool true) := by rw [← HS2.out]; exact hb2.cell 0
  clear hb1 hB1 hb2 hB2 hk0 hg0 hg1
  go_wp2_with fail
  go_ret
  exact ⟨by rw [HC.out]; rfl, HW.out⟩
 ·clear hs
  go_enter Try.func81, Try.ntmps81
  go_upto_region 1 with (first
   | (refine wpList_box_blk (by rfl) 30 (.tmp 0) rfl p.cells rfl ?_; intro w1 hb1 hB1 hs1; clear hs1)
   | (refine wpList_box_blk (by rfl) 30 (.tmp 1) rfl q.cells rfl ?_; intro w2 hb2 hB2 hs2; clear hs2))
  obtain ⟨g0, hg0⟩ : ∃ g, w.heap.size = g := ⟨_, rfl⟩
  obtain ⟨g1, hg1⟩ : ∃ g, w1.heap.size = g := ⟨_, rfl⟩
  have hk0 := hb1.on hB2
  rw [hg0] at hk0
  rw [hg1] at hb2
  try rw [hg0]
  try rw [hg1]
  have HK0 := Hh hk0
  have HK1 := Hh hb2
  have HW := Hh (bthen hB1 hB2)
  have c0 : w2.cell? ⟨g0, 0, none⟩ = some (.bool true) := by rw [← HS1.out]; exact hk0.cell 0
  have c1 : w2.cell? ⟨g1, 0, none⟩ = some (.bool false) := by rw [← HS2.out]; exact hb2.cell 0
  clear hb1 hB1 hb2 hB2 hk0 hg0 hg1
  go_wp2_with fail
  go_ret
  exact ⟨by rw [HC.out]; rfl, HW.out⟩
 exact absurd rfl hs
end Go.Proofs.Ytdmgomknamdcfaa

/- Rows of the reference's items, and its find (layer 9). No condition but sizes. -/
namespace Go.Proofs.Ytdmgomknamdcfaa
open Go.RowKit
set_option linter.unusedVariables false
set_option maxRecDepth 20000
set_option linter.unusedSimpArgs false

def itC (x : Itm) : List Value := x.1.cells ++ [.int .i64 x.2]
def its (L : List Itm) : List Value := L.flatMap itC
theorem itC_length (x : Itm) (h : x.1.addr.length = 16) : (itC x).length = 19 := by simp [itC, Px.cells_length x.1 h]
theorem its_length (L : List Itm) (h : ∀ x ∈ L, x.1.fit) : (its L).length = L.length * 19 := by
 induction L with
 | nil => rfl
 | cons x L ih =>
  show (itC x ++ its L).length = _
  rw [List.length_append, itC_length x (h x (by simp)).addr, ih (fun y hy => h y (by simp [hy])), List.length_cons]
  omega
theorem its_cell (L : List Itm) (h : ∀ x ∈ L, x.1.fit) (i : Nat) (x : Itm) (hi : L[i]? = some x) (j : Nat) (hj : j < 19) : (its L)[i * 19 + j]? = (itC x)[j]? := by
 induction L generalizing i with
 | nil => simp at hi
 | cons y L ih =>
  have hy := itC_length y (h y (by simp)).addr
  show (itC y ++ its L)[i * 19 + j]? = _
  cases i with
  | zero =>
   simp at hi
   subst hi
   rw [Nat.zero_mul, Nat.zero_add, List.getElem?_append_left (by omega)]
  | succ i =>
   rw [List.getElem?_append_right (by omega), hy, show (i + 1) * 19 + j - 19 = i * 19 + j by omega]
   exact ih (fun z hz => h z (by simp [hz])) i (by simpa using hi)
theorem its_row {w : World} {B n : Nat} {A : Option Addr} {L : List Itm} (h : Row w B 19 A n (its L)) (hL : ∀ x ∈ L, x.1.fit) : L.length = n := by
 have h1 := h.1
 rw [its_length L hL] at h1
 omega
/-- where an item lies -/
theorem its_at {w : World} {B n : Nat} {A : Option Addr} {L : List Itm} (h : Row w B 19 A n (its L)) (hL : ∀ x ∈ L, x.1.fit) (i : Nat) (x : Itm) (hi : L[i]? = some x) :
  ∃ b o, A = some ⟨b, o, none⟩ ∧ b < B ∧ w.rangeAt b (o + i * 19) x.1.cells ∧ w.cell? ⟨b, o + i * 19 + 18, none⟩ = some (.int .i64 x.2) := by
 have hn := its_row h hL
 have hx := hL x (List.mem_of_getElem? hi)
 have hlt := (List.getElem?_eq_some_iff.1 hi).1
 obtain ⟨b, o, rfl, hb, hc⟩ := h.2 (by omega)
 refine ⟨b, o, rfl, hb, fun j v hv => ?_, ?_⟩
 ·have hj : j < 18 := by
   have := (List.getElem?_eq_some_iff.1 hv).1
   rw [x.1.cells_length hx.addr] at this
   exact this
  rw [Nat.add_assoc]
  refine hc _ v ?_
  rw [its_cell L hL i x hi j (by omega)]
  unfold itC
  rw [List.getElem?_append_left (by rw [x.1.cells_length hx.addr]; exact hj)]
  exact hv
 rw [Nat.add_assoc]
 refine hc _ _ ?_
 rw [its_cell L hL i x hi 18 (by omega)]
 unfold itC
 rw [List.getElem?_append_right (by rw [x.1.cells_length hx.addr]; omega), x.1.cells_length hx.addr]
 rfl
/-- where any prefix stands, or would, by the order of all prefixes -/
def cntC : List Itm → Px → Nat
 | [], _ => 0
 | x :: L, p => if cmpP x.1 p < 0 then cntC L p + 1 else 0
def hasC (L : List Itm) (p : Px) : Bool :=
 match L[cntC L p]? with
 | some x => decide (x.1 = p)
 | none => false
theorem cntC_same {s : Bool} {L : List Itm} (h : Lok s L) {p : Px} (hp : p.addr.length = 16) (hs : p.six = s) : cntC L p = cntP L p := by
 induction L with
 | nil => rfl
 | cons x L ih =>
  have h1 : Lok s L := ⟨fun y hy => h.good y (by simp [hy]), fun y hy => h.six y (by simp [hy]), (List.pairwise_cons.1 (show List.Pairwise _ (keyB x :: L.map keyB) from h.sorted)).2⟩
  have h2 := cmpP_lt (p := x.1) (q := p) (by rw [h.six x (by simp), hs]) (h.good x (by simp)).addr hp
  unfold cntC cntP
  rw [ih h1]
  cases hc : ltP x.1 p
  ·rw [hc] at h2
   rw [if_neg (of_decide_eq_false h2)]
   rfl
  rw [hc] at h2
  rw [if_pos (of_decide_eq_true h2)]
  rfl
theorem cntC_go : ∀ (L : List Itm) (p : Px) (k : Nat), (∀ j x, j < k → L[j]? = some x → cmpP x.1 p < 0) → k ≤ L.length → (∀ x, L[k]? = some x → ¬ cmpP x.1 p < 0) → cntC L p = k
 | [], p, k, _, h, _ => by simp at h; subst h; rfl
 | x :: L, p, 0, _, _, h => by
  have := h x rfl
  unfold cntC
  rw [if_neg this]
 | x :: L, p, k + 1, h1, h2, h3 => by
  have h0 := h1 0 x (by omega) rfl
  unfold cntC
  rw [if_pos h0, cntC_go L p k (fun j y hj hy => h1 (j + 1) y (by omega) (by simpa using hy)) (by simpa using h2) (fun y hy => h3 y (by simpa using hy))]
end Go.Proofs.Ytdmgomknamdcfaa

/- Prefixes compared whole. No condition but sizes. -/
namespace Go.Proofs.Ytdmgomknamdcfaa
open Go.RowKit
set_option linter.unusedVariables false
set_option maxRecDepth 20000
set_option linter.unusedSimpArgs false

section
variable {P : Program} {w : World}
theorem eqF_and {f : Field} {fs : List Field} {xs ys : Array Value} {d : Nat} {x y : Value} {r s : Bool} (hn : f.name ≠ "_") (hx : (part f.type xs f.offset).run P w = .ok x w) (hy : (part f.type ys f.offset).run P w = .ok y w)
  (he : (Op.equalIn d f.type x y).run P w = .ok r w) (h : (Op.eqFields d xs ys fs).run P w = .ok s w) : (Op.eqFields d xs ys (f :: fs)).run P w = .ok (r && s) w := by
 rw [Op.eqFields, if_pos hn]
 simp only [Sem.run_bind, hx, hy, he, Result.andThen_ok]
 cases r
 ·rfl
 simpa using h
end
theorem Px.eq_parts (p q : Px) : ((p.six == q.six) && ((p.addr == q.addr) && ((p.len == q.len) && true))) = decide (p = q) := by
 rw [Bool.eq_iff_iff]
 simp only [Bool.and_eq_true, beq_iff_eq, decide_eq_true_eq, and_true]
 constructor
 ·rintro ⟨h1, h2, h3⟩
  cases p; cases q
  simp_all
 rintro rfl
 exact ⟨rfl, rfl, rfl⟩
theorem px_addr {w : World} (p : Px) (hp : p.addr.length = 16) : (part 23 p.cells.toArray 1).run Try.prog w = .ok (.agg (bv p.addr).toArray) w := by
 have h := part_arr (P := Try.prog) (w := w) (t := 23) (cs := p.cells) (off := 1) (n := 16) (by kernel_rfl) (by kernel_rfl)
 rw [p.drop_addr hp] at h
 exact h
theorem eqPx (p q : Px) (hp : p.addr.length = 16) (hq : q.addr.length = 16) (w : World) : (Op.equalIn 10000 30 (.agg p.cells.toArray) (.agg q.cells.toArray)).run Try.prog w = .ok (decide (p = q)) w := by
 rw [run_equalIn_struct w 9999 30 _ _ Try.underlying30 (show Try.prog.stoodInHeld 30 = false by kernel_rfl), ← Px.eq_parts]
 refine eqF_and (by decide) (part_one (by kernel_rfl) rfl) (part_one (by kernel_rfl) rfl) (run_equalIn_bool' w _ _ _ _ Try.underlying4) ?_
 refine eqF_and (by decide) (px_addr p hp) (px_addr q hq) (run_equalIn_bytes (P := Try.prog) w _ 23 5 16 Try.underlying23 Try.underlying5 (fun w => by kernel_rfl) p.addr q.addr hp hq) ?_
 refine eqF_and (by decide) (part_one (by kernel_rfl) (p.get_len hp)) (part_one (by kernel_rfl) (q.get_len hq)) (run_equalIn_int w _ _ _ _ _ _ Try.underlying3) ?_
 exact eqF_nil
theorem exec_eqPx {w : World} {o : Oper} {c : Act} (x y : Operand) (ty : TypeId) (ho : o.op = .binOp .eql 30 x y ty) (p q : Px) (hp : p.addr.length = 16) (hq : q.addr.length = 16) (r : Bool) (hr : decide (p = q) = r) (hx : c.eval x = .agg p.cells.toArray) (hy : c.eval y = .agg q.cells.toArray) : (execOp c.eval o).run Try.prog w = .ok (.value (.bool r)) w := by
 unfold execOp
 simp only [ho, hx, hy, Sem.run_bind, run_eqGuard_agg w .eql 30 x y _ _ (show Try.prog.eqGuardType Try.prog.depth 30 = false by kernel_rfl), run_eql_struct, eqPx p q hp hq w, hr, Result.andThen_ok]
 rfl
end Go.Proofs.Ytdmgomknamdcfaa


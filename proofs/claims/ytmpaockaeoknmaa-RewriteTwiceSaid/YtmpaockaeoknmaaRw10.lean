/- What the reference's Do computes. No condition but sizes. -/
import Derived.Test.YtmpaockaeoknmaaRw9
import Derived.Test.YtmpaockaeoknmaaRw3
namespace Go.Proofs.Ytmpaockaeoknmaa
open Go.RowKit Go.Maps
set_option linter.unusedVariables false
set_option maxRecDepth 20000
set_option linter.unusedSimpArgs false

section
variable {w : World} {o : Oper} {a : Act} {ops : Array Oper} {rest : List Oper} {Q : Exit → Act → World → Prop}
theorem wpList_store_i64 (hgd : Region.wanted o (yielded ops a.tmps) = true) (x y : Operand) (ho : o.op = .store 3 x y) (g j : Nat) (z : Int) (hx : a.eval x = .pointer (some ⟨g, j, none⟩)) (hy : a.eval y = .int .i64 z) (t : TypeId) (cs : List Value) (u : Value) (hb : Blk w g t cs) (hj : cs[j]? = some u)
    (h : ∀ w', Blk w' g t (cs.set j (.int .i64 z)) → w.grownBy w' (some g) → w'.heap.size = w.heap.size → wpList Try.prog ops Q rest (a.put o.dst undef) w') : wpList Try.prog ops Q (o :: rest) a w :=
  wpList_wanted hgd fun _ hK => wp_skip (w' := w.setCell ⟨g, j, none⟩ (.int .i64 z)) (by
    have hc := (hb.cell j).trans hj
    have hf := hb.frozen j
    unfold execOp
    simp only [ho, hx, hy]
    go_simp) (hK _ _ (h _ (hb.set j _) (grown_setCells g [.int .i64 z] j w w (grown_refl w _)) (by simp)))
end
theorem fin_over (x : Ent) (L : List Ent) (h : 16 < L.length) : finF x (outE L) = ([], (false, 0, 0), 51) := by
  have e : outE L = ([], 51) := by unfold outE; rw [if_neg (by omega)]
  rw [e]
  rfl
theorem fin_fit (x : Ent) (L : List Ent) (h : ¬ 16 < L.length) (h0 : L.length ≠ 0) : finF x (outE L) = (L, (false, 0, 0), 0) := by
  have e : outE L = (L, 0) := by unfold outE; rw [if_pos (by omega)]
  rw [e]
  unfold finF
  rw [if_neg (fun h => h0 h.2)]
theorem zeroLR (w : World) : (zeroValue 32).run Try.prog w = .ok (.agg (leftC (false, 0, 0)).toArray) w := by kernel_rfl
theorem sizeLR (z : Bool × Int × Int) : (Try.prog.info? 32).map (·.size) = some (leftC z).length := by show _ = some 3; kernel_rfl

set_option maxHeartbeats 8000000 in
theorem rdo_any (A : Option Addr) (n c : Nat) (l : List Ent) (m : Hp) (w : World) (h : Row w w.heap.size 4 A n (evs l)) (hc : n ≤ c) (hcm : c ≤ maxLen) (hn : n ≤ 1000000) (hf : ∀ x ∈ l, x.fitR) (hm : m.ok w) :
    Calls Try.prog 9 #[.slice A n c, .agg m.cells.toArray] w fun e w' => ∃ A' c', e = .returned (.tuple #[.slice A' (doF l m).1.length c', .agg (leftC (doF l m).2.1).toArray, .int .i64 (doF l m).2.2]) ∧ Own w' w.heap.size 46 4 A' (doF l m).1.length c' (evs (doF l m).1) ∧ Below w.heap.size w w' := by
  have HM := Lib.hid hm
  have CK := Lib.hid (fun W (h : m.ok W) => rcheck_any m W h)
  obtain ⟨k, hk⟩ : ∃ k, m.chk = k := ⟨_, rfl⟩
  obtain ⟨o, ho⟩ : ∃ o, m.op = o := ⟨_, rfl⟩
  have HC := Lib.hid hk
  have HO := Lib.hid ho
  have hlen := ent_len h
  have HF := Lib.hid hf
  clear hm hk ho hf
  match l, hlen, HF, h with
  | [], hlen, HF, h =>
    obtain rfl : n = 0 := by simpa using hlen.symm
    clear h HF
    go_enter Try.func9, Try.ntmps9
    go_upto_region 1 with (first
      | (refine wpList_box_blk (by rfl) 25 _ rfl m.cells rfl ?_; intro w2 hb2 hB2 hs2)
      | (refine wpList_alloc_blk (by rfl) 32 rfl (leftC (false, 0, 0)) zeroLR ?_; intro w3 hb3 hB3 hs3))
    have HH := Lib.hid (hb2.on hB3)
    have HFI := Lib.hid hb3
    have HW := Lib.hid (hB2.trans (hB3.mono (by omega)))
    rw [hs2] at HFI
    obtain ⟨gh, hgh⟩ : ∃ g, w.heap.size = g := ⟨_, rfl⟩
    obtain ⟨gf, hgf⟩ : ∃ g, gh + 1 = g := ⟨_, rfl⟩
    rw [hgh] at HH HFI
    rw [hgf] at HFI
    have HGL := Lib.hid (show w.heap.size = gh ∧ gh + 1 = gf ∧ w3.heap.size = gf + 1 from ⟨hgh, hgf, by omega⟩)
    first | rw [hgh, hgf] | rw [hgf] | rw [hgh]
    clear hb2 hB2 hs2 hb3 hB3 hs3 hgh hgf
    have HV : Hid (doF [] m = ([], (false, 0, 0), 1)) := Lib.hid (rfl)
    have hbf := HFI.out
    go_wp2_with (refine wpList_store_all (by rfl) 32 _ _ rfl gf (leftC (false, 0, 0)) rfl rfl 32 _ hbf (sizeLR _) rfl (oneLeft _) ?_; intro wZ hbZ hgZ hsZ)
    have HWZ : Below w.heap.size w wZ := bgrown HW.out hgZ HW.out.size (by have := HGL.out; omega)
    refine bodyPost_ret (results_mid rfl _ _ gf _ _ _ rfl hbZ Try.underlying32 rfl (sizeLR _)) rfl ?_
    exact ⟨none, 0, by rw [HV.out]; rfl, by rw [HV.out]; exact Own.nil _ _ _ _ _, HWZ⟩
  | x :: r, hlen, HF, h =>
    have hn1 : 1 ≤ n := by simp at hlen; omega
    have hrl : r.length = n - 1 := by simp at hlen; omega
    have HRL := Lib.hid hrl
    have e0 : ((n : Int) == 0) = false := by simp; omega
    obtain ⟨b, ob, hA, hb, _, _, _, _⟩ := ent_row h 0 x rfl
    subst hA
    have fa := HF.out x (by simp)
    have HR := Lib.hid h
    clear h hlen hrl
    go_enter Try.func9, Try.ntmps9
    go_upto_region 1 with (first
      | (refine wpList_box_blk (by rfl) 25 _ rfl m.cells rfl ?_; intro w2 hb2 hB2 hs2)
      | (refine wpList_alloc_blk (by rfl) 32 rfl (leftC (false, 0, 0)) zeroLR ?_; intro w3 hb3 hB3 hs3))
    have HH := Lib.hid (hb2.on hB3)
    have HFI := Lib.hid hb3
    have HW := Lib.hid (hB2.trans (hB3.mono (by omega)))
    rw [hs2] at HFI
    obtain ⟨gh, hgh⟩ : ∃ g, w.heap.size = g := ⟨_, rfl⟩
    obtain ⟨gf, hgf⟩ : ∃ g, gh + 1 = g := ⟨_, rfl⟩
    rw [hgh] at HH HFI
    rw [hgf] at HFI
    have HGL := Lib.hid (show w.heap.size = gh ∧ gh + 1 = gf ∧ w3.heap.size = gf + 1 from ⟨hgh, hgf, by omega⟩)
    first | rw [hgh, hgf] | rw [hgf] | rw [hgh]
    clear hb2 hB2 hs2 hb3 hB3 hs3 hgh hgf
    have hbh := HH.out
    go_wp2_with (refine wpList_load_blk (by rfl) 25 _ rfl gh rfl 25 _ _ hbh Try.underlying25 rfl (sizeHp m) ?_)
    refine (CK.out w3 (hop_below HM.out HW.out)).mono ?_
    rintro e w4 ⟨rfl, hb4⟩
    rw [HC.out]
    replace HH := Lib.hid (HH.out.on hb4)
    replace HFI := Lib.hid (HFI.out.on hb4)
    have HW4 := Lib.hid hb4.size
    replace HW := Lib.hid (bthen HW.out hb4)
    clear hb4 hbh
    have d1 : w4.cell? ⟨gh, 0, none⟩ = some (.int .i64 o) := (HH.out.cell 0).trans (by show some (Value.int .i64 m.op) = _; rw [HO.out])
    by_cases hk0 : k = 0
    · subst hk0
      have hop := chk_op m HC.out
      rw [HO.out] at hop
      by_cases ho3 : o = 3
      · subst ho3
        have HV : Hid (doF (x :: r) m = ([], (false, 0, 0), 54)) := Lib.hid (by unfold doF; simp only [HC.out, HO.out]; simp)
        have hbf := HFI.out
        go_wp2_with (refine wpList_store_all (by rfl) 32 _ _ rfl gf (leftC (false, 0, 0)) rfl rfl 32 _ hbf (sizeLR _) rfl (oneLeft _) ?_; intro wZ hbZ hgZ hsZ)
        have HWZ : Below w.heap.size w wZ := bgrown HW.out hgZ HW.out.size (by have := HGL.out; omega)
        refine bodyPost_ret (results_mid rfl _ _ gf _ _ _ rfl hbZ Try.underlying32 rfl (sizeLR _)) rfl ?_
        exact ⟨none, 0, by rw [HV.out]; rfl, by rw [HV.out]; exact Own.nil _ _ _ _ _, HWZ⟩
      · have ho3' : (o == 3) = false := by simpa using ho3
        have ho2 : 0 ≤ o ∧ o ≤ 2 := by omega
        have HO3 := Lib.hid ho3
        clear ho3
        obtain ⟨b', o', hA', _, q0, q1, q2, q3⟩ := ent_row (HR.out.below HW.out) 0 x rfl
        obtain ⟨rfl, rfl⟩ : b = b' ∧ ob = o' := by injection hA' with hA'; injection hA' with h1 h2; exact ⟨h1, h2⟩
        rw [Nat.zero_mul, Nat.add_zero] at q0 q1 q2 q3
        try clear hA'
        go_upto_region 6 with (first
          | (refine wpList_alloc_blk (by rfl) 46 rfl (Ent.cells ⟨0, 0, false, 0⟩) zeroEnt ?_; intro w5 hb5 hB5 hs5)
          | (refine wpList_store_all (by rfl) 46 _ _ rfl w4.heap.size (Ent.cells x) rfl rfl 46 _ hb5 (sizeEnt _) rfl (oneEnt _) ?_; intro w6 hb6 hg6 hs6))
        have hB6 : Below w4.heap.size w4 w6 := bgrown hB5 hg6 hB5.size (Nat.le_refl _)
        have HS6 := Lib.hid (hs6.trans hs5)
        clear hB5 hs5 hb5 hg6 hs6 d1 q0 q1 q2 q3
        replace HH := Lib.hid (HH.out.on hB6)
        replace HFI := Lib.hid (HFI.out.on hB6)
        replace HW := Lib.hid (bthen HW.out hB6)
        obtain ⟨gt, hgt⟩ : ∃ g, w4.heap.size = g := ⟨_, rfl⟩
        rw [hgt] at hb6 HW4 HS6 ⊢
        have HT := Lib.hid hb6
        clear hB6 hb6 hgt
        have d3 : w6.cell? ⟨gt, 3, none⟩ = some (.int .u8 x.ttl) := HT.out.cell 3
        go_wp2_with fail
        refine (rnext_any x.ttl fa.ttl.1 fa.ttl.2 w6).mono ?_
        rintro e w7 ⟨rfl, rfl⟩
        clear d3
        have d1 : w6.cell? ⟨gh, 0, none⟩ = some (.int .i64 o) := (HH.out.cell 0).trans (by show some (Value.int .i64 m.op) = _; rw [HO.out])
        have HSM := Lib.hid (chk_small m HC.out).1
        by_cases ht2 : x.ttl < 2
        · rw [show decide (¬ x.ttl < 2) = false from decide_eq_false (by omega)]
          have HV : Hid (doF (x :: r) m = ([], (false, 0, 0), 56)) := Lib.hid (by unfold doF; simp only [HC.out, HO.out]; simp [HO3.out, ht2])
          have hbf := HFI.out
          go_wp2_with (refine wpList_store_all (by rfl) 32 _ _ rfl gf (leftC (false, 0, 0)) rfl rfl 32 _ hbf (sizeLR _) rfl (oneLeft _) ?_; intro wZ hbZ hgZ hsZ)
          have HWZ : Below w.heap.size w wZ := bgrown HW.out hgZ HW.out.size (by have := HGL.out; omega)
          refine bodyPost_ret (results_mid rfl _ _ gf _ _ _ rfl hbZ Try.underlying32 rfl (sizeLR _)) rfl ?_
          exact ⟨none, 0, by rw [HV.out]; rfl, by rw [HV.out]; exact Own.nil _ _ _ _ _, HWZ⟩
        · rw [show decide (¬ x.ttl < 2) = true from decide_eq_true (by omega), show nextF x.ttl = x.ttl - 1 by unfold nextF; rw [if_neg ht2]]
          have hcase : o = 0 ∨ o = 1 ∨ o = 2 := by omega
          rcases hcase with rfl | rfl | rfl
          · have HLL := Lib.hid (show m.l.length = m.ln by have := HM.out.lrow.1; rw [nv_length] at this; omega)
            have hcut := HR.out.cut (k := 1) (cap := c) (by omega) hc
            rw [addr_addR] at hcut
            have hev : (evs (x :: r)).drop (1 * 4) = evs r := rfl
            rw [hev] at hcut
            obtain ⟨XA, hXA⟩ : ∃ z, (if c = 1 then some ⟨b, ob, none⟩ else some ⟨b, ob + 1 * 4, none⟩ : Option Addr) = z := ⟨_, rfl⟩
            rw [hXA] at hcut
            have HXA := Lib.hid hXA
            have HCU := Lib.hid hcut
            obtain ⟨L, hL⟩ : ∃ L, freshL x.cls (x.ttl - 1) m.l ++ (⟨x.label, x.cls, x.bot, x.ttl - 1⟩ :: r) = L := ⟨_, rfl⟩
            obtain ⟨q, hqn⟩ : ∃ q, m.ln + n = q := ⟨_, rfl⟩
            have HL := Lib.hid hL
            have HQN := Lib.hid hqn
            have HQ := Lib.hid (show L.length = q by rw [← hL, ← hqn, List.length_append, freshL_length, List.length_cons, HRL.out]; have := HLL.out; omega)
            have HDO := Lib.hid (show doF (x :: r) m = finF x (outE L) by rw [← hL]; unfold doF opF; simp [HC.out, HO.out, HO3.out, ht2, pushF]; try (intro h; omega))
            clear hcut hev hXA hL hqn
            have ht6 := HT.out
            have d2 : w6.cell? ⟨gh, 1, none⟩ = some (.slice m.lA m.ln m.lc) := HH.out.cell 1
            go_upto_region 20 with (refine wpList_store_u8 (by rfl) _ _ rfl gt 3 _ rfl rfl 46 _ _ ht6 rfl ?_; intro w8 hbQ hgQ hsQ)
            replace HH := Lib.hid (mapless_grow HH.out hgQ (by have := HGL.out; have := HW4.out; omega))
            replace HFI := Lib.hid (mapless_grow HFI.out hgQ (by have := HGL.out; have := HW4.out; omega))
            replace HW := Lib.hid (bgrown HW.out hgQ HW.out.size (by have := HGL.out; have := HW4.out; omega))
            replace HT := Lib.hid (show Blk w8 gt 46 (Ent.cells ⟨x.label, x.cls, x.bot, x.ttl - 1⟩) from hbQ)
            clear hbQ hgQ hsQ ht6 d1 d2
            have d1 : w8.cell? ⟨gh, 0, none⟩ = some (.int .i64 0) := (HH.out.cell 0).trans (by show some (Value.int .i64 m.op) = _; rw [HO.out])
            go_upto_region 23 with fail
            refine wp_region_rel (fun A B => A.grownBy B none) (fun A => grown_refl A _) (fun A B C h k => grown_trans h k) (relAt (List.cons (fun v _ => v = .slice m.lA (m.ln) (m.lc)) (List.cons (fun v _ => v = .pointer (some ⟨gt, 1, none⟩)) (List.cons (fun v _ => v = .int .u8 x.cls) (List.cons (fun v _ => v = .int .u8 (x.ttl - 1)) (List.cons (fun v W => ∃ A c, v = .slice A (m.ln) c ∧ Own W w8.heap.size 46 4 A (m.ln) c (evs (freshL x.cls (x.ttl - 1) m.l))) (List.cons (fun v _ => v = .agg #[.int .i64 x.label, .int .u8 x.cls, .bool x.bot, .int .u8 (x.ttl - 1)]) (List.cons (RowE 1 [⟨x.label, x.cls, x.bot, x.ttl - 1⟩]) (List.cons (fun v _ => v = .slice (some ⟨b, ob, none⟩) n c) (List.cons (fun v _ => v = .slice XA (n - 1) (c - 1)) (List.cons (fun v W => ∃ A c, v = .slice A n c ∧ Own W w8.heap.size 46 4 A n c (evs (⟨x.label, x.cls, x.bot, x.ttl - 1⟩ :: r))) (List.cons (fun v W => ∃ A c, v = .slice A q c ∧ Own W w8.heap.size 46 4 A q c (evs L)) (List.cons (fun v W => ∃ A c, v = .slice A q c ∧ Own W w8.heap.size 46 4 A q c (evs L)) ([])))))))))))))) (MonoL.at_ (.cons (mono_val _) (.cons (mono_val _) (.cons (mono_val _) (.cons (mono_val _) (.cons (fun _ _ _ ⟨X, c, hv, h⟩ hg => ⟨X, c, hv, h.below (grow_below hg)⟩) (.cons (mono_val _) (.cons (mono_rowE _ _) (.cons (mono_val _) (.cons (mono_val _) (.cons (fun _ _ _ ⟨X, c, hv, h⟩ hg => ⟨X, c, hv, h.below (grow_below hg)⟩) (.cons (fun _ _ _ ⟨X, c, hv, h⟩ hg => ⟨X, c, hv, h.below (grow_below hg)⟩) (.cons (fun _ _ _ ⟨X, c, hv, h⟩ hg => ⟨X, c, hv, h.below (grow_below hg)⟩) .nil))))))))))))) (by kernel_rfl) (by kernel_rfl) ⟨?_, ?_, ?_, ?_, ?_, ?_, ?_, ?_, ?_, ?_, ?_, ?_, trivial⟩ ?_
            · intro a vs W hX hR he hf K hK
              rw [if_pos (wanted_none rfl)]
              have e12 : a.eval (.tmp 12) = .slice m.lA (m.ln) (m.lc) := hf 12 (by kernel_rfl)
              refine wp_value (v := .slice m.lA (m.ln) (m.lc)) ?_ (hK _ _ rfl (grown_refl W _))
              simp only [execOp, e12]
              try go_simp
              try (first | rfl | omega | (simp only [IntKind.wrap_i64, IntKind.wrap_u8, IntKind.wrap_u64, IntKind.wrap_u16, IntKind.wrap_u32]; omega) | (rw [Int.tmod_eq_emod_of_nonneg (by omega)]) | (rw [Int.tmod_eq_emod_of_nonneg (by omega)]; omega))
            · intro a vs W hX hR he hf K hK
              rw [if_pos (wanted_none rfl)]
              have e7 : a.eval (.tmp 7) = .pointer (some ⟨gt, 0, none⟩) := hf 7 (by kernel_rfl)
              refine wp_value (v := .pointer (some ⟨gt, 1, none⟩)) ?_ (hK _ _ rfl (grown_refl W _))
              simp only [execOp, e7]
              try go_simp
              try (first | rfl | omega | (simp only [IntKind.wrap_i64, IntKind.wrap_u8, IntKind.wrap_u64, IntKind.wrap_u16, IntKind.wrap_u32]; omega) | (rw [Int.tmod_eq_emod_of_nonneg (by omega)]) | (rw [Int.tmod_eq_emod_of_nonneg (by omega)]; omega))
            · intro a vs W hX hR he hf K hK
              rw [if_pos (wanted_none rfl)]
              have e81 : a.eval (.tmp 81) = .pointer (some ⟨gt, 1, none⟩) := (he 1 81 (by kernel_rfl) rfl).trans (hR 1 (by kernel_rfl))
              have hbW := bthen (below_drew _) (grow_below hX)
              have hc : W.cell? ⟨gt, 1, none⟩ = some (.int .u8 x.cls) := (HT.out.on hbW).cell 1
              refine wp_value (v := _) ?_ (hK _ _ rfl (grown_refl W _))
              simp only [execOp, e81]
              go_simp
            · intro a vs W hX hR he hf K hK
              rw [if_pos (wanted_none rfl)]
              have e8 : a.eval (.tmp 8) = .int .u8 (x.ttl - 1) := hf 8 (by kernel_rfl)
              refine wp_value (v := .int .u8 (x.ttl - 1)) ?_ (hK _ _ rfl (grown_refl W _))
              simp only [execOp, e8]
              try go_simp
              try (first | rfl | omega | (simp only [IntKind.wrap_i64, IntKind.wrap_u8, IntKind.wrap_u64, IntKind.wrap_u16, IntKind.wrap_u32]; omega) | (rw [Int.tmod_eq_emod_of_nonneg (by omega)]) | (rw [Int.tmod_eq_emod_of_nonneg (by omega)]; omega))
            · intro a vs W hX hR he hf K hK
              rw [if_pos (wanted_none rfl)]
              have e80 : a.eval (.tmp 80) = .slice m.lA (m.ln) (m.lc) := (he 0 80 (by kernel_rfl) rfl).trans (hR 0 (by kernel_rfl))
              have e82 : a.eval (.tmp 82) = .int .u8 x.cls := (he 2 82 (by kernel_rfl) rfl).trans (hR 2 (by kernel_rfl))
              have e83 : a.eval (.tmp 83) = .int .u8 (x.ttl - 1) := (he 3 83 (by kernel_rfl) rfl).trans (hR 3 (by kernel_rfl))
              have hbW := bthen (below_drew _) (grow_below hX)
              refine wp_enter (f := 29) (args := #[.slice m.lA (m.ln) (m.lc), .int .u8 x.cls, .int .u8 (x.ttl - 1)]) (by simp only [execOp, e80, e82, e83]; go_simp; exact ⟨by simpa [Act.eval] using e80, by simpa [Act.eval] using e82, by simpa [Act.eval] using e83⟩) ((rfresh_any m.lA (m.ln) (m.lc) m.l x.cls (x.ttl - 1) (by have := HSM.out; omega) fa.cls.1 fa.cls.2 W ((HM.out.lrow.below (bthen HW.out hbW)).more (bthen HW.out hbW).size)).mono ?_)
              rintro q w' ⟨A3, c3, rfl, hown, hb⟩
              exact ⟨_, rfl, hK _ _ ⟨A3, c3, rfl, hown.mono hbW.size⟩ (below_grow hb _)⟩
            · intro a vs W hX hR he hf K hK
              rw [if_pos (wanted_none rfl)]
              have e7 : a.eval (.tmp 7) = .pointer (some ⟨gt, 0, none⟩) := hf 7 (by kernel_rfl)
              have hbW := bthen (below_drew _) (grow_below hX)
              exact wp_value (exec_load 46 _ rfl gt e7 46 (Ent.cells ⟨x.label, x.cls, x.bot, x.ttl - 1⟩) _ (HT.out.on hbW) Try.underlying46 rfl (sizeEnt _)) (hK _ _ rfl (grown_refl W _))
            · intro a vs W hX hR he hf K hK
              rw [if_pos (wanted_none rfl)]
              have e85 : a.eval (.tmp 85) = .agg #[.int .i64 x.label, .int .u8 x.cls, .bool x.bot, .int .u8 (x.ttl - 1)] := (he 5 85 (by kernel_rfl) rfl).trans (hR 5 (by kernel_rfl))
              have f85 := e85
              simp only [Act.eval, Array.getD_eq_getD_getElem?] at f85
              refine wp_value (v := .slice (some ⟨W.heap.size, 0, none⟩) 1 1) (w' := W.alloc (.cells #[.int .i64 x.label, .int .u8 x.cls, .bool x.bot, .int .u8 (x.ttl - 1)] 46)) ?_ (hK _ _ ⟨_, _, rfl, by rw [World.size_alloc]; exact Row.new (n := 1) (sz := 4) W #[.int .i64 x.label, .int .u8 x.cls, .bool x.bot, .int .u8 (x.ttl - 1)] rfl⟩ (World.grownBy_alloc _ _ _))
              simp only [execOp, f85]
              go_simp
            · intro a vs W hX hR he hf K hK
              rw [if_pos (wanted_none rfl)]
              have e0 : a.eval (.tmp 0) = .slice (some ⟨b, ob, none⟩) n c := hf 0 (by kernel_rfl)
              refine wp_value (v := .slice (some ⟨b, ob, none⟩) n c) ?_ (hK _ _ rfl (grown_refl W _))
              simp only [execOp, e0]
              try go_simp
              try (first | rfl | omega | (simp only [IntKind.wrap_i64, IntKind.wrap_u8, IntKind.wrap_u64, IntKind.wrap_u16, IntKind.wrap_u32]; omega) | (rw [Int.tmod_eq_emod_of_nonneg (by omega)]) | (rw [Int.tmod_eq_emod_of_nonneg (by omega)]; omega))
            · intro a vs W hX hR he hf K hK
              rw [if_pos (wanted_none rfl)]
              have e87 : a.eval (.tmp 87) = .slice (some ⟨b, ob, none⟩) n c := (he 7 87 (by kernel_rfl) rfl).trans (hR 7 (by kernel_rfl))
              have f87 := e87
              simp only [Act.eval, Array.getD_eq_getD_getElem?] at f87
              have hn2i : (1 : Int) ≤ (n : Int) := by omega
              have hnci : ¬ (c : Int) < (n : Int) := by omega
              refine wp_value (v := _) ?_ (hK _ _ rfl (grown_refl W _))
              simp only [execOp, e87]
              go_simp
              first | done | (rw [show (if c = 1 then (some ⟨b, ob, none⟩ : Option Addr) else some ⟨b, ob + 4, none⟩) = XA from HXA.out])
            · intro a vs W hX hR he hf K hK
              rw [if_pos (wanted_none rfl)]
              have e86 := he 6 86 (by kernel_rfl) rfl
              have p86 := hR 6 (by kernel_rfl)
              change (RowE 1 [⟨x.label, x.cls, x.bot, x.ttl - 1⟩]) (vs 6) W at p86
              have e88 : a.eval (.tmp 88) = .slice XA (n - 1) (c - 1) := (he 8 88 (by kernel_rfl) rfl).trans (hR 8 (by kernel_rfl))
              have hbW := bthen (below_drew _) (grow_below hX)
              obtain ⟨A3, c3, hv3, hr3⟩ := p86
              rw [hv3] at e86
              refine wp_enter (f := 28) (args := #[.slice A3 1 c3, .slice XA (n - 1) (c - 1)]) (by simp only [execOp, e86, e88]; go_simp; exact ⟨by simpa [Act.eval] using e86, by simpa [Act.eval] using e88⟩) ((on_any A3 XA 1 c3 (n - 1) (c - 1) [⟨x.label, x.cls, x.bot, x.ttl - 1⟩] r W hr3 ((HCU.out.below (bthen HW.out hbW)).more (bthen HW.out hbW).size) (by omega) (by omega)).mono ?_)
              rintro q w' ⟨A4, c4, rfl, hown, hb⟩
              rw [show 1 + (n - 1) = n by omega] at hown ⊢
              exact ⟨_, rfl, hK _ _ ⟨A4, c4, rfl, hown.mono hbW.size⟩ (below_grow hb _)⟩
            · intro a vs W hX hR he hf K hK
              rw [if_pos (wanted_none rfl)]
              have e84 := he 4 84 (by kernel_rfl) rfl
              have p84 := hR 4 (by kernel_rfl)
              change (fun v W => ∃ A c, v = .slice A (m.ln) c ∧ Own W w8.heap.size 46 4 A (m.ln) c (evs (freshL x.cls (x.ttl - 1) m.l))) (vs 4) W at p84
              have e89 := he 9 89 (by kernel_rfl) rfl
              have p89 := hR 9 (by kernel_rfl)
              change (fun v W => ∃ A c, v = .slice A n c ∧ Own W w8.heap.size 46 4 A n c (evs (⟨x.label, x.cls, x.bot, x.ttl - 1⟩ :: r))) (vs 9) W at p89
              have hbW := bthen (below_drew _) (grow_below hX)
              obtain ⟨A3, c3, hv3, hr3⟩ := p84
              obtain ⟨A4, c4, hv4, hr4⟩ := p89
              rw [hv3] at e84
              rw [hv4] at e89
              refine wp_enter (f := 28) (args := #[.slice A3 (m.ln) c3, .slice A4 n c4]) (by simp only [execOp, e84, e89]; go_simp; exact ⟨by simpa [Act.eval] using e84, by simpa [Act.eval] using e89⟩) ((on_any A3 A4 (m.ln) c3 n c4 _ _ W hr3.row hr4.row (by have := HSM.out; omega) (by omega)).mono ?_)
              rintro q' w' ⟨A5, c5, rfl, hown, hb⟩
              rw [HQN.out, HL.out] at hown
              rw [HQN.out]
              exact ⟨_, rfl, hK _ _ ⟨A5, c5, rfl, hown.mono hbW.size⟩ (below_grow hb _)⟩
            · intro a vs W hX hR he hf K hK
              rw [if_pos (wanted_none rfl)]
              have e90 := he 10 90 (by kernel_rfl) rfl
              have p90 := hR 10 (by kernel_rfl)
              change (fun v W => ∃ A c, v = .slice A q c ∧ Own W w8.heap.size 46 4 A q c (evs L)) (vs 10) W at p90
              refine wp_value (v := _) ?_ (hK _ _ p90 (grown_refl W _))
              simp only [execOp, e90]
              try go_simp
            · intro vs w17 hX17 hR
              have q0 := hR 0 (by decide)
              have q1 := hR 1 (by decide)
              have q2 := hR 2 (by decide)
              have q3 := hR 3 (by decide)
              have q4 := hR 4 (by decide)
              have q5 := hR 5 (by decide)
              have q6 := hR 6 (by decide)
              have q7 := hR 7 (by decide)
              have q8 := hR 8 (by decide)
              have q9 := hR 9 (by decide)
              have q10 := hR 10 (by decide)
              have q11 := hR 11 (by decide)
              change vs 0 = .slice m.lA (m.ln) (m.lc) at q0
              change vs 1 = .pointer (some ⟨gt, 1, none⟩) at q1
              change vs 2 = .int .u8 x.cls at q2
              change vs 3 = .int .u8 (x.ttl - 1) at q3
              change (fun v W => ∃ A c, v = .slice A (m.ln) c ∧ Own W w8.heap.size 46 4 A (m.ln) c (evs (freshL x.cls (x.ttl - 1) m.l))) (vs 4) w17 at q4
              change vs 5 = .agg #[.int .i64 x.label, .int .u8 x.cls, .bool x.bot, .int .u8 (x.ttl - 1)] at q5
              change (RowE 1 [⟨x.label, x.cls, x.bot, x.ttl - 1⟩]) (vs 6) w17 at q6
              change vs 7 = .slice (some ⟨b, ob, none⟩) n c at q7
              change vs 8 = .slice XA (n - 1) (c - 1) at q8
              change (fun v W => ∃ A c, v = .slice A n c ∧ Own W w8.heap.size 46 4 A n c (evs (⟨x.label, x.cls, x.bot, x.ttl - 1⟩ :: r))) (vs 9) w17 at q9
              change (fun v W => ∃ A c, v = .slice A q c ∧ Own W w8.heap.size 46 4 A q c (evs L)) (vs 10) w17 at q10
              change (fun v W => ∃ A c, v = .slice A q c ∧ Own W w8.heap.size 46 4 A q c (evs L)) (vs 11) w17 at q11
              simp only [putAll, Act.put, List.setIfInBounds_toArray, List.set_cons_zero, List.set_cons_succ, q0, q1, q2, q3, q5, q7, q8]
              clear q0 q1 q2 q3 q5 q7 q8
              clear hR
              obtain ⟨A', c', hv', ho'⟩ := q11
              rw [hv']
              have hB17 := bthen (below_drew w8) (grow_below hX17)
              replace HFI := Lib.hid (HFI.out.on hB17)
              replace HW := Lib.hid (bthen HW.out hB17)
              have HOG := Lib.hid (show ∀ z, blk A' c' = some z → gt ≤ z from fun z hz => by have := (ho'.lt z hz).1; have h1 := HT.out.lt; omega)
              have HOWN := Lib.hid (ho'.mono (B := w.heap.size) (by have := HGL.out; have := HW4.out; have := HT.out.lt; omega))
              clear hB17 ho'
              by_cases h16 : 16 < q
              · have h16i : (16 : Int) < (q : Int) := by omega
                have HV : Hid (doF (x :: r) m = ([], (false, 0, 0), 51)) := Lib.hid (by rw [HDO.out]; exact fin_over x L (by rw [HQ.out]; exact h16))
                have hbf := HFI.out
                go_wp2_with (refine wpList_store_all (by rfl) 32 _ _ rfl gf (leftC (false, 0, 0)) rfl rfl 32 _ hbf (sizeLR _) rfl (oneLeft _) ?_; intro wZ hbZ hgZ hsZ)
                have HWZ : Below w.heap.size w wZ := bgrown HW.out hgZ HW.out.size (by have := HGL.out; omega)
                refine bodyPost_ret (results_mid rfl _ _ gf _ _ _ rfl hbZ Try.underlying32 rfl (sizeLR _)) rfl ?_
                exact ⟨none, 0, by rw [HV.out]; rfl, by rw [HV.out]; exact Own.nil _ _ _ _ _, HWZ⟩
              · have h16i : ¬ (16 : Int) < (q : Int) := by omega
                have HV : Hid (doF (x :: r) m = (L, (false, 0, 0), 0)) := Lib.hid (by rw [HDO.out]; exact fin_fit x L (by rw [HQ.out]; exact h16) (by rw [HQ.out]; have := HQN.out; omega))
                have hbf := HFI.out
                go_wp2_with (refine wpList_store_all (by rfl) 32 _ _ rfl gf (leftC (false, 0, 0)) rfl rfl 32 _ hbf (sizeLR _) rfl (oneLeft _) ?_; intro wZ hbZ hgZ hsZ)
                have HWZ : Below w.heap.size w wZ := bgrown HW.out hgZ HW.out.size (by have := HGL.out; omega)
                refine bodyPost_ret (results_mid rfl _ _ gf _ _ _ rfl hbZ Try.underlying32 rfl (sizeLR _)) rfl ?_
                have ho := HOWN.out
                exact ⟨A', c', by rw [HV.out]; simp only [HQ.out]; rfl, by rw [HV.out]; simp only [HQ.out]; exact ho.kept hgZ (fun z hz => by have h1 := HOG.out z hz; have h2 := HGL.out; have h3 := HW4.out; intro e; injection e with e; omega), HWZ⟩
          · obtain ⟨z, zs, hz⟩ : ∃ z zs, m.l = z :: zs := by
              have h1 := hop.2.2 rfl
              have h2 := HM.out.lrow.1
              rw [nv_length] at h2
              cases hml : m.l with
              | nil => rw [hml] at h2; simp at h2; omega
              | cons z zs => exact ⟨z, zs, rfl⟩
            have HLL := Lib.hid (show zs.length = m.ln - 1 by have := HM.out.lrow.1; rw [nv_length, hz] at this; simp at this; omega)
            have hmln : 1 ≤ m.ln := by have := HM.out.lrow.1; rw [nv_length, hz] at this; simp at this; omega
            have hcut := HR.out.cut (k := 1) (cap := c) (by omega) hc
            rw [addr_addR] at hcut
            have hev : (evs (x :: r)).drop (1 * 4) = evs r := rfl
            rw [hev] at hcut
            obtain ⟨XA, hXA⟩ : ∃ z, (if c = 1 then some ⟨b, ob, none⟩ else some ⟨b, ob + 1 * 4, none⟩ : Option Addr) = z := ⟨_, rfl⟩
            rw [hXA] at hcut
            have HXA := Lib.hid hXA
            have HCU := Lib.hid hcut
            obtain ⟨L, hL⟩ : ∃ L, freshL x.cls (x.ttl - 1) zs ++ (⟨z, x.cls, x.bot, x.ttl - 1⟩ :: r) = L := ⟨_, rfl⟩
            obtain ⟨q, hqn⟩ : ∃ q, (m.ln - 1) + n = q := ⟨_, rfl⟩
            have HL := Lib.hid hL
            have HQN := Lib.hid hqn
            have HQ := Lib.hid (show L.length = q by rw [← hL, ← hqn, List.length_append, freshL_length, List.length_cons, HRL.out]; have := HLL.out; omega)
            have HDO := Lib.hid (show doF (x :: r) m = finF x (outE L) by rw [← hL]; unfold doF opF; simp [HC.out, HO.out, HO3.out, ht2, hz, pushF]; try (intro h; omega))
            clear hcut hev hXA hL hqn
            have ht6 := HT.out
            obtain ⟨bl, ol, hlA, hbl, hcl0⟩ := HM.out.lrow.cells (by omega)
            have k0 := hcl0 0 (.int .i64 z) (by rw [hz]; rfl)
            rw [Nat.add_zero] at k0
            have hlcut := HM.out.lrow.cut (k := 1) (cap := m.lc) (by omega) HM.out.lle
            rw [hlA, addr_addR] at hlcut
            have hldr : (nv .i64 m.l).drop (1 * 1) = nv .i64 zs := by rw [hz]; rfl
            rw [hldr] at hlcut
            obtain ⟨ZA, hZA⟩ : ∃ q, (if m.lc = 1 then some ⟨bl, ol, none⟩ else some ⟨bl, ol + 1 * 1, none⟩ : Option Addr) = q := ⟨_, rfl⟩
            rw [hZA] at hlcut
            have HZA := Lib.hid hZA
            have HLC := Lib.hid hlcut
            have HK0 := Lib.hid (show ∀ W, Below w.heap.size w W → W.cell? ⟨bl, ol, none⟩ = some (.int .i64 z) from fun W hB => (hB.cell (p := ⟨bl, ol, none⟩) hbl).trans k0)
            have d2 : w6.cell? ⟨gh, 1, none⟩ = some (.slice (some ⟨bl, ol, none⟩) m.ln m.lc) := (HH.out.cell 1).trans (by rw [← hlA]; rfl)
            clear hlcut hldr hZA k0 hcl0 hlA
            go_upto_region 20 with (refine wpList_store_u8 (by rfl) _ _ rfl gt 3 _ rfl rfl 46 _ _ ht6 rfl ?_; intro w8 hbQ hgQ hsQ)
            replace HH := Lib.hid (mapless_grow HH.out hgQ (by have := HGL.out; have := HW4.out; omega))
            replace HFI := Lib.hid (mapless_grow HFI.out hgQ (by have := HGL.out; have := HW4.out; omega))
            replace HW := Lib.hid (bgrown HW.out hgQ HW.out.size (by have := HGL.out; have := HW4.out; omega))
            replace HT := Lib.hid (show Blk w8 gt 46 (Ent.cells ⟨x.label, x.cls, x.bot, x.ttl - 1⟩) from hbQ)
            clear hbQ hgQ hsQ ht6 d1 d2
            obtain ⟨w7, hw7⟩ : ∃ q, q = w8 := ⟨_, rfl⟩
            subst hw7
            have d1 : w7.cell? ⟨gh, 0, none⟩ = some (.int .i64 1) := (HH.out.cell 0).trans (by show some (Value.int .i64 m.op) = _; rw [HO.out])
            have d3 := HK0.out w7 HW.out
            have ht6 := HT.out
            go_upto_region 22 with (refine wpList_store_i64 (by rfl) _ _ rfl gt 0 _ rfl rfl 46 _ _ ht6 rfl ?_; intro w8 hbQ hgQ hsQ)
            replace HH := Lib.hid (mapless_grow HH.out hgQ (by have := HGL.out; have := HW4.out; omega))
            replace HFI := Lib.hid (mapless_grow HFI.out hgQ (by have := HGL.out; have := HW4.out; omega))
            replace HW := Lib.hid (bgrown HW.out hgQ HW.out.size (by have := HGL.out; have := HW4.out; omega))
            replace HT := Lib.hid (show Blk w8 gt 46 (Ent.cells ⟨z, x.cls, x.bot, x.ttl - 1⟩) from hbQ)
            clear hbQ hgQ hsQ ht6 d1 d3
            have hn2i : (1 : Int) ≤ (m.ln : Int) := by omega
            have hnci : ¬ (m.lc : Int) < (m.ln : Int) := by have := HM.out.lle; omega
            go_upto_region 23 with fail
            rw [show (if m.lc = 1 then (some ⟨bl, ol, none⟩ : Option Addr) else some ⟨bl, ol + 1, none⟩) = ZA from HZA.out]
            refine wp_region_rel (fun A B => A.grownBy B none) (fun A => grown_refl A _) (fun A B C h k => grown_trans h k) (relAt (List.cons (fun v _ => v = .slice ZA (m.ln - 1) (m.lc - 1)) (List.cons (fun v _ => v = .pointer (some ⟨gt, 1, none⟩)) (List.cons (fun v _ => v = .int .u8 x.cls) (List.cons (fun v _ => v = .int .u8 (x.ttl - 1)) (List.cons (fun v W => ∃ A c, v = .slice A (m.ln - 1) c ∧ Own W w8.heap.size 46 4 A (m.ln - 1) c (evs (freshL x.cls (x.ttl - 1) zs))) (List.cons (fun v _ => v = .agg #[.int .i64 z, .int .u8 x.cls, .bool x.bot, .int .u8 (x.ttl - 1)]) (List.cons (RowE 1 [⟨z, x.cls, x.bot, x.ttl - 1⟩]) (List.cons (fun v _ => v = .slice (some ⟨b, ob, none⟩) n c) (List.cons (fun v _ => v = .slice XA (n - 1) (c - 1)) (List.cons (fun v W => ∃ A c, v = .slice A n c ∧ Own W w8.heap.size 46 4 A n c (evs (⟨z, x.cls, x.bot, x.ttl - 1⟩ :: r))) (List.cons (fun v W => ∃ A c, v = .slice A q c ∧ Own W w8.heap.size 46 4 A q c (evs L)) (List.cons (fun v W => ∃ A c, v = .slice A q c ∧ Own W w8.heap.size 46 4 A q c (evs L)) ([])))))))))))))) (MonoL.at_ (.cons (mono_val _) (.cons (mono_val _) (.cons (mono_val _) (.cons (mono_val _) (.cons (fun _ _ _ ⟨X, c, hv, h⟩ hg => ⟨X, c, hv, h.below (grow_below hg)⟩) (.cons (mono_val _) (.cons (mono_rowE _ _) (.cons (mono_val _) (.cons (mono_val _) (.cons (fun _ _ _ ⟨X, c, hv, h⟩ hg => ⟨X, c, hv, h.below (grow_below hg)⟩) (.cons (fun _ _ _ ⟨X, c, hv, h⟩ hg => ⟨X, c, hv, h.below (grow_below hg)⟩) (.cons (fun _ _ _ ⟨X, c, hv, h⟩ hg => ⟨X, c, hv, h.below (grow_below hg)⟩) .nil))))))))))))) (by kernel_rfl) (by kernel_rfl) ⟨?_, ?_, ?_, ?_, ?_, ?_, ?_, ?_, ?_, ?_, ?_, ?_, trivial⟩ ?_
            · intro a vs W hX hR he hf K hK
              rw [if_pos (wanted_none rfl)]
              have e12 : a.eval (.tmp 12) = .slice ZA (m.ln - 1) (m.lc - 1) := hf 12 (by kernel_rfl)
              refine wp_value (v := .slice ZA (m.ln - 1) (m.lc - 1)) ?_ (hK _ _ rfl (grown_refl W _))
              simp only [execOp, e12]
              try go_simp
              try (first | rfl | omega | (simp only [IntKind.wrap_i64, IntKind.wrap_u8, IntKind.wrap_u64, IntKind.wrap_u16, IntKind.wrap_u32]; omega) | (rw [Int.tmod_eq_emod_of_nonneg (by omega)]) | (rw [Int.tmod_eq_emod_of_nonneg (by omega)]; omega))
            · intro a vs W hX hR he hf K hK
              rw [if_pos (wanted_none rfl)]
              have e7 : a.eval (.tmp 7) = .pointer (some ⟨gt, 0, none⟩) := hf 7 (by kernel_rfl)
              refine wp_value (v := .pointer (some ⟨gt, 1, none⟩)) ?_ (hK _ _ rfl (grown_refl W _))
              simp only [execOp, e7]
              try go_simp
              try (first | rfl | omega | (simp only [IntKind.wrap_i64, IntKind.wrap_u8, IntKind.wrap_u64, IntKind.wrap_u16, IntKind.wrap_u32]; omega) | (rw [Int.tmod_eq_emod_of_nonneg (by omega)]) | (rw [Int.tmod_eq_emod_of_nonneg (by omega)]; omega))
            · intro a vs W hX hR he hf K hK
              rw [if_pos (wanted_none rfl)]
              have e81 : a.eval (.tmp 81) = .pointer (some ⟨gt, 1, none⟩) := (he 1 81 (by kernel_rfl) rfl).trans (hR 1 (by kernel_rfl))
              have hbW := bthen (below_drew _) (grow_below hX)
              have hc : W.cell? ⟨gt, 1, none⟩ = some (.int .u8 x.cls) := (HT.out.on hbW).cell 1
              refine wp_value (v := _) ?_ (hK _ _ rfl (grown_refl W _))
              simp only [execOp, e81]
              go_simp
            · intro a vs W hX hR he hf K hK
              rw [if_pos (wanted_none rfl)]
              have e8 : a.eval (.tmp 8) = .int .u8 (x.ttl - 1) := hf 8 (by kernel_rfl)
              refine wp_value (v := .int .u8 (x.ttl - 1)) ?_ (hK _ _ rfl (grown_refl W _))
              simp only [execOp, e8]
              try go_simp
              try (first | rfl | omega | (simp only [IntKind.wrap_i64, IntKind.wrap_u8, IntKind.wrap_u64, IntKind.wrap_u16, IntKind.wrap_u32]; omega) | (rw [Int.tmod_eq_emod_of_nonneg (by omega)]) | (rw [Int.tmod_eq_emod_of_nonneg (by omega)]; omega))
            · intro a vs W hX hR he hf K hK
              rw [if_pos (wanted_none rfl)]
              have e80 : a.eval (.tmp 80) = .slice ZA (m.ln - 1) (m.lc - 1) := (he 0 80 (by kernel_rfl) rfl).trans (hR 0 (by kernel_rfl))
              have e82 : a.eval (.tmp 82) = .int .u8 x.cls := (he 2 82 (by kernel_rfl) rfl).trans (hR 2 (by kernel_rfl))
              have e83 : a.eval (.tmp 83) = .int .u8 (x.ttl - 1) := (he 3 83 (by kernel_rfl) rfl).trans (hR 3 (by kernel_rfl))
              have hbW := bthen (below_drew _) (grow_below hX)
              refine wp_enter (f := 29) (args := #[.slice ZA (m.ln - 1) (m.lc - 1), .int .u8 x.cls, .int .u8 (x.ttl - 1)]) (by simp only [execOp, e80, e82, e83]; go_simp; exact ⟨by simpa [Act.eval] using e80, by simpa [Act.eval] using e82, by simpa [Act.eval] using e83⟩) ((rfresh_any ZA (m.ln - 1) (m.lc - 1) zs x.cls (x.ttl - 1) (by have := HSM.out; omega) fa.cls.1 fa.cls.2 W ((HLC.out.below (bthen HW.out hbW)).more (bthen HW.out hbW).size)).mono ?_)
              rintro q w' ⟨A3, c3, rfl, hown, hb⟩
              exact ⟨_, rfl, hK _ _ ⟨A3, c3, rfl, hown.mono hbW.size⟩ (below_grow hb _)⟩
            · intro a vs W hX hR he hf K hK
              rw [if_pos (wanted_none rfl)]
              have e7 : a.eval (.tmp 7) = .pointer (some ⟨gt, 0, none⟩) := hf 7 (by kernel_rfl)
              have hbW := bthen (below_drew _) (grow_below hX)
              exact wp_value (exec_load 46 _ rfl gt e7 46 (Ent.cells ⟨z, x.cls, x.bot, x.ttl - 1⟩) _ (HT.out.on hbW) Try.underlying46 rfl (sizeEnt _)) (hK _ _ rfl (grown_refl W _))
            · intro a vs W hX hR he hf K hK
              rw [if_pos (wanted_none rfl)]
              have e85 : a.eval (.tmp 85) = .agg #[.int .i64 z, .int .u8 x.cls, .bool x.bot, .int .u8 (x.ttl - 1)] := (he 5 85 (by kernel_rfl) rfl).trans (hR 5 (by kernel_rfl))
              have f85 := e85
              simp only [Act.eval, Array.getD_eq_getD_getElem?] at f85
              refine wp_value (v := .slice (some ⟨W.heap.size, 0, none⟩) 1 1) (w' := W.alloc (.cells #[.int .i64 z, .int .u8 x.cls, .bool x.bot, .int .u8 (x.ttl - 1)] 46)) ?_ (hK _ _ ⟨_, _, rfl, by rw [World.size_alloc]; exact Row.new (n := 1) (sz := 4) W #[.int .i64 z, .int .u8 x.cls, .bool x.bot, .int .u8 (x.ttl - 1)] rfl⟩ (World.grownBy_alloc _ _ _))
              simp only [execOp, f85]
              go_simp
            · intro a vs W hX hR he hf K hK
              rw [if_pos (wanted_none rfl)]
              have e0 : a.eval (.tmp 0) = .slice (some ⟨b, ob, none⟩) n c := hf 0 (by kernel_rfl)
              refine wp_value (v := .slice (some ⟨b, ob, none⟩) n c) ?_ (hK _ _ rfl (grown_refl W _))
              simp only [execOp, e0]
              try go_simp
              try (first | rfl | omega | (simp only [IntKind.wrap_i64, IntKind.wrap_u8, IntKind.wrap_u64, IntKind.wrap_u16, IntKind.wrap_u32]; omega) | (rw [Int.tmod_eq_emod_of_nonneg (by omega)]) | (rw [Int.tmod_eq_emod_of_nonneg (by omega)]; omega))
            · intro a vs W hX hR he hf K hK
              rw [if_pos (wanted_none rfl)]
              have e87 : a.eval (.tmp 87) = .slice (some ⟨b, ob, none⟩) n c := (he 7 87 (by kernel_rfl) rfl).trans (hR 7 (by kernel_rfl))
              have f87 := e87
              simp only [Act.eval, Array.getD_eq_getD_getElem?] at f87
              have hn2i : (1 : Int) ≤ (n : Int) := by omega
              have hnci : ¬ (c : Int) < (n : Int) := by omega
              refine wp_value (v := _) ?_ (hK _ _ rfl (grown_refl W _))
              simp only [execOp, e87]
              go_simp
              first | done | (rw [show (if c = 1 then (some ⟨b, ob, none⟩ : Option Addr) else some ⟨b, ob + 4, none⟩) = XA from HXA.out])
            · intro a vs W hX hR he hf K hK
              rw [if_pos (wanted_none rfl)]
              have e86 := he 6 86 (by kernel_rfl) rfl
              have p86 := hR 6 (by kernel_rfl)
              change (RowE 1 [⟨z, x.cls, x.bot, x.ttl - 1⟩]) (vs 6) W at p86
              have e88 : a.eval (.tmp 88) = .slice XA (n - 1) (c - 1) := (he 8 88 (by kernel_rfl) rfl).trans (hR 8 (by kernel_rfl))
              have hbW := bthen (below_drew _) (grow_below hX)
              obtain ⟨A3, c3, hv3, hr3⟩ := p86
              rw [hv3] at e86
              refine wp_enter (f := 28) (args := #[.slice A3 1 c3, .slice XA (n - 1) (c - 1)]) (by simp only [execOp, e86, e88]; go_simp; exact ⟨by simpa [Act.eval] using e86, by simpa [Act.eval] using e88⟩) ((on_any A3 XA 1 c3 (n - 1) (c - 1) [⟨z, x.cls, x.bot, x.ttl - 1⟩] r W hr3 ((HCU.out.below (bthen HW.out hbW)).more (bthen HW.out hbW).size) (by omega) (by omega)).mono ?_)
              rintro q w' ⟨A4, c4, rfl, hown, hb⟩
              rw [show 1 + (n - 1) = n by omega] at hown ⊢
              exact ⟨_, rfl, hK _ _ ⟨A4, c4, rfl, hown.mono hbW.size⟩ (below_grow hb _)⟩
            · intro a vs W hX hR he hf K hK
              rw [if_pos (wanted_none rfl)]
              have e84 := he 4 84 (by kernel_rfl) rfl
              have p84 := hR 4 (by kernel_rfl)
              change (fun v W => ∃ A c, v = .slice A (m.ln - 1) c ∧ Own W w8.heap.size 46 4 A (m.ln - 1) c (evs (freshL x.cls (x.ttl - 1) zs))) (vs 4) W at p84
              have e89 := he 9 89 (by kernel_rfl) rfl
              have p89 := hR 9 (by kernel_rfl)
              change (fun v W => ∃ A c, v = .slice A n c ∧ Own W w8.heap.size 46 4 A n c (evs (⟨z, x.cls, x.bot, x.ttl - 1⟩ :: r))) (vs 9) W at p89
              have hbW := bthen (below_drew _) (grow_below hX)
              obtain ⟨A3, c3, hv3, hr3⟩ := p84
              obtain ⟨A4, c4, hv4, hr4⟩ := p89
              rw [hv3] at e84
              rw [hv4] at e89
              refine wp_enter (f := 28) (args := #[.slice A3 (m.ln - 1) c3, .slice A4 n c4]) (by simp only [execOp, e84, e89]; go_simp; exact ⟨by simpa [Act.eval] using e84, by simpa [Act.eval] using e89⟩) ((on_any A3 A4 (m.ln - 1) c3 n c4 _ _ W hr3.row hr4.row (by have := HSM.out; omega) (by omega)).mono ?_)
              rintro q' w' ⟨A5, c5, rfl, hown, hb⟩
              rw [HQN.out, HL.out] at hown
              rw [HQN.out]
              exact ⟨_, rfl, hK _ _ ⟨A5, c5, rfl, hown.mono hbW.size⟩ (below_grow hb _)⟩
            · intro a vs W hX hR he hf K hK
              rw [if_pos (wanted_none rfl)]
              have e90 := he 10 90 (by kernel_rfl) rfl
              have p90 := hR 10 (by kernel_rfl)
              change (fun v W => ∃ A c, v = .slice A q c ∧ Own W w8.heap.size 46 4 A q c (evs L)) (vs 10) W at p90
              refine wp_value (v := _) ?_ (hK _ _ p90 (grown_refl W _))
              simp only [execOp, e90]
              try go_simp
            · intro vs w17 hX17 hR
              have q0 := hR 0 (by decide)
              have q1 := hR 1 (by decide)
              have q2 := hR 2 (by decide)
              have q3 := hR 3 (by decide)
              have q4 := hR 4 (by decide)
              have q5 := hR 5 (by decide)
              have q6 := hR 6 (by decide)
              have q7 := hR 7 (by decide)
              have q8 := hR 8 (by decide)
              have q9 := hR 9 (by decide)
              have q10 := hR 10 (by decide)
              have q11 := hR 11 (by decide)
              change vs 0 = .slice ZA (m.ln - 1) (m.lc - 1) at q0
              change vs 1 = .pointer (some ⟨gt, 1, none⟩) at q1
              change vs 2 = .int .u8 x.cls at q2
              change vs 3 = .int .u8 (x.ttl - 1) at q3
              change (fun v W => ∃ A c, v = .slice A (m.ln - 1) c ∧ Own W w8.heap.size 46 4 A (m.ln - 1) c (evs (freshL x.cls (x.ttl - 1) zs))) (vs 4) w17 at q4
              change vs 5 = .agg #[.int .i64 z, .int .u8 x.cls, .bool x.bot, .int .u8 (x.ttl - 1)] at q5
              change (RowE 1 [⟨z, x.cls, x.bot, x.ttl - 1⟩]) (vs 6) w17 at q6
              change vs 7 = .slice (some ⟨b, ob, none⟩) n c at q7
              change vs 8 = .slice XA (n - 1) (c - 1) at q8
              change (fun v W => ∃ A c, v = .slice A n c ∧ Own W w8.heap.size 46 4 A n c (evs (⟨z, x.cls, x.bot, x.ttl - 1⟩ :: r))) (vs 9) w17 at q9
              change (fun v W => ∃ A c, v = .slice A q c ∧ Own W w8.heap.size 46 4 A q c (evs L)) (vs 10) w17 at q10
              change (fun v W => ∃ A c, v = .slice A q c ∧ Own W w8.heap.size 46 4 A q c (evs L)) (vs 11) w17 at q11
              simp only [putAll, Act.put, List.setIfInBounds_toArray, List.set_cons_zero, List.set_cons_succ, q0, q1, q2, q3, q5, q7, q8]
              clear q0 q1 q2 q3 q5 q7 q8
              clear hR
              obtain ⟨A', c', hv', ho'⟩ := q11
              rw [hv']
              have hB17 := bthen (below_drew w8) (grow_below hX17)
              replace HFI := Lib.hid (HFI.out.on hB17)
              replace HW := Lib.hid (bthen HW.out hB17)
              have HOG := Lib.hid (show ∀ z, blk A' c' = some z → gt ≤ z from fun z hz => by have := (ho'.lt z hz).1; have h1 := HT.out.lt; omega)
              have HOWN := Lib.hid (ho'.mono (B := w.heap.size) (by have := HGL.out; have := HW4.out; have := HT.out.lt; omega))
              clear hB17 ho'
              by_cases h16 : 16 < q
              · have h16i : (16 : Int) < (q : Int) := by omega
                have HV : Hid (doF (x :: r) m = ([], (false, 0, 0), 51)) := Lib.hid (by rw [HDO.out]; exact fin_over x L (by rw [HQ.out]; exact h16))
                have hbf := HFI.out
                go_wp2_with (refine wpList_store_all (by rfl) 32 _ _ rfl gf (leftC (false, 0, 0)) rfl rfl 32 _ hbf (sizeLR _) rfl (oneLeft _) ?_; intro wZ hbZ hgZ hsZ)
                have HWZ : Below w.heap.size w wZ := bgrown HW.out hgZ HW.out.size (by have := HGL.out; omega)
                refine bodyPost_ret (results_mid rfl _ _ gf _ _ _ rfl hbZ Try.underlying32 rfl (sizeLR _)) rfl ?_
                exact ⟨none, 0, by rw [HV.out]; rfl, by rw [HV.out]; exact Own.nil _ _ _ _ _, HWZ⟩
              · have h16i : ¬ (16 : Int) < (q : Int) := by omega
                have HV : Hid (doF (x :: r) m = (L, (false, 0, 0), 0)) := Lib.hid (by rw [HDO.out]; exact fin_fit x L (by rw [HQ.out]; exact h16) (by rw [HQ.out]; have := HQN.out; omega))
                have hbf := HFI.out
                go_wp2_with (refine wpList_store_all (by rfl) 32 _ _ rfl gf (leftC (false, 0, 0)) rfl rfl 32 _ hbf (sizeLR _) rfl (oneLeft _) ?_; intro wZ hbZ hgZ hsZ)
                have HWZ : Below w.heap.size w wZ := bgrown HW.out hgZ HW.out.size (by have := HGL.out; omega)
                refine bodyPost_ret (results_mid rfl _ _ gf _ _ _ rfl hbZ Try.underlying32 rfl (sizeLR _)) rfl ?_
                have ho := HOWN.out
                exact ⟨A', c', by rw [HV.out]; simp only [HQ.out]; rfl, by rw [HV.out]; simp only [HQ.out]; exact ho.kept hgZ (fun z hz => by have h1 := HOG.out z hz; have h2 := HGL.out; have h3 := HW4.out; intro e; injection e with e; omega), HWZ⟩
          · skip
            have P := rbelow_any (some ⟨b, ob, none⟩) n c (x :: r) m.pipe w6 ((HR.out.below HW.out).more HW.out.size) hc hcm (by omega) HF.out
            obtain ⟨L, hL⟩ : ∃ q, (belowF (x :: r) m.pipe).1 = q := ⟨_, rfl⟩
            obtain ⟨F, hF⟩ : ∃ q, (belowF (x :: r) m.pipe).2 = q := ⟨_, rfl⟩
            obtain ⟨q, hq⟩ : ∃ q, L.length = q := ⟨_, rfl⟩
            have HDO := Lib.hid (show doF (x :: r) m = finF x (if F then outE L else ([], 56)) by rw [← hL, ← hF]; unfold doF opF popF; simp [HC.out, HO.out, HO3.out, ht2]; try (intro h; omega))
            rw [hL, hF, hq] at P
            have HQ := Lib.hid hq
            have HP := Lib.hid P
            have d5 : w6.cell? ⟨gh, 5, none⟩ = some (.bool m.pipe) := HH.out.cell 5
            clear P hL hF hq
            go_wp2_with fail
            refine HP.out.mono ?_
            rintro e w15 ⟨A', c', rfl, hown, hb15⟩
            clear d1 d5
            have HOG := Lib.hid (show ∀ z, blk A' c' = some z → gt ≤ z from fun z hz => by have := (hown.lt z hz).1; have h1 := HT.out.lt; omega)
            have HOWN := Lib.hid (hown.mono (B := w.heap.size) (by have := HGL.out; have := HW4.out; have := HT.out.lt; omega))
            replace HFI := Lib.hid (HFI.out.on hb15)
            replace HT := Lib.hid (HT.out.on hb15)
            replace HW := Lib.hid (bthen HW.out hb15)
            clear hown hb15
            cases F
            · skip
              have HV : Hid (doF (x :: r) m = ([], (false, 0, 0), 56)) := Lib.hid (by rw [HDO.out]; rfl)
              have hbf := HFI.out
              go_wp2_with (refine wpList_store_all (by rfl) 32 _ _ rfl gf (leftC (false, 0, 0)) rfl rfl 32 _ hbf (sizeLR _) rfl (oneLeft _) ?_; intro wZ hbZ hgZ hsZ)
              have HWZ : Below w.heap.size w wZ := bgrown HW.out hgZ HW.out.size (by have := HGL.out; omega)
              refine bodyPost_ret (results_mid rfl _ _ gf _ _ _ rfl hbZ Try.underlying32 rfl (sizeLR _)) rfl ?_
              exact ⟨none, 0, by rw [HV.out]; rfl, by rw [HV.out]; exact Own.nil _ _ _ _ _, HWZ⟩
            · by_cases hq0 : q = 0
              · subst hq0
                have HV : Hid (doF (x :: r) m = ([], (true, x.ttl, x.cls % 8), 0)) := Lib.hid (by rw [HDO.out]; unfold finF outE; simp only [HQ.out, if_true]; simp [HQ.out])
                go_upto_region 14 with fail
                have HQT := Lib.hid (show ∀ W, Ext1 gf 32 (leftC (true, x.ttl, x.cls % 8)) w15.drew W → Blk W gt 46 (Ent.cells x) from fun W hX => (HT.out.drew).grown hX.grown (by intro e; injection e with e; have := HGL.out; have := HW4.out; omega))
                have MOD8 := Lib.hid (show x.cls.tmod 8 = x.cls % 8 from Int.tmod_eq_emod_of_nonneg fa.cls.1)
                refine wp_region_rel (Ext1 gf 32 (leftC (true, x.ttl, x.cls % 8))) (Ext1.refl gf 32 (leftC (true, x.ttl, x.cls % 8))) (fun A B C h k => h.trans k) (relAt (List.cons (fun v _ => v = .pointer (some ⟨gt, 3, none⟩)) (List.cons (fun v _ => v = .int .u8 x.ttl) (List.cons (fun v _ => v = .pointer (some ⟨gt, 1, none⟩)) (List.cons (fun v _ => v = .int .u8 x.cls) (List.cons (fun v _ => v = .int .u8 (x.cls % 8)) (List.cons (fun v _ => v = .agg (leftC (true, x.ttl, x.cls % 8)).toArray) (List.cons (fun v _ => v = .slice none 0 0) (List.cons (fun v W => Blk W gf 32 (leftC (true, x.ttl, x.cls % 8))) (List.cons (fun v _ => v = .int .i64 0) ([]))))))))))) (MonoL.at_ (.cons (mono_val _) (.cons (mono_val _) (.cons (mono_val _) (.cons (mono_val _) (.cons (mono_val _) (.cons (mono_val _) (.cons (mono_val _) (.cons (fun _ _ _ h k => k.stays h) (.cons (mono_val _) .nil)))))))))) (by kernel_rfl) (by kernel_rfl) ⟨?_, ?_, ?_, ?_, ?_, ?_, ?_, ?_, ?_, trivial⟩ ?_
                · intro a vs W hX hR he hf K hK
                  rw [if_pos (wanted_none rfl)]
                  have e7 : a.eval (.tmp 7) = .pointer (some ⟨gt, 0, none⟩) := hf 7 (by kernel_rfl)
                  refine wp_value (v := .pointer (some ⟨gt, 3, none⟩)) ?_ (hK _ _ rfl (Ext1.refl _ _ _ W))
                  simp only [execOp, e7]
                  try go_simp
                  try (first | rfl | omega | (simp only [IntKind.wrap_i64, IntKind.wrap_u8, IntKind.wrap_u64, IntKind.wrap_u16, IntKind.wrap_u32]; omega) | (rw [Int.tmod_eq_emod_of_nonneg (by omega)]) | (rw [Int.tmod_eq_emod_of_nonneg (by omega)]; omega))
                · intro a vs W hX hR he hf K hK
                  rw [if_pos (wanted_none rfl)]
                  have e55 : a.eval (.tmp 55) = .pointer (some ⟨gt, 3, none⟩) := (he 0 55 (by kernel_rfl) rfl).trans (hR 0 (by kernel_rfl))
                  have hq : W.cell? ⟨gt, 3, none⟩ = some (.int .u8 x.ttl) := (HQT.out W hX).cell 3
                  refine wp_value (v := _) ?_ (hK _ _ rfl (Ext1.refl _ _ _ W))
                  simp only [execOp, e55]
                  go_simp
                · intro a vs W hX hR he hf K hK
                  rw [if_pos (wanted_none rfl)]
                  have e7 : a.eval (.tmp 7) = .pointer (some ⟨gt, 0, none⟩) := hf 7 (by kernel_rfl)
                  refine wp_value (v := .pointer (some ⟨gt, 1, none⟩)) ?_ (hK _ _ rfl (Ext1.refl _ _ _ W))
                  simp only [execOp, e7]
                  try go_simp
                  try (first | rfl | omega | (simp only [IntKind.wrap_i64, IntKind.wrap_u8, IntKind.wrap_u64, IntKind.wrap_u16, IntKind.wrap_u32]; omega) | (rw [Int.tmod_eq_emod_of_nonneg (by omega)]) | (rw [Int.tmod_eq_emod_of_nonneg (by omega)]; omega))
                · intro a vs W hX hR he hf K hK
                  rw [if_pos (wanted_none rfl)]
                  have e57 : a.eval (.tmp 57) = .pointer (some ⟨gt, 1, none⟩) := (he 2 57 (by kernel_rfl) rfl).trans (hR 2 (by kernel_rfl))
                  have hq : W.cell? ⟨gt, 1, none⟩ = some (.int .u8 x.cls) := (HQT.out W hX).cell 1
                  refine wp_value (v := _) ?_ (hK _ _ rfl (Ext1.refl _ _ _ W))
                  simp only [execOp, e57]
                  go_simp
                · intro a vs W hX hR he hf K hK
                  rw [if_pos (wanted_none rfl)]
                  have e58 : a.eval (.tmp 58) = .int .u8 x.cls := (he 3 58 (by kernel_rfl) rfl).trans (hR 3 (by kernel_rfl))
                  refine wp_value (v := _) ?_ (hK _ _ rfl (Ext1.refl _ _ _ W))
                  simp only [execOp, e58]
                  go_simp
                  rw [MOD8.out]
                · intro a vs W hX hR he hf K hK
                  rw [if_pos (wanted_none rfl)]
                  have e56 : a.eval (.tmp 56) = .int .u8 x.ttl := (he 1 56 (by kernel_rfl) rfl).trans (hR 1 (by kernel_rfl))
                  have e59 : a.eval (.tmp 59) = .int .u8 (x.cls % 8) := (he 4 59 (by kernel_rfl) rfl).trans (hR 4 (by kernel_rfl))
                  have f56 := e56
                  simp only [Act.eval, Array.getD_eq_getD_getElem?] at f56
                  have f59 := e59
                  simp only [Act.eval, Array.getD_eq_getD_getElem?] at f59
                  refine wp_value (v := _) ?_ (hK _ _ rfl (Ext1.refl _ _ _ W))
                  simp only [execOp, e56, e59]
                  go_simp
                  try rfl
                · intro a vs W hX hR he hf K hK
                  rw [if_pos (wanted_none rfl)]
                  refine wp_value (v := .slice none 0 0) ?_ (hK _ _ rfl (Ext1.refl _ _ _ W))
                  simp only [execOp]
                  try go_simp
                  try (first | rfl | omega | (simp only [IntKind.wrap_i64, IntKind.wrap_u8, IntKind.wrap_u64, IntKind.wrap_u16, IntKind.wrap_u32]; omega) | (rw [Int.tmod_eq_emod_of_nonneg (by omega)]) | (rw [Int.tmod_eq_emod_of_nonneg (by omega)]; omega))
                · intro a vs W hX hR he hf K hK
                  rw [if_pos (wanted_none rfl)]
                  have e5 : a.eval (.tmp 5) = .pointer (some ⟨gf, 0, none⟩) := hf 5 (by kernel_rfl)
                  have e60 : a.eval (.tmp 60) = .agg (leftC (true, x.ttl, x.cls % 8)).toArray := (he 5 60 (by kernel_rfl) rfl).trans (hR 5 (by kernel_rfl))
                  obtain ⟨zs, hz, hbz⟩ := hX.there ⟨leftC (false, 0, 0), rfl, HFI.out.drew⟩
                  refine wp_store_all 32 _ _ rfl gf _ e5 e60 32 zs hbz (sizeLR _) hz.symm (oneLeft _) ?_
                  intro w' hb' hg' hs'
                  exact hK _ _ hb' (Ext1.store hg' hb')
                · intro a vs W hX hR he hf K hK
                  rw [if_pos (wanted_none rfl)]
                  refine wp_value (v := .int .i64 0) ?_ (hK _ _ rfl (Ext1.refl _ _ _ W))
                  simp only [execOp]
                  try go_simp
                  try (first | rfl | omega | (simp only [IntKind.wrap_i64, IntKind.wrap_u8, IntKind.wrap_u64, IntKind.wrap_u16, IntKind.wrap_u32]; omega) | (rw [Int.tmod_eq_emod_of_nonneg (by omega)]) | (rw [Int.tmod_eq_emod_of_nonneg (by omega)]; omega))
                · intro vs w17 hX17 hR
                  have q0 := hR 0 (by decide)
                  have q1 := hR 1 (by decide)
                  have q2 := hR 2 (by decide)
                  have q3 := hR 3 (by decide)
                  have q4 := hR 4 (by decide)
                  have q5 := hR 5 (by decide)
                  have q6 := hR 6 (by decide)
                  have q7 := hR 7 (by decide)
                  have q8 := hR 8 (by decide)
                  change vs 0 = .pointer (some ⟨gt, 3, none⟩) at q0
                  change vs 1 = .int .u8 x.ttl at q1
                  change vs 2 = .pointer (some ⟨gt, 1, none⟩) at q2
                  change vs 3 = .int .u8 x.cls at q3
                  change vs 4 = .int .u8 (x.cls % 8) at q4
                  change vs 5 = .agg (leftC (true, x.ttl, x.cls % 8)).toArray at q5
                  change vs 6 = .slice none 0 0 at q6
                  change (fun v W => Blk W gf 32 (leftC (true, x.ttl, x.cls % 8))) (vs 7) w17 at q7
                  change vs 8 = .int .i64 0 at q8
                  simp only [putAll, Act.put, List.setIfInBounds_toArray, List.set_cons_zero, List.set_cons_succ, q0, q1, q2, q3, q4, q5, q6, q8]
                  clear q0 q1 q2 q3 q4 q5 q6 q8
                  clear hR
                  go_wp2_with fail
                  have HWZ : Below w.heap.size w w17 := bgrown (w := w15.drew) (bthen HW.out (below_drew _)) hX17.grown (by have := HW.out.size; simpa using this) (by have := HGL.out; omega)
                  refine bodyPost_ret (results_mid rfl _ _ gf _ _ _ rfl q7 Try.underlying32 rfl (sizeLR _)) rfl ?_
                  exact ⟨none, 0, by rw [HV.out]; rfl, by rw [HV.out]; exact Own.nil _ _ _ _ _, HWZ⟩
              · have e1 : ((q : Int) == 0) = false := by simp; omega
                by_cases h16 : 16 < q
                · have h16i : (16 : Int) < (q : Int) := by omega
                  have HV : Hid (doF (x :: r) m = ([], (false, 0, 0), 51)) := Lib.hid (by rw [HDO.out]; exact fin_over x L (by rw [HQ.out]; exact h16))
                  have hbf := HFI.out
                  go_wp2_with (refine wpList_store_all (by rfl) 32 _ _ rfl gf (leftC (false, 0, 0)) rfl rfl 32 _ hbf (sizeLR _) rfl (oneLeft _) ?_; intro wZ hbZ hgZ hsZ)
                  have HWZ : Below w.heap.size w wZ := bgrown HW.out hgZ HW.out.size (by have := HGL.out; omega)
                  refine bodyPost_ret (results_mid rfl _ _ gf _ _ _ rfl hbZ Try.underlying32 rfl (sizeLR _)) rfl ?_
                  exact ⟨none, 0, by rw [HV.out]; rfl, by rw [HV.out]; exact Own.nil _ _ _ _ _, HWZ⟩
                · have h16i : ¬ (16 : Int) < (q : Int) := by omega
                  have HV : Hid (doF (x :: r) m = (L, (false, 0, 0), 0)) := Lib.hid (by rw [HDO.out]; exact fin_fit x L (by rw [HQ.out]; exact h16) (by rw [HQ.out]; exact hq0))
                  have hbf := HFI.out
                  go_wp2_with (refine wpList_store_all (by rfl) 32 _ _ rfl gf (leftC (false, 0, 0)) rfl rfl 32 _ hbf (sizeLR _) rfl (oneLeft _) ?_; intro wZ hbZ hgZ hsZ)
                  have HWZ : Below w.heap.size w wZ := bgrown HW.out hgZ HW.out.size (by have := HGL.out; omega)
                  refine bodyPost_ret (results_mid rfl _ _ gf _ _ _ rfl hbZ Try.underlying32 rfl (sizeLR _)) rfl ?_
                  have ho := HOWN.out
                  exact ⟨A', c', by rw [HV.out]; simp only [HQ.out]; rfl, by rw [HV.out]; simp only [HQ.out]; exact ho.kept hgZ (fun z hz => by have h1 := HOG.out z hz; have h2 := HGL.out; have h3 := HW4.out; intro e; injection e with e; omega), HWZ⟩
    · have hk0' : (k != 0) = true := by simpa [bne] using hk0
      have HV : Hid (doF (x :: r) m = ([], (false, 0, 0), 54)) := Lib.hid (by unfold doF; simp only [HC.out, HO.out]; simp [hk0])
      have hbf := HFI.out
      go_wp2_with (refine wpList_store_all (by rfl) 32 _ _ rfl gf (leftC (false, 0, 0)) rfl rfl 32 _ hbf (sizeLR _) rfl (oneLeft _) ?_; intro wZ hbZ hgZ hsZ)
      have HWZ : Below w.heap.size w wZ := bgrown HW.out hgZ HW.out.size (by have := HGL.out; omega)
      refine bodyPost_ret (results_mid rfl _ _ gf _ _ _ rfl hbZ Try.underlying32 rfl (sizeLR _)) rfl ?_
      exact ⟨none, 0, by rw [HV.out]; rfl, by rw [HV.out]; exact Own.nil _ _ _ _ _, HWZ⟩
end Go.Proofs.Ytmpaockaeoknmaa

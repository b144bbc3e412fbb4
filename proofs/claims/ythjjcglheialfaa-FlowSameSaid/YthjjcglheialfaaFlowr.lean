/- What the reference's key of a packet is. No condition but sizes. -/
import Derived.Test.YthjjcglheialfaaFlowo
namespace Go.Proofs.Ythjjcglheialfaa
open Go.RowKit
set_option linter.unusedVariables false
set_option maxRecDepth 20000
set_option linter.unusedSimpArgs false

theorem par4_off (l : List UInt8) : 0 ≤ (par4 l).1.off := by
  unfold par4
  repeat' split
  · simp [H4.zero]
  · simp [H4.zero]
  · simp [H4.zero]
  · simp [H4.zero]
  · exact Int.natCast_nonneg _
theorem whole4_iff (l : List UInt8) : whole4 l = true ↔ (par4 l).1.more = false ∧ ¬ 0 < (par4 l).1.off := by
  have h0 := par4_off l
  unfold whole4
  cases (par4 l).1.more
  · simp; omega
  · simp

set_option maxHeartbeats 4000000 in
theorem rof17_any (l : List UInt8) (w : World) (hn : l.length ≤ 1099511627776) :
    Calls Try.prog 9 #[str l] w fun e w' => e = .returned (.tuple #[.agg (ofK l).1.cells.toArray, .bool (ofK l).2]) ∧ Below w.heap.size w w' := by
  have P := fun W => rparse4_any l W hn
  have Q := fun W => rparse6_any l W hn
  have hok := par4_ok l
  have hok6 := par6_ok l
  have HOKK := Lib.hid (key4F_ok l)
  have HOKK6 := Lib.hid (key6F_ok l)
  have hwi := whole4_iff l
  obtain ⟨K0, hK0⟩ : ∃ K0, K0 = key4F l := ⟨_, rfl⟩
  have hKD : K0 = ⟨false, (par4 l).1.src ++ z12, (par4 l).1.dst ++ z12, (par4 l).1.pro, 0, 0⟩ := hK0
  obtain ⟨K6, hK6⟩ : ∃ K6, K6 = key6F l := ⟨_, rfl⟩
  have hKD6 : K6 = ⟨true, (par6 l).1.src, (par6 l).1.dst, (par6 l).1.next, 0, 0⟩ := hK6
  have hofk : ofK l = (if (par4 l).2 = 0 then (if whole4 l = true then portsF K0 (body4 l) else K0, true) else if (par6 l).2 = 0 then (portsF K6 (body6 l), true) else (Ky.zero, false)) := by rw [hK0, hK6]; rfl
  rw [← hK0] at HOKK
  rw [← hK6] at HOKK6
  cases hp : par4 l with
  | mk h4 er =>
  cases hq : par6 l with
  | mk h6 er6 =>
  rw [hp] at P hok hKD hofk hwi
  rw [hq] at Q hok6 hKD6 hofk
  simp only at P hok hKD hofk Q hok6 hKD6 hwi
  have HP := Lib.hid P
  have HQ := Lib.hid Q
  have HOK := Lib.hid hok
  have HOK6 := Lib.hid hok6
  have HS := Lib.hid (h4.drop_src hok)
  have HD := Lib.hid (h4.drop_dst hok)
  have HS6 := Lib.hid (h6.drop_src hok6)
  have HD6 := Lib.hid (h6.drop_dst hok6)
  have HKD := Lib.hid hKD
  have HKD6 := Lib.hid hKD6
  have HL1 : Hid ((h4.src ++ z12).length = 16) := Lib.hid (by simp [hok.src, z12])
  have HL2 : Hid ((h4.dst ++ z12).length = 16) := Lib.hid (by simp [hok.dst, z12])
  have HOF := Lib.hid hofk
  have HWI := Lib.hid hwi
  have hb4 : (body4 l).length ≤ 1099511627776 := by
    have : (body4 l).length ≤ l.length := by
      unfold body4
      split
      · simp only [List.length_drop, List.length_take]; omega
      · simp
    omega
  have hb6 : (body6 l).length ≤ 1099511627776 := by
    have : (body6 l).length ≤ l.length := by
      unfold body6
      split
      · simp only [List.length_drop, List.length_take]; omega
      · simp
    omega
  have HB4 := Lib.hid hb4
  have HB6 := Lib.hid hb6
  clear P Q hok hok6 hKD hKD6 hofk hp hq hK0 hK6 hb4 hb6 hwi
  by_cases he : er = 0
  · subst he
    go_enter Try.func9, Try.ntmps9
    go_wp2_with (refine wpList_alloc_blk rfl 29 rfl Ky.zero.cells zeroR ?_; intro w1 hb1 hB1 hs1)
    refine (HP.out w1).mono ?_
    rintro e w2 ⟨rfl, hb2⟩
    have hz2 := hb1.on hb2
    have hB2 := bthen hB1 hb2
    clear hb1 hB1 hs1 hb2
    go_wp2_with (first
      | (refine wpList_alloc_blk rfl 46 rfl H4.zero.cells zero4 ?_; intro w3 hbw3 hBw3 hsw3)
      | (refine wpList_store_all rfl 46 _ _ rfl w2.heap.size h4.cells rfl rfl 46 _ hbw3 (size4 _ HOK.out) (H4.cells_same _ _ HOK.out H4.zero_ok) (H4.one _) ?_; intro w4 hbw4 hgw4 hsw4; have hBw4 : Below w2.heap.size w2 w4 := bgrown hBw3 hgw4 (by omega) (by omega)))
    have hz4 := hz2.on hBw4
    have HH := Lib.hid hbw4
    have hB4 := bthen hB2 hBw4
    clear hz2 hbw3 hbw4 hBw3 hBw4 hgw4 hsw3 hsw4 hB2
    refine wp_region_last 10 (fun A B => A.grownBy B none) (fun A => grown_refl A _) (fun A B C h k => grown_trans h k) (relAt (List.cons (fun v _ => v = .pointer (some ⟨w2.heap.size, 8, none⟩)) (List.cons (fun v _ => v = .agg (bv h4.src).toArray) (List.cons (fun v _ => v = .agg (bv (h4.src ++ z12)).toArray) (List.cons (fun v _ => v = .pointer (some ⟨w2.heap.size, 12, none⟩)) (List.cons (fun v _ => v = .agg (bv h4.dst).toArray) (List.cons (fun v _ => v = .agg (bv (h4.dst ++ z12)).toArray) (List.cons (fun v _ => v = .pointer (some ⟨w2.heap.size, 7, none⟩)) (List.cons (fun v _ => v = .int .u8 h4.pro) (List.cons (fun v _ => v = .agg K0.cells.toArray) (List.cons (fun v W => ∃ g, v = .pointer (some ⟨g, 0, none⟩) ∧ w4.heap.size ≤ g ∧ Blk W g 29 Ky.zero.cells) ([])))))))))))) (MonoL.at_ (.cons (mono_val _) (.cons (mono_val _) (.cons (mono_val _) (.cons (mono_val _) (.cons (mono_val _) (.cons (mono_val _) (.cons (mono_val _) (.cons (mono_val _) (.cons (mono_val _) (.cons (fun _ _ _ ⟨g, hv, hg, hz⟩ hx => ⟨g, hv, hg, hz.on (grow_below hx)⟩) .nil))))))))))) (by kernel_rfl) (by kernel_rfl) rfl (by kernel_rfl) _ rfl rfl ⟨?_, ?_, ?_, ?_, ?_, ?_, ?_, ?_, ?_, ?_, trivial⟩ ?_
    · intro a vs W hX hR he hf K hK
      rw [if_pos (wanted_none rfl)]
      have e4 : a.eval (.tmp 4) = .pointer (some ⟨w2.heap.size, 0, none⟩) := hf 4 (by kernel_rfl)
      refine wp_value (v := .pointer (some ⟨w2.heap.size, 8, none⟩)) ?_ (hK _ _ rfl (grown_refl W _))
      simp only [execOp, e4]
      try go_simp
      try (first | rfl | omega | (simp only [IntKind.wrap_i64, IntKind.wrap_u8, IntKind.wrap_u64, IntKind.wrap_u16, IntKind.wrap_u32]; omega) | (rw [Int.tmod_eq_emod_of_nonneg (by omega)]) | (rw [Int.tmod_eq_emod_of_nonneg (by omega)]; omega))
    · intro a vs W hX hR he hf K hK
      rw [if_pos (wanted_none rfl)]
      have e16 : a.eval (.tmp 16) = .pointer (some ⟨w2.heap.size, 8, none⟩) := (he 0 16 (by kernel_rfl) rfl).trans (hR 0 (by kernel_rfl))
      have hbW := bthen (below_drew _) (grow_below hX)
      have hr := (HH.out.on hbW).range 8 4
      rw [HS.out] at hr
      exact wp_value (exec_load_mid 44 _ rfl w2.heap.size 8 e16 _ _ hr Try.underlying44 rfl (sizeA4 _ HOK.out.src)) (hK _ _ rfl (grown_refl W _))
    · intro a vs W hX hR he hf K hK
      rw [if_pos (wanted_none rfl)]
      have e17 : a.eval (.tmp 17) = .agg (bv h4.src).toArray := (he 1 17 (by kernel_rfl) rfl).trans (hR 1 (by kernel_rfl))
      refine wp_enter (f := 25) (args := #[.agg (bv h4.src).toArray]) (by simp only [execOp, e17]; go_simp; simpa [Act.eval] using e17) ((wide_any h4.src W HOK.out.src).mono ?_)
      rintro e w' ⟨rfl, hb⟩
      exact ⟨_, rfl, hK _ _ rfl (below_grow hb _)⟩
    · intro a vs W hX hR he hf K hK
      rw [if_pos (wanted_none rfl)]
      have e4 : a.eval (.tmp 4) = .pointer (some ⟨w2.heap.size, 0, none⟩) := hf 4 (by kernel_rfl)
      refine wp_value (v := .pointer (some ⟨w2.heap.size, 12, none⟩)) ?_ (hK _ _ rfl (grown_refl W _))
      simp only [execOp, e4]
      try go_simp
      try (first | rfl | omega | (simp only [IntKind.wrap_i64, IntKind.wrap_u8, IntKind.wrap_u64, IntKind.wrap_u16, IntKind.wrap_u32]; omega) | (rw [Int.tmod_eq_emod_of_nonneg (by omega)]) | (rw [Int.tmod_eq_emod_of_nonneg (by omega)]; omega))
    · intro a vs W hX hR he hf K hK
      rw [if_pos (wanted_none rfl)]
      have e19 : a.eval (.tmp 19) = .pointer (some ⟨w2.heap.size, 12, none⟩) := (he 3 19 (by kernel_rfl) rfl).trans (hR 3 (by kernel_rfl))
      have hbW := bthen (below_drew _) (grow_below hX)
      have hr := (HH.out.on hbW).range 12 4
      rw [HD.out] at hr
      exact wp_value (exec_load_mid 44 _ rfl w2.heap.size 12 e19 _ _ hr Try.underlying44 rfl (sizeA4 _ HOK.out.dst)) (hK _ _ rfl (grown_refl W _))
    · intro a vs W hX hR he hf K hK
      rw [if_pos (wanted_none rfl)]
      have e20 : a.eval (.tmp 20) = .agg (bv h4.dst).toArray := (he 4 20 (by kernel_rfl) rfl).trans (hR 4 (by kernel_rfl))
      refine wp_enter (f := 25) (args := #[.agg (bv h4.dst).toArray]) (by simp only [execOp, e20]; go_simp; simpa [Act.eval] using e20) ((wide_any h4.dst W HOK.out.dst).mono ?_)
      rintro e w' ⟨rfl, hb⟩
      exact ⟨_, rfl, hK _ _ rfl (below_grow hb _)⟩
    · intro a vs W hX hR he hf K hK
      rw [if_pos (wanted_none rfl)]
      have e4 : a.eval (.tmp 4) = .pointer (some ⟨w2.heap.size, 0, none⟩) := hf 4 (by kernel_rfl)
      refine wp_value (v := .pointer (some ⟨w2.heap.size, 7, none⟩)) ?_ (hK _ _ rfl (grown_refl W _))
      simp only [execOp, e4]
      try go_simp
      try (first | rfl | omega | (simp only [IntKind.wrap_i64, IntKind.wrap_u8, IntKind.wrap_u64, IntKind.wrap_u16, IntKind.wrap_u32]; omega) | (rw [Int.tmod_eq_emod_of_nonneg (by omega)]) | (rw [Int.tmod_eq_emod_of_nonneg (by omega)]; omega))
    · intro a vs W hX hR he hf K hK
      rw [if_pos (wanted_none rfl)]
      have e22 : a.eval (.tmp 22) = .pointer (some ⟨w2.heap.size, 7, none⟩) := (he 6 22 (by kernel_rfl) rfl).trans (hR 6 (by kernel_rfl))
      have hbW := bthen (below_drew _) (grow_below hX)
      have hc : W.cell? ⟨w2.heap.size, 7, none⟩ = some (.int .u8 h4.pro) := (HH.out.on hbW).cell 7
      refine wp_value (v := _) ?_ (hK _ _ rfl (grown_refl W _))
      simp only [execOp, e22]
      try go_simp
    · intro a vs W hX hR he hf K hK
      rw [if_pos (wanted_none rfl)]
      have e18 : a.eval (.tmp 18) = .agg (bv (h4.src ++ z12)).toArray := (he 2 18 (by kernel_rfl) rfl).trans (hR 2 (by kernel_rfl))
      have e21 : a.eval (.tmp 21) = .agg (bv (h4.dst ++ z12)).toArray := (he 5 21 (by kernel_rfl) rfl).trans (hR 5 (by kernel_rfl))
      have e23 : a.eval (.tmp 23) = .int .u8 h4.pro := (he 7 23 (by kernel_rfl) rfl).trans (hR 7 (by kernel_rfl))
      have f18 := e18
      simp only [Act.eval, Array.getD_eq_getD_getElem?] at f18
      have f21 := e21
      simp only [Act.eval, Array.getD_eq_getD_getElem?] at f21
      have f23 := e23
      simp only [Act.eval, Array.getD_eq_getD_getElem?] at f23
      exact wp_value (exec_buildR4 _ _ _ rfl _ _ _ HL1.out HL2.out e18 e21 e23) (hK _ _ (congrArg (fun k : Ky => Value.agg k.cells.toArray) HKD.out.symm) (grown_refl W _))
    · intro a vs W hX hR he hf K hK
      rw [if_pos (wanted_none rfl)]
      refine wp_alloc_blk 29 rfl Ky.zero.cells zeroR ?_
      intro g w' hbg hb' hs' hgs
      exact hK _ _ ⟨g, rfl, by rw [hgs]; exact (grow_below hX).size, hbg⟩ (below_grow hb' _)
    · intro vs w5 hX5 hR
      have q0 := hR 0 (by decide)
      have q1 := hR 1 (by decide)
      have q2 := hR 2 (by decide)
      have q3 := hR 3 (by decide)
      have q4 := hR 4 (by decide)
      have q5 := hR 5 (by decide)
      have q6 := hR 6 (by decide)
      have q7 := hR 7 (by decide)
      have q8 := hR 8 (by decide)
      have q9 := hR 9 (by decide)
      change vs 0 = .pointer (some ⟨w2.heap.size, 8, none⟩) at q0
      change vs 1 = .agg (bv h4.src).toArray at q1
      change vs 2 = .agg (bv (h4.src ++ z12)).toArray at q2
      change vs 3 = .pointer (some ⟨w2.heap.size, 12, none⟩) at q3
      change vs 4 = .agg (bv h4.dst).toArray at q4
      change vs 5 = .agg (bv (h4.dst ++ z12)).toArray at q5
      change vs 6 = .pointer (some ⟨w2.heap.size, 7, none⟩) at q6
      change vs 7 = .int .u8 h4.pro at q7
      change vs 8 = .agg K0.cells.toArray at q8
      change (fun v W => ∃ g, v = .pointer (some ⟨g, 0, none⟩) ∧ w4.heap.size ≤ g ∧ Blk W g 29 Ky.zero.cells) (vs 9) w5 at q9
      simp only [putAll, Act.put, List.setIfInBounds_toArray, List.set_cons_zero, List.set_cons_succ, List.take_succ_cons, List.take_zero, q0, q1, q2, q3, q4, q5, q6, q7, q8]
      clear q0 q1 q2 q3 q4 q5 q6 q7 q8
      clear hR
      obtain ⟨g, hv, hg, hbg⟩ := q9
      rw [hv]
      have hz5 := hz4.on (bthen (below_drew _) (grow_below hX5))
      have hh5 := HH.out.on (bthen (below_drew _) (grow_below hX5))
      have hB5 := bthen hB4 (bthen (below_drew _) (grow_below hX5))
      have hgz : w.heap.size ≠ g := by have := hz4.lt; omega
      have hgh : w2.heap.size ≠ g := by have := HH.out.lt; omega
      have hgB : w.heap.size ≤ g := by have := hz4.lt; omega
      refine wp_store_all 29 _ _ rfl g _ rfl rfl 29 _ hbg (sizeR _ HOKK.out) (Ky.cells_same _ _ HOKK.out Ky.zero_ok) (Ky.one _) ?_
      intro w6 hk6 hg6 hs6
      have hz6 := hz5.grown hg6 (fun e => hgz (by injection e))
      have hh6 := hh5.grown hg6 (fun e => hgh (by injection e))
      have hB6 : Below w.heap.size w w6 := bgrown hB5 hg6 hB5.size hgB
      clear hz5 hh5 hB5 hX5 hv hbg hg6 hs6 hz4 hB4
      try simp only [List.getElem_toArray, List.getElem_cons_succ, List.getElem_cons_zero, Act.put, List.setIfInBounds_toArray, List.set_cons_zero, List.set_cons_succ]
      have c4 : w6.cell? ⟨w2.heap.size, 4, none⟩ = some (.bool h4.more) := hh6.cell 4
      have c5 : w6.cell? ⟨w2.heap.size, 5, none⟩ = some (.int .i64 h4.off) := hh6.cell 5
      have HK6' := Lib.hid hk6
      have HZ6 := Lib.hid hz6
      clear hk6 hz6 hh6 HH
      have hcs : (h4.more = true) ∨ (h4.more = false ∧ 0 < h4.off) ∨ (h4.more = false ∧ ¬ 0 < h4.off) := by
        cases h4.more
        · by_cases h0 : 0 < h4.off
          · exact .inr (.inl ⟨rfl, h0⟩)
          · exact .inr (.inr ⟨rfl, h0⟩)
        · exact .inl rfl
      have hnw : ∀ b : Bool, whole4 l = b → ofK l = (if b = true then portsF K0 (body4 l) else K0, true) := fun b hb => by rw [HOF.out, if_pos trivial, hb]
      have HNW := Lib.hid hnw
      clear hnw
      rcases hcs with m1 | ⟨m1, m2⟩ | ⟨m1, m2⟩
      · have HW : Hid (ofK l = (K0, true)) := Lib.hid (by
          have hw : whole4 l = false := by
            cases hw : whole4 l
            · rfl
            · exact absurd (HWI.out.1 hw) (by rintro ⟨a, b⟩; rw [m1] at a; cases a)
          rw [HNW.out false hw]; rfl)
        go_wp2_with (first
          | (refine wpList_load_blk rfl 29 _ rfl g rfl 29 _ _ HK6'.out Try.underlying29 rfl (sizeR _ HOKK.out) ?_)
          | (refine wpList_store_all rfl 29 _ _ rfl w.heap.size _ rfl rfl 29 _ HZ6.out (sizeR _ HOKK.out) (Ky.cells_same _ _ HOKK.out Ky.zero_ok) (Ky.one _) ?_; intro w9 hb9 hg9 hs9))
        refine bodyPost_ret (results_cell2 rfl _ _ w.heap.size _ _ _ rfl hb9 Try.underlying29 rfl (sizeR _ HOKK.out)) rfl ?_
        exact ⟨by rw [HW.out]; rfl, bgrown hB6 hg9 hB6.size (by omega)⟩
      · have HW : Hid (ofK l = (K0, true)) := Lib.hid (by
          have hw : whole4 l = false := by
            cases hw : whole4 l
            · rfl
            · exact absurd (HWI.out.1 hw) (by rintro ⟨a, b⟩; omega)
          rw [HNW.out false hw]; rfl)
        go_wp2_with (first
          | (refine wpList_load_blk rfl 29 _ rfl g rfl 29 _ _ HK6'.out Try.underlying29 rfl (sizeR _ HOKK.out) ?_)
          | (refine wpList_store_all rfl 29 _ _ rfl w.heap.size _ rfl rfl 29 _ HZ6.out (sizeR _ HOKK.out) (Ky.cells_same _ _ HOKK.out Ky.zero_ok) (Ky.one _) ?_; intro w9 hb9 hg9 hs9))
        refine bodyPost_ret (results_cell2 rfl _ _ w.heap.size _ _ _ rfl hb9 Try.underlying29 rfl (sizeR _ HOKK.out)) rfl ?_
        exact ⟨by rw [HW.out]; rfl, bgrown hB6 hg9 hB6.size (by omega)⟩
      · have HW : Hid (ofK l = (portsF K0 (body4 l), true)) := Lib.hid (by
          rw [HNW.out true (HWI.out.2 ⟨m1, by omega⟩)]; rfl)
        have HPK : Hid ((portsF K0 (body4 l)).ok) := Lib.hid (portsF_ok K0 HOKK.out _)
        go_wp2_with fail
        refine wp_region_rel (Ext1 w.heap.size 29 (portsF K0 (body4 l)).cells) (Ext1.refl w.heap.size 29 (portsF K0 (body4 l)).cells) (fun A B C h k => h.trans k) (relAt (List.cons (fun v _ => v = .agg K0.cells.toArray) (List.cons (fun v _ => v = str l) (List.cons (fun v _ => v = str (body4 l)) (List.cons (fun v _ => v = .agg (portsF K0 (body4 l)).cells.toArray) (List.cons (fun _ W => Blk W w.heap.size 29 (portsF K0 (body4 l)).cells) (List.cons (fun v _ => v = .bool true) ([])))))))) (MonoL.at_ (.cons (mono_val _) (.cons (mono_val _) (.cons (mono_val _) (.cons (mono_val _) (.cons (fun _ A B h hx => hx.stays h) (.cons (mono_val _) .nil))))))) (by kernel_rfl) (by kernel_rfl) ⟨?_, ?_, ?_, ?_, ?_, ?_, trivial⟩ ?_
        · intro a vs W hX hR he hf K hK
          rw [if_pos (wanted_none rfl)]
          have e6 : a.eval (.tmp 6) = .pointer (some ⟨g, 0, none⟩) := hf 6 (by kernel_rfl)
          have hkW := (HK6'.out.drew).grown hX.grown (fun e => hgz (by injection e with e; exact e.symm))
          exact wp_value (exec_load 29 _ rfl g e6 29 _ _ hkW Try.underlying29 rfl (sizeR _ HOKK.out)) (hK _ _ rfl (Ext1.refl _ _ _ W))
        · intro a vs W hX hR he hf K hK
          rw [if_pos (wanted_none rfl)]
          have e0 : a.eval (.tmp 0) = str l := hf 0 (by kernel_rfl)
          refine wp_value (v := str l) ?_ (hK _ _ rfl (Ext1.refl _ _ _ W))
          simp only [execOp, e0]
          try go_simp
          try (first | rfl | omega | (simp only [IntKind.wrap_i64, IntKind.wrap_u8, IntKind.wrap_u64, IntKind.wrap_u16, IntKind.wrap_u32]; omega) | (rw [Int.tmod_eq_emod_of_nonneg (by omega)]) | (rw [Int.tmod_eq_emod_of_nonneg (by omega)]; omega))
        · intro a vs W hX hR he hf K hK
          rw [if_pos (wanted_none rfl)]
          have e34 : a.eval (.tmp 34) = str l := (he 1 34 (by kernel_rfl) rfl).trans (hR 1 (by kernel_rfl))
          refine wp_enter (f := 27) (args := #[str l]) (by simp only [execOp, e34]; go_simp; simpa [Act.eval] using e34) ((rbody4_any l W hn).mono ?_)
          rintro e w' ⟨rfl, hb⟩
          exact ⟨_, rfl, hK _ _ rfl (Ext1.below hb)⟩
        · intro a vs W hX hR he hf K hK
          rw [if_pos (wanted_none rfl)]
          have e33 : a.eval (.tmp 33) = .agg K0.cells.toArray := (he 0 33 (by kernel_rfl) rfl).trans (hR 0 (by kernel_rfl))
          have e35 : a.eval (.tmp 35) = str (body4 l) := (he 2 35 (by kernel_rfl) rfl).trans (hR 2 (by kernel_rfl))
          refine wp_enter (f := 26) (args := #[.agg K0.cells.toArray, str (body4 l)]) (by simp only [execOp, e33, e35]; go_simp; exact ⟨by simpa [Act.eval] using e33, by simpa [Act.eval] using e35⟩) ((ports_any K0 HOKK.out (body4 l) W HB4.out).mono ?_)
          rintro e w' ⟨rfl, hb⟩
          exact ⟨_, rfl, hK _ _ rfl (Ext1.below hb)⟩
        · intro a vs W hX hR he hf K hK
          rw [if_pos (wanted_none rfl)]
          have e2 : a.eval (.tmp 2) = .pointer (some ⟨w.heap.size, 0, none⟩) := hf 2 (by kernel_rfl)
          have e36 : a.eval (.tmp 36) = .agg (portsF K0 (body4 l)).cells.toArray := (he 3 36 (by kernel_rfl) rfl).trans (hR 3 (by kernel_rfl))
          obtain ⟨zs, hz, hbz⟩ := hX.there ⟨_, Ky.cells_same _ _ Ky.zero_ok HPK.out, HZ6.out.drew⟩
          refine wp_store_all 29 _ _ rfl w.heap.size _ e2 e36 29 zs hbz (sizeR _ HPK.out) hz.symm (Ky.one _) ?_
          intro w' hb' hg' hs'
          exact hK _ _ hb' (Ext1.store hg' hb')
        · intro a vs W hX hR he hf K hK
          rw [if_pos (wanted_none rfl)]
          refine wp_value (v := .bool true) ?_ (hK _ _ rfl (Ext1.refl _ _ _ W))
          simp only [execOp]
          try go_simp
          try (first | rfl | omega | (simp only [IntKind.wrap_i64, IntKind.wrap_u8, IntKind.wrap_u64, IntKind.wrap_u16, IntKind.wrap_u32]; omega) | (rw [Int.tmod_eq_emod_of_nonneg (by omega)]) | (rw [Int.tmod_eq_emod_of_nonneg (by omega)]; omega))
        · intro vs w8 hX8 hR
          have q0 := hR 0 (by decide)
          have q1 := hR 1 (by decide)
          have q2 := hR 2 (by decide)
          have q3 := hR 3 (by decide)
          have q4 := hR 4 (by decide)
          have q5 := hR 5 (by decide)
          change vs 0 = .agg K0.cells.toArray at q0
          change vs 1 = str l at q1
          change vs 2 = str (body4 l) at q2
          change vs 3 = .agg (portsF K0 (body4 l)).cells.toArray at q3
          change (fun _ W => Blk W w.heap.size 29 (portsF K0 (body4 l)).cells) (vs 4) w8 at q4
          change vs 5 = .bool true at q5
          simp only [putAll, Act.put, List.setIfInBounds_toArray, List.set_cons_zero, List.set_cons_succ, q0, q1, q2, q3, q5]
          clear q0 q1 q2 q3 q5
          clear hR
          have hg := hX8.grown
          go_wp2
          refine bodyPost_ret (results_cell2 rfl _ _ w.heap.size _ _ _ rfl q4 Try.underlying29 rfl (sizeR _ HPK.out)) rfl ?_
          exact ⟨by rw [HW.out]; rfl, (below_drewN hB6 1).grown hg hB6.size (fun k hk => by injection hk with hk; omega)⟩
  · have hne : (er == 0) = false := by simpa using he
    have HNE := Lib.hid he
    clear he
    go_enter Try.func9, Try.ntmps9
    go_wp2_with (refine wpList_alloc_blk rfl 29 rfl Ky.zero.cells zeroR ?_; intro w1 hb1 hB1 hs1)
    refine (HP.out w1).mono ?_
    rintro e w2 ⟨rfl, hb2⟩
    have hz2 := hb1.on hb2
    have hB2 := bthen hB1 hb2
    clear hb1 hB1 hs1 hb2
    go_wp2_with (first
      | (refine wpList_alloc_blk rfl 46 rfl H4.zero.cells zero4 ?_; intro w3 hbw3 hBw3 hsw3)
      | (refine wpList_store_all rfl 46 _ _ rfl w2.heap.size h4.cells rfl rfl 46 _ hbw3 (size4 _ HOK.out) (H4.cells_same _ _ HOK.out H4.zero_ok) (H4.one _) ?_; intro w4 hbw4 hgw4 hsw4; have hBw4 : Below w2.heap.size w2 w4 := bgrown hBw3 hgw4 (by omega) (by omega)))
    have hz4 := hz2.on hBw4
    have hB4 := bthen hB2 hBw4
    clear hz2 hbw3 hbw4 hBw3 hBw4 hgw4 hsw3 hsw4 hB2
    refine (HQ.out w4).mono ?_
    rintro e w5 ⟨rfl, hb5⟩
    have hz5 := hz4.on hb5
    have hB5 := bthen hB4 hb5
    clear hz4 hB4 hb5
    by_cases he6 : er6 = 0
    · subst he6
      go_wp2_with (first
        | (refine wpList_alloc_blk rfl 48 rfl H6.zero.cells zero6 ?_; intro w6 hbw6 hBw6 hsw6)
        | (refine wpList_store_all rfl 48 _ _ rfl w5.heap.size h6.cells rfl rfl 48 _ hbw6 (size6 _ HOK6.out) (H6.cells_same _ _ HOK6.out H6.zero_ok) (H6.one _) ?_; intro w7 hbw7 hgw7 hsw7; have hBw7 : Below w5.heap.size w5 w7 := bgrown hBw6 hgw7 (by omega) (by omega)))
      have HZ7 := Lib.hid (hz5.on hBw7)
      have HH := Lib.hid hbw7
      have hB7 := bthen hB5 hBw7
      have hgz : w.heap.size ≠ w5.heap.size := by have := hz5.lt; omega
      clear hz5 hbw6 hbw7 hBw6 hBw7 hgw7 hsw6 hsw7 hB5
      have HW : Hid (ofK l = (portsF K6 (body6 l), true)) := Lib.hid (by rw [HOF.out, if_neg HNE.out, if_pos trivial])
      have HPK : Hid ((portsF K6 (body6 l)).ok) := Lib.hid (portsF_ok K6 HOKK6.out _)
      refine wp_region_rel (Ext1 w.heap.size 29 (portsF K6 (body6 l)).cells) (Ext1.refl w.heap.size 29 (portsF K6 (body6 l)).cells) (fun A B C h k => h.trans k) (relAt (List.cons (fun v _ => v = .pointer (some ⟨w5.heap.size, 5, none⟩)) (List.cons (fun v _ => v = .agg (bv h6.src).toArray) (List.cons (fun v _ => v = .pointer (some ⟨w5.heap.size, 21, none⟩)) (List.cons (fun v _ => v = .agg (bv h6.dst).toArray) (List.cons (fun v _ => v = .pointer (some ⟨w5.heap.size, 3, none⟩)) (List.cons (fun v _ => v = .int .u8 h6.next) (List.cons (fun v _ => v = .agg K6.cells.toArray) (List.cons (fun v _ => v = str l) (List.cons (fun v _ => v = str (body6 l)) (List.cons (fun v _ => v = .agg (portsF K6 (body6 l)).cells.toArray) (List.cons (fun _ W => Blk W w.heap.size 29 (portsF K6 (body6 l)).cells) (List.cons (fun v _ => v = .bool true) ([])))))))))))))) (MonoL.at_ (.cons (mono_val _) (.cons (mono_val _) (.cons (mono_val _) (.cons (mono_val _) (.cons (mono_val _) (.cons (mono_val _) (.cons (mono_val _) (.cons (mono_val _) (.cons (mono_val _) (.cons (mono_val _) (.cons (fun _ A B h hx => hx.stays h) (.cons (mono_val _) .nil))))))))))))) (by kernel_rfl) (by kernel_rfl) ⟨?_, ?_, ?_, ?_, ?_, ?_, ?_, ?_, ?_, ?_, ?_, ?_, trivial⟩ ?_
      · intro a vs W hX hR he hf K hK
        rw [if_pos (wanted_none rfl)]
        have e7 : a.eval (.tmp 7) = .pointer (some ⟨w5.heap.size, 0, none⟩) := hf 7 (by kernel_rfl)
        refine wp_value (v := .pointer (some ⟨w5.heap.size, 5, none⟩)) ?_ (hK _ _ rfl (Ext1.refl _ _ _ W))
        simp only [execOp, e7]
        try go_simp
        try (first | rfl | omega | (simp only [IntKind.wrap_i64, IntKind.wrap_u8, IntKind.wrap_u64, IntKind.wrap_u16, IntKind.wrap_u32]; omega) | (rw [Int.tmod_eq_emod_of_nonneg (by omega)]) | (rw [Int.tmod_eq_emod_of_nonneg (by omega)]; omega))
      · intro a vs W hX hR he hf K hK
        rw [if_pos (wanted_none rfl)]
        have e44 : a.eval (.tmp 44) = .pointer (some ⟨w5.heap.size, 5, none⟩) := (he 0 44 (by kernel_rfl) rfl).trans (hR 0 (by kernel_rfl))
        have hhW := (HH.out.drew).grown hX.grown (fun e => hgz (by injection e with e; exact e.symm))
        have hr := hhW.range 5 16
        rw [HS6.out] at hr
        exact wp_value (exec_load_mid 24 _ rfl w5.heap.size 5 e44 _ _ hr Try.underlying24 rfl (size24 _ HOK6.out.src)) (hK _ _ rfl (Ext1.refl _ _ _ W))
      · intro a vs W hX hR he hf K hK
        rw [if_pos (wanted_none rfl)]
        have e7 : a.eval (.tmp 7) = .pointer (some ⟨w5.heap.size, 0, none⟩) := hf 7 (by kernel_rfl)
        refine wp_value (v := .pointer (some ⟨w5.heap.size, 21, none⟩)) ?_ (hK _ _ rfl (Ext1.refl _ _ _ W))
        simp only [execOp, e7]
        try go_simp
        try (first | rfl | omega | (simp only [IntKind.wrap_i64, IntKind.wrap_u8, IntKind.wrap_u64, IntKind.wrap_u16, IntKind.wrap_u32]; omega) | (rw [Int.tmod_eq_emod_of_nonneg (by omega)]) | (rw [Int.tmod_eq_emod_of_nonneg (by omega)]; omega))
      · intro a vs W hX hR he hf K hK
        rw [if_pos (wanted_none rfl)]
        have e46 : a.eval (.tmp 46) = .pointer (some ⟨w5.heap.size, 21, none⟩) := (he 2 46 (by kernel_rfl) rfl).trans (hR 2 (by kernel_rfl))
        have hhW := (HH.out.drew).grown hX.grown (fun e => hgz (by injection e with e; exact e.symm))
        have hr := hhW.range 21 16
        rw [HD6.out] at hr
        exact wp_value (exec_load_mid 24 _ rfl w5.heap.size 21 e46 _ _ hr Try.underlying24 rfl (size24 _ HOK6.out.dst)) (hK _ _ rfl (Ext1.refl _ _ _ W))
      · intro a vs W hX hR he hf K hK
        rw [if_pos (wanted_none rfl)]
        have e7 : a.eval (.tmp 7) = .pointer (some ⟨w5.heap.size, 0, none⟩) := hf 7 (by kernel_rfl)
        refine wp_value (v := .pointer (some ⟨w5.heap.size, 3, none⟩)) ?_ (hK _ _ rfl (Ext1.refl _ _ _ W))
        simp only [execOp, e7]
        try go_simp
        try (first | rfl | omega | (simp only [IntKind.wrap_i64, IntKind.wrap_u8, IntKind.wrap_u64, IntKind.wrap_u16, IntKind.wrap_u32]; omega) | (rw [Int.tmod_eq_emod_of_nonneg (by omega)]) | (rw [Int.tmod_eq_emod_of_nonneg (by omega)]; omega))
      · intro a vs W hX hR he hf K hK
        rw [if_pos (wanted_none rfl)]
        have e48 : a.eval (.tmp 48) = .pointer (some ⟨w5.heap.size, 3, none⟩) := (he 4 48 (by kernel_rfl) rfl).trans (hR 4 (by kernel_rfl))
        have hhW := (HH.out.drew).grown hX.grown (fun e => hgz (by injection e with e; exact e.symm))
        have hc : W.cell? ⟨w5.heap.size, 3, none⟩ = some (.int .u8 h6.next) := hhW.cell 3
        refine wp_value (v := _) ?_ (hK _ _ rfl (Ext1.refl _ _ _ W))
        simp only [execOp, e48]
        try go_simp
      · intro a vs W hX hR he hf K hK
        rw [if_pos (wanted_none rfl)]
        have e45 : a.eval (.tmp 45) = .agg (bv h6.src).toArray := (he 1 45 (by kernel_rfl) rfl).trans (hR 1 (by kernel_rfl))
        have e47 : a.eval (.tmp 47) = .agg (bv h6.dst).toArray := (he 3 47 (by kernel_rfl) rfl).trans (hR 3 (by kernel_rfl))
        have e49 : a.eval (.tmp 49) = .int .u8 h6.next := (he 5 49 (by kernel_rfl) rfl).trans (hR 5 (by kernel_rfl))
        have f45 := e45
        simp only [Act.eval, Array.getD_eq_getD_getElem?] at f45
        have f47 := e47
        simp only [Act.eval, Array.getD_eq_getD_getElem?] at f47
        have f49 := e49
        simp only [Act.eval, Array.getD_eq_getD_getElem?] at f49
        exact wp_value (exec_buildR6 _ _ _ _ rfl _ _ _ HOK6.out.src HOK6.out.dst rfl e45 e47 e49) (hK _ _ (congrArg (fun k : Ky => Value.agg k.cells.toArray) HKD6.out.symm) (Ext1.refl _ _ _ W))
      · intro a vs W hX hR he hf K hK
        rw [if_pos (wanted_none rfl)]
        have e0 : a.eval (.tmp 0) = str l := hf 0 (by kernel_rfl)
        refine wp_value (v := str l) ?_ (hK _ _ rfl (Ext1.refl _ _ _ W))
        simp only [execOp, e0]
        try go_simp
        try (first | rfl | omega | (simp only [IntKind.wrap_i64, IntKind.wrap_u8, IntKind.wrap_u64, IntKind.wrap_u16, IntKind.wrap_u32]; omega) | (rw [Int.tmod_eq_emod_of_nonneg (by omega)]) | (rw [Int.tmod_eq_emod_of_nonneg (by omega)]; omega))
      · intro a vs W hX hR he hf K hK
        rw [if_pos (wanted_none rfl)]
        have e51 : a.eval (.tmp 51) = str l := (he 7 51 (by kernel_rfl) rfl).trans (hR 7 (by kernel_rfl))
        refine wp_enter (f := 29) (args := #[str l]) (by simp only [execOp, e51]; go_simp; simpa [Act.eval] using e51) ((rbody6_any l W hn).mono ?_)
        rintro e w' ⟨rfl, hb⟩
        exact ⟨_, rfl, hK _ _ rfl (Ext1.below hb)⟩
      · intro a vs W hX hR he hf K hK
        rw [if_pos (wanted_none rfl)]
        have e50 : a.eval (.tmp 50) = .agg K6.cells.toArray := (he 6 50 (by kernel_rfl) rfl).trans (hR 6 (by kernel_rfl))
        have e52 : a.eval (.tmp 52) = str (body6 l) := (he 8 52 (by kernel_rfl) rfl).trans (hR 8 (by kernel_rfl))
        refine wp_enter (f := 26) (args := #[.agg K6.cells.toArray, str (body6 l)]) (by simp only [execOp, e50, e52]; go_simp; exact ⟨by simpa [Act.eval] using e50, by simpa [Act.eval] using e52⟩) ((ports_any K6 HOKK6.out (body6 l) W HB6.out).mono ?_)
        rintro e w' ⟨rfl, hb⟩
        exact ⟨_, rfl, hK _ _ rfl (Ext1.below hb)⟩
      · intro a vs W hX hR he hf K hK
        rw [if_pos (wanted_none rfl)]
        have e2 : a.eval (.tmp 2) = .pointer (some ⟨w.heap.size, 0, none⟩) := hf 2 (by kernel_rfl)
        have e53 : a.eval (.tmp 53) = .agg (portsF K6 (body6 l)).cells.toArray := (he 9 53 (by kernel_rfl) rfl).trans (hR 9 (by kernel_rfl))
        obtain ⟨zs, hz, hbz⟩ := hX.there ⟨_, Ky.cells_same _ _ Ky.zero_ok HPK.out, HZ7.out.drew⟩
        refine wp_store_all 29 _ _ rfl w.heap.size _ e2 e53 29 zs hbz (sizeR _ HPK.out) hz.symm (Ky.one _) ?_
        intro w' hb' hg' hs'
        exact hK _ _ hb' (Ext1.store hg' hb')
      · intro a vs W hX hR he hf K hK
        rw [if_pos (wanted_none rfl)]
        refine wp_value (v := .bool true) ?_ (hK _ _ rfl (Ext1.refl _ _ _ W))
        simp only [execOp]
        try go_simp
        try (first | rfl | omega | (simp only [IntKind.wrap_i64, IntKind.wrap_u8, IntKind.wrap_u64, IntKind.wrap_u16, IntKind.wrap_u32]; omega) | (rw [Int.tmod_eq_emod_of_nonneg (by omega)]) | (rw [Int.tmod_eq_emod_of_nonneg (by omega)]; omega))
      · intro vs w8 hX8 hR
        have q0 := hR 0 (by decide)
        have q1 := hR 1 (by decide)
        have q2 := hR 2 (by decide)
        have q3 := hR 3 (by decide)
        have q4 := hR 4 (by decide)
        have q5 := hR 5 (by decide)
        have q6 := hR 6 (by decide)
        have q7 := hR 7 (by decide)
        have q8 := hR 8 (by decide)
        have q9 := hR 9 (by decide)
        have q10 := hR 10 (by decide)
        have q11 := hR 11 (by decide)
        change vs 0 = .pointer (some ⟨w5.heap.size, 5, none⟩) at q0
        change vs 1 = .agg (bv h6.src).toArray at q1
        change vs 2 = .pointer (some ⟨w5.heap.size, 21, none⟩) at q2
        change vs 3 = .agg (bv h6.dst).toArray at q3
        change vs 4 = .pointer (some ⟨w5.heap.size, 3, none⟩) at q4
        change vs 5 = .int .u8 h6.next at q5
        change vs 6 = .agg K6.cells.toArray at q6
        change vs 7 = str l at q7
        change vs 8 = str (body6 l) at q8
        change vs 9 = .agg (portsF K6 (body6 l)).cells.toArray at q9
        change (fun _ W => Blk W w.heap.size 29 (portsF K6 (body6 l)).cells) (vs 10) w8 at q10
        change vs 11 = .bool true at q11
        simp only [putAll, Act.put, List.setIfInBounds_toArray, List.set_cons_zero, List.set_cons_succ, q0, q1, q2, q3, q4, q5, q6, q7, q8, q9, q11]
        clear q0 q1 q2 q3 q4 q5 q6 q7 q8 q9 q11
        clear hR
        have hg := hX8.grown
        go_wp2
        refine bodyPost_ret (results_cell2 rfl _ _ w.heap.size _ _ _ rfl q10 Try.underlying29 rfl (sizeR _ HPK.out)) rfl ?_
        exact ⟨by rw [HW.out]; rfl, (below_drewN hB7 1).grown hg hB7.size (fun k hk => by injection hk with hk; omega)⟩
    · have hne6 : (er6 == 0) = false := by simpa using he6
      have HNE6 := Lib.hid he6
      clear he6
      go_wp2_with (first
        | (refine wpList_value rfl (exec_buildRz rfl) ?_)
        | (refine wpList_store_all rfl 29 _ _ rfl w.heap.size _ rfl rfl 29 _ hz7 (sizeR _ Ky.zero_ok) rfl (Ky.one _) ?_; intro w9 hb9 hg9 hs9)
        | (refine wpList_alloc_blk rfl 48 rfl H6.zero.cells zero6 ?_; intro w6 hbw6 hBw6 hsw6)
        | (refine wpList_store_all rfl 48 _ _ rfl w5.heap.size h6.cells rfl rfl 48 _ hbw6 (size6 _ HOK6.out) (H6.cells_same _ _ HOK6.out H6.zero_ok) (H6.one _) ?_; intro w7 hbw7 hgw7 hsw7; have hBw7 : Below w5.heap.size w5 w7 := bgrown hBw6 hgw7 (by omega) (by omega)); have hz7 := hz5.on hBw7; have hB7 := bthen hB5 hBw7)
      refine bodyPost_ret (results_cell2 rfl _ _ w.heap.size _ _ _ rfl hb9 Try.underlying29 rfl (sizeR _ Ky.zero_ok)) rfl ?_
      exact ⟨by rw [HOF.out, if_neg HNE.out, if_neg HNE6.out]; rfl, bgrown hB7 hg9 hB7.size (by omega)⟩
end Go.Proofs.Ythjjcglheialfaa

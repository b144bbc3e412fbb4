/- The walk of layer 4 (ip4): Back. No condition but those of the row. -/
import Derived.Test.YtehidnfkogfaoaaLaw04
import Derived.Test.YtehidnfkogfaoaaOpenH4
namespace Go.Proofs.Ytehidnfkogfaoaa
open Go.RowKit
set_option linter.unusedVariables false
set_option linter.unusedSimpArgs false

theorem cells_len (h : H4) (b : Int) : h.cells.set 1 (.int .i64 b) = ({ h with len := b } : H4).cells := rfl
theorem cells_ttl' (h : H4) (b : Int) : h.cells.set 6 (.int .u8 b) = (h.at_ttl b).cells := rfl

set_option maxRecDepth 20000 in
set_option maxHeartbeats 4000000 in
theorem walk_Ip4Back (w : World) (h : H4) (hf : h.fit) (b : Bs) (hb : b.ok w) (b2 : Bs) (hb2 : b2.ok w) : Calls Try.prog 6 #[.agg h.cells.toArray, b.v, b2.v] w fun e w' => e = .returned (.bool true) ∧ Below w.heap.size w w' := by
  obtain ⟨A, n, c, l⟩ := b
  obtain ⟨A', n', c', l'⟩ := b2
  have hll := hb.len
  have hll' := hb2.len
  simp only [Bs.v] at hll hll' ⊢
  have HO := Lib.hid hb
  have HM := Lib.hid hb2
  have HF := Lib.hid hf
  have HOPT := Lib.hid (h.get_opt hf.ok)
  have HLL := Lib.hid hll
  have HLL' := Lib.hid hll'
  have hcase : ((100 : Int) < (h.opt.length : Int) ∨ (¬ (100 : Int) < (h.opt.length : Int) ∧ (1000 : Int) < (n : Int)) ∨ (¬ (100 : Int) < (h.opt.length : Int) ∧ ¬ (1000 : Int) < (n : Int) ∧ (100 : Int) < (n' : Int))) ∨ (¬ (100 : Int) < (h.opt.length : Int) ∧ ¬ (1000 : Int) < (n : Int) ∧ ¬ (100 : Int) < (n' : Int)) := by omega
  clear hb hb2 hf hll hll'
  rcases hcase with hcase | ⟨k1, k2, k3⟩
  · rcases hcase with k1 | ⟨k1, k2⟩ | ⟨k1, k2, k3⟩
    all_goals
      go_enter Try.func6, Try.ntmps6
      go_wp2_with (refine wpList_box_blk rfl 27 _ rfl h.cells rfl ?_; intro w1 hb1 hB1 hs1)
      refine (awake_any w1).mono ?_
      rintro e w2 ⟨rfl, hb2⟩
      have c16 : w2.cell? ⟨w.heap.size, 16, none⟩ = some (str h.opt) := ((hb1.on hb2).cell 16).trans HOPT.out
      go_wp2
      go_ret
      exact ⟨rfl, bthen hB1 hb2⟩
  · have hn1 : n ≤ 1000 := by omega
    have hn2 : n' ≤ 100 := by omega
    go_enter Try.func6, Try.ntmps6
    go_wp2_with (refine wpList_box_blk rfl 27 _ rfl h.cells rfl ?_; intro w1 hb1 hB1 hs1)
    refine (awake_any w1).mono ?_
    rintro e w2 ⟨rfl, hb2⟩
    have HW := Lib.hid (bthen hB1 hb2)
    have HB := Lib.hid (hb1.on hb2)
    have c16 : w2.cell? ⟨w.heap.size, 16, none⟩ = some (str h.opt) := (HB.out.cell 16).trans HOPT.out
    have hw2 : w.heap.size < w2.heap.size := HB.out.lt
    clear hb1 hB1 hs1 hb2
    go_wp2_with (refine wpList_load_blk (by rfl) 27 (.tmp 3) (by rfl) w.heap.size (by rfl) 27 _ _ HB.out Try.underlying27 rfl (size4 _ HF.out.ok) ?_)
    clear c16
    refine (put4_any h HF.out A n c l w2 (HO.out.below HW.out).row HO.out.le HO.out.cap (by omega)).mono ?_
    rintro e w3 ⟨⟨A3, n3, c3, l3⟩, rfl, hl3, hown3, hb3⟩
    have ho3 := hown3.ok
    simp only at hl3
    have hn3 := ho3.len
    simp only [Bs.v] at hn3 ⊢
    replace HW := Lib.hid (bthen HW.out hb3)
    replace HB := Lib.hid (HB.out.on hb3)
    have HSZ : Hid (w2.heap.size ≤ w3.heap.size) := Lib.hid hb3.size
    clear hb3
    by_cases hx : h.bad
    · have hp : put4 h l = ([], 1) := by unfold put4; rw [if_pos hx]
      rw [hp] at hl3 ⊢
      simp only at hl3
      subst hl3
      obtain rfl : n3 = 0 := by simpa using hn3.symm
      clear hn3 ho3 hown3 hx
      go_wp2
      go_ret
      exact ⟨rfl, HW.out⟩
    · have h40 : h.opt.length ≤ 40 := by unfold H4.bad at hx; omega
      have hlen : 20 + h.opt.length + l.length ≤ 65535 := by rw [HLL.out]; omega
      have hp := put4_yes h hx l hlen
      rw [hp] at hl3 ⊢
      simp only at hl3
      subst hl3
      obtain ⟨T, hT⟩ : ∃ T, T = (h.ttl + 1) % 256 := ⟨_, rfl⟩
      have ht0 : 0 ≤ T := by omega
      have ht1 : T ≤ 255 := by omega
      have hall : ((20 + h.opt.length + l.length : Nat) : Int) = (n3 : Int) := by have := pkt4_length h HF.out.ok l; omega
      have hn17 : 17 < n3 := by have := pkt4_length h HF.out.ok l; omega
      have hn3b : n3 ≤ 2000 := by have := pkt4_length h HF.out.ok l; have := HLL.out; omega
      have fT := h.at_fit HF.out T ht0 ht1
      have q1 := par4_pkt h HF.out hx l l' hlen
      have q2 := ttl4_pkt h HF.out hx l l' hlen T ht0 ht1
      have q3 := par4_pkt (h.at_ttl T) fT hx l l' hlen
      have q4 := body4_pkt h HF.out hx l l' hlen
      have q5 := body4_pkt (h.at_ttl T) fT hx l l' hlen
      have lT := pkt4_length (h.at_ttl T) fT.ok l
      have l0 := pkt4_length h HF.out.ok l
      rw [hall] at q1
      rw [show (h.at_ttl T).opt = h.opt from rfl, hall] at q3
      obtain ⟨H1, hH1⟩ : ∃ H1 : H4, H1 = { h with len := (n3 : Int) } := ⟨_, rfl⟩
      obtain ⟨H2, hH2⟩ : ∃ H2 : H4, H2 = { h.at_ttl T with len := (n3 : Int) } := ⟨_, rfl⟩
      have f1 : H1.fit := by rw [hH1]; exact ⟨⟨HF.out.ok.src, HF.out.ok.dst⟩, HF.out.tos, (by show _ ≤ (n3 : Int) ∧ (n3 : Int) ≤ _; omega), HF.out.id, HF.out.off, HF.out.ttl, HF.out.pro, HF.out.opt⟩
      have f2 : H2.fit := by rw [hH2]; exact ⟨⟨HF.out.ok.src, HF.out.ok.dst⟩, HF.out.tos, (by show _ ≤ (n3 : Int) ∧ (n3 : Int) ≤ _; omega), HF.out.id, HF.out.off, ⟨ht0, ht1⟩, HF.out.pro, HF.out.opt⟩
      have q1 : par4 (pkt4 h l ++ l') = (H1, 0) := by rw [hH1]; exact q1
      have q3 : par4 (pkt4 (h.at_ttl T) l ++ l') = (H2, 0) := by rw [hH2]; exact q3
      obtain ⟨P1, hP1⟩ : ∃ P1, P1 = pkt4 h l ++ l' := ⟨_, rfl⟩
      obtain ⟨P2, hP2⟩ : ∃ P2, P2 = pkt4 (h.at_ttl T) l ++ l' := ⟨_, rfl⟩
      rw [← hP1] at q1 q2 q4
      rw [← hP2] at q2 q3 q5
      have lP2 : P2.length = n3 + n' := by rw [hP2, List.length_append, lT, HLL'.out, show (h.at_ttl T).opt = h.opt from rfl]; omega
      have HP1 := Lib.hid hP1
      have QA1 := Lib.hid q1
      have QA2 := Lib.hid q3
      have QT := Lib.hid q2
      have QB1 := Lib.hid q4
      have QB2 := Lib.hid q5
      have LP2 := Lib.hid lP2
      have HK1 := Lib.hid f1
      have HK2 := Lib.hid f2
      have HT := Lib.hid hT
      have HO3 := Lib.hid hown3
      have HS1 : Hid (h.cells.set 1 (.int .i64 (n3 : Int)) = H1.cells) := Lib.hid (by rw [hH1]; rfl)
      have HS2 : Hid (H1.cells.set 6 (.int .u8 T) = H2.cells) := Lib.hid (by rw [hH1, hH2]; rfl)
      have HC6 : Hid (H1.cells[6]? = some (.int .u8 h.ttl)) := Lib.hid (by rw [hH1]; rfl)
      have HE1 : Hid ((par4 P1).2 = 0) := Lib.hid (by rw [q1])
      have HE2 : Hid ((par4 P1).1 = H1) := Lib.hid (by rw [q1])
      have HE3 : Hid ((par4 P2).2 = 0) := Lib.hid (by rw [q3])
      have HE4 : Hid ((par4 P2).1 = H2) := Lib.hid (by rw [q3])
      have HLo := Lib.hid l0
      have tt := HF.out.ttl
      obtain ⟨tt0, tt1⟩ := tt
      have c1 : w3.cell? ⟨w.heap.size, 1, none⟩ = some (.int .i64 h.len) := HB.out.cell 1
      have hf1 := HB.out.frozen 1
      have hset1 := HB.out.set 1 (.int .i64 (n3 : Int))
      rw [HS1.out] at hset1
      have hnw : ∀ g, blk A3 c3 = some g → w2.heap.size ≤ g := fun g hg => (hown3.lt g hg).1
      have hown4 : Own (w3.setCell ⟨w.heap.size, 1, none⟩ (.int .i64 (n3 : Int))) w2.heap.size 5 1 A3 n3 c3 (bv (pkt4 h l)) :=
        hown3.kept (grown_set (grown_refl w3 _) 1 _) (fun g hg e => by injection e with e; have := hnw g hg; omega)
      have hB4 := HW.out.setCell (p := ⟨w.heap.size, 1, none⟩) (Nat.le_refl _) (.int .i64 (n3 : Int))
      have hbk4 : ∀ g, blk A3 c3 = some g → w2.heap.size ≤ g := hnw
      have HO4 := Lib.hid hown4
      have HB4 := Lib.hid hset1
      have HW4 := Lib.hid hB4
      have HNW := Lib.hid hnw
      clear q1 q2 q3 q4 q5 lT l0 hP1 hP2 hH1 hH2 f1 f2 fT hx hp hlen hn3 hall hT hown3 ho3 lP2 hown4 hset1 hB4 hnw hbk4 HB HW
      go_wp2_with (at_builtin; refine wpList_append_Own _ rfl _ _ 22 rfl w2.heap.size 5 _ 1 1 Try.underlying22 infoByte rfl (by decide) A3 n3 c3 _ rfl HO4.out w.heap.size A' n' c' (bv l') rfl (HM.out.row.below HW4.out) (bv_one _) (by simp only [maxLen]; omega) (by omega) (by simpa [World.setCell] using HSZ.out) ?_; intro A4 c4 w5 hown5 hg5 _)
      rw [← bv_append, ← HP1.out] at hown5
      have HO1 := Lib.hid hown5.ok
      have HW := Lib.hid (HW4.out.grown hg5 HW4.out.size (fun k hk => by have := HNW.out k hk; omega))
      have HB := Lib.hid (HB4.out.grown hg5 (fun e => by have := HNW.out _ e.symm; omega))
      clear hown5 hg5 HO4 HB4 HW4 c1 hf1
      refine (parse4_any A4 (n3 + n') c4 P1 w5 HO1.out.row HO1.out.le HO1.out.cap (by omega)).mono ?_
      rintro e w6 ⟨rfl, hb6⟩
      rw [HE1.out, HE2.out]
      replace HW := Lib.hid (bthen HW.out hb6)
      replace HB := Lib.hid (HB.out.on hb6)
      replace HO1 := Lib.hid (HO1.out.below hb6)
      clear hb6
      go_wp2_with (first
        | (refine wpList_alloc_blk rfl 27 rfl H4.zero.cells zero4 ?_; intro w7 hbw7 hBw7 hsw7)
        | (refine wpList_store_all rfl 27 _ _ rfl w6.heap.size H1.cells rfl rfl 27 _ hbw7 (size4 _ HK1.out.ok) (H4.cells_same _ _ HK1.out.ok H4.zero_ok) (H4.one _) ?_; intro w8 hbw8 hgw8 hsw8; have hBw8 : Below w6.heap.size w6 w8 := bgrown hBw7 hgw8 (by omega) (by omega)); have c6 := (HB.out.on hBw8).cell 6; rw [HC6.out] at c6)
      have HP := Lib.hid hbw8
      replace HW := Lib.hid (bthen HW.out hBw8)
      replace HB := Lib.hid (HB.out.on hBw8)
      replace HO1 := Lib.hid (HO1.out.below hBw8)
      clear hBw7 hbw7 hsw7 hbw8 hBw8 hgw8 hsw8
      rw [← HT.out]
      refine (ttl4_any A4 (n3 + n') c4 P1 T w8 HO1.out.row HO1.out.le HO1.out.cap (by omega) ht0 ht1).mono ?_
      rintro e w9 ⟨⟨A8, n8, c8, l8⟩, rfl, hl8, hown8, hb9⟩
      rw [HE1.out]
      rw [QT.out] at hl8
      simp only at hl8
      subst hl8
      obtain rfl : n8 = n3 + n' := by have h1 := hown8.ok.len; have h2 := LP2.out; simp only at h1; omega
      have HO2 := Lib.hid hown8.ok
      replace HW := Lib.hid (bthen HW.out hb9)
      replace HB := Lib.hid (HB.out.on hb9)
      replace HO1 := Lib.hid (HO1.out.below hb9)
      replace HP := Lib.hid (HP.out.on hb9)
      clear hb9 hown8 c6
      simp only [Bs.v]
      go_wp2_with fail
      refine (parse4_any A8 (n3 + n') c8 _ w9 HO2.out.row HO2.out.le HO2.out.cap (by omega)).mono ?_
      rintro e w10 ⟨rfl, hb10⟩
      rw [HE3.out, HE4.out]
      replace HW := Lib.hid (bthen HW.out hb10)
      replace HB := Lib.hid (HB.out.on hb10)
      replace HO1 := Lib.hid (HO1.out.below hb10)
      replace HO2 := Lib.hid (HO2.out.below hb10)
      replace HP := Lib.hid (HP.out.on hb10)
      clear hb10
      go_wp2_with (first
        | (refine wpList_alloc_blk rfl 27 rfl H4.zero.cells zero4 ?_; intro w11 hbw11 hBw11 hsw11)
        | (refine wpList_store_all rfl 27 _ _ rfl w10.heap.size H2.cells rfl rfl 27 _ hbw11 (size4 _ HK2.out.ok) (H4.cells_same _ _ HK2.out.ok H4.zero_ok) (H4.one _) ?_; intro w12 hbw12 hgw12 hsw12; have hBw12 : Below w10.heap.size w10 w12 := bgrown hBw11 hgw12 (by omega) (by omega)))
      have HNE : Hid (w.heap.size < w10.heap.size) := Lib.hid HB.out.lt
      have HQ := Lib.hid hbw12
      replace HW := Lib.hid (bthen HW.out hBw12)
      replace HB := Lib.hid (HB.out.on hBw12)
      replace HO1 := Lib.hid (HO1.out.below hBw12)
      replace HO2 := Lib.hid (HO2.out.below hBw12)
      replace HP := Lib.hid (HP.out.on hBw12)
      have HO12 := Lib.hid (HO.out.below HW.out)
      clear hBw11 hbw11 hsw11 hbw12 hBw12 hgw12 hsw12
      refine wp_region_rel (fun A B => A.grownBy B none) (fun A => grown_refl A _) (fun A B C h k => grown_trans h k) (relAt (List.cons (fun v _ => v = .agg H1.cells.toArray) (List.cons (fun v _ => v = .agg H1.cells.toArray) (List.cons (fun v _ => v = .bool false) (List.cons (fun v _ => v = .bool false) (List.cons (fun v _ => v = .int .i64 0) (List.cons (fun v _ => v = .bool false) (List.cons (fun v _ => v = .bool false) (List.cons (fun v _ => v = .bool false) (List.cons (fun v _ => v = .int .i64 0) (List.cons (fun v _ => v = .bool false) (List.cons (fun v _ => v = .bool false) (List.cons (fun v _ => v = .bool false) (List.cons (fun v _ => v = .int .i64 0) (List.cons (fun v _ => v = .bool false) (List.cons (fun v _ => v = .bool false) (List.cons (fun v _ => v = .bool false) (List.cons (fun v _ => v = .slice A4 (n3 + n') c4) (List.cons (BsR l) (List.cons (fun v _ => v = str l) (List.cons (fun v _ => v = .slice A n c) (List.cons (fun v _ => v = str l) (List.cons (fun v _ => v = .bool false) (List.cons (fun v _ => v = .bool false) (List.cons (fun v _ => v = .bool false) (List.cons (fun v _ => v = .slice A8 (n3 + n') c8) (List.cons (BsR l) (List.cons (fun v _ => v = str l) (List.cons (fun v _ => v = .slice A n c) (List.cons (fun v _ => v = str l) (List.cons (fun v _ => v = .bool false) (List.cons (fun v _ => v = .bool false) (List.cons (fun v _ => v = .bool false) (List.cons (fun v _ => v = .slice A8 (n3 + n') c8) (List.cons (fun v _ => v = .int .i64 ((n3 + n' : Nat) : Int)) (List.cons (fun v _ => v = .slice A4 (n3 + n') c4) (List.cons (fun v _ => v = .int .i64 ((n3 + n' : Nat) : Int)) (List.cons (fun v _ => v = .bool false) (List.cons (fun v _ => v = .bool false) ([])))))))))))))))))))))))))))))))))))))))) (MonoL.at_ (.cons (mono_val _) (.cons (mono_val _) (.cons (mono_val _) (.cons (mono_val _) (.cons (mono_val _) (.cons (mono_val _) (.cons (mono_val _) (.cons (mono_val _) (.cons (mono_val _) (.cons (mono_val _) (.cons (mono_val _) (.cons (mono_val _) (.cons (mono_val _) (.cons (mono_val _) (.cons (mono_val _) (.cons (mono_val _) (.cons (mono_val _) (.cons (mono_bs _) (.cons (mono_val _) (.cons (mono_val _) (.cons (mono_val _) (.cons (mono_val _) (.cons (mono_val _) (.cons (mono_val _) (.cons (mono_val _) (.cons (mono_bs _) (.cons (mono_val _) (.cons (mono_val _) (.cons (mono_val _) (.cons (mono_val _) (.cons (mono_val _) (.cons (mono_val _) (.cons (mono_val _) (.cons (mono_val _) (.cons (mono_val _) (.cons (mono_val _) (.cons (mono_val _) (.cons (mono_val _) .nil))))))))))))))))))))))))))))))))))))))) (by kernel_rfl) (by kernel_rfl) ⟨?_, ?_, ?_, ?_, ?_, ?_, ?_, ?_, ?_, ?_, ?_, ?_, ?_, ?_, ?_, ?_, ?_, ?_, ?_, ?_, ?_, ?_, ?_, ?_, ?_, ?_, ?_, ?_, ?_, ?_, ?_, ?_, ?_, ?_, ?_, ?_, ?_, ?_, trivial⟩ ?_
      · intro a vs W hX hR he hf K hK
        rw [if_pos (wanted_none rfl)]
        have e10 : a.eval (.tmp 10) = .pointer (some ⟨w6.heap.size, 0, none⟩) := hf 10 (by kernel_rfl)
        have hbW := bthen (below_drew _) (grow_below hX)
        exact wp_value (exec_load 27 _ rfl w6.heap.size e10 27 H1.cells _ (HP.out.on hbW) Try.underlying27 rfl (size4 _ HK1.out.ok)) (hK _ _ rfl (grown_refl W _))
      · intro a vs W hX hR he hf K hK
        rw [if_pos (wanted_none rfl)]
        have e3 : a.eval (.tmp 3) = .pointer (some ⟨w.heap.size, 0, none⟩) := hf 3 (by kernel_rfl)
        have hbW := bthen (below_drew _) (grow_below hX)
        exact wp_value (exec_load 27 _ rfl w.heap.size e3 27 H1.cells _ (HB.out.on hbW) Try.underlying27 rfl (size4 _ HK1.out.ok)) (hK _ _ rfl (grown_refl W _))
      · intro a vs W hX hR he hf K hK
        rw [if_pos (wanted_none rfl)]
        have e72 : a.eval (.tmp 72) = .agg H1.cells.toArray := (he 0 72 (by kernel_rfl) rfl).trans (hR 0 (by kernel_rfl))
        have e73 : a.eval (.tmp 73) = .agg H1.cells.toArray := (he 1 73 (by kernel_rfl) rfl).trans (hR 1 (by kernel_rfl))
        exact wp_value (exec_neq4 _ _ _ rfl H1 HK1.out.ok e72 e73) (hK _ _ rfl (grown_refl W _))
      · intro a vs W hX hR he hf K hK
        rw [if_pos (wanted_none rfl)]
        have e74 : a.eval (.tmp 74) = .bool false := (he 2 74 (by kernel_rfl) rfl).trans (hR 2 (by kernel_rfl))
        refine wp_value (v := .bool false) ?_ (hK _ _ rfl (grown_refl W _))
        simp only [execOp, e74]
        try go_simp
        try (first | rfl | omega | (simp only [IntKind.wrap_i64, IntKind.wrap_u8, IntKind.wrap_u64, IntKind.wrap_u16, IntKind.wrap_u32]; omega) | (rw [Int.tmod_eq_emod_of_nonneg (by omega)]) | (rw [Int.tmod_eq_emod_of_nonneg (by omega)]; omega))
      · intro a vs W hX hR he hf K hK
        have e75 : a.eval (.tmp 75) = .bool false := (he 3 75 (by kernel_rfl) rfl).trans (hR 3 (by kernel_rfl))
        refine Eq.mpr (if_pos (by exact (wanted_some rfl rfl e75).trans rfl)) ?_
        have e11 : a.eval (.tmp 11) = .int .i64 0 := hf 11 (by kernel_rfl)
        refine wp_value (v := .int .i64 0) ?_ (hK _ _ rfl (grown_refl W _))
        simp only [execOp, e11]
        try go_simp
        try (first | rfl | omega | (simp only [IntKind.wrap_i64, IntKind.wrap_u8, IntKind.wrap_u64, IntKind.wrap_u16, IntKind.wrap_u32]; omega) | (rw [Int.tmod_eq_emod_of_nonneg (by omega)]) | (rw [Int.tmod_eq_emod_of_nonneg (by omega)]; omega))
      · intro a vs W hX hR he hf K hK
        have e75 : a.eval (.tmp 75) = .bool false := (he 3 75 (by kernel_rfl) rfl).trans (hR 3 (by kernel_rfl))
        refine Eq.mpr (if_pos (by exact (wanted_some rfl rfl e75).trans rfl)) ?_
        have e76 : a.eval (.tmp 76) = .int .i64 0 := (he 4 76 (by kernel_rfl) rfl).trans (hR 4 (by kernel_rfl))
        refine wp_value (v := .bool false) ?_ (hK _ _ rfl (grown_refl W _))
        simp only [execOp, e76]
        try go_simp
        try (first | rfl | omega | (simp only [IntKind.wrap_i64, IntKind.wrap_u8, IntKind.wrap_u64, IntKind.wrap_u16, IntKind.wrap_u32]; omega) | (rw [Int.tmod_eq_emod_of_nonneg (by omega)]) | (rw [Int.tmod_eq_emod_of_nonneg (by omega)]; omega))
      · intro a vs W hX hR he hf K hK
        rw [if_pos (wanted_none rfl)]
        have e75 : a.eval (.tmp 75) = .bool false := (he 3 75 (by kernel_rfl) rfl).trans (hR 3 (by kernel_rfl))
        have e77 : a.eval (.tmp 77) = .bool false := (he 5 77 (by kernel_rfl) rfl).trans (hR 5 (by kernel_rfl))
        refine wp_value (v := .bool false) ?_ (hK _ _ rfl (grown_refl W _))
        simp only [execOp, e75, e77]
        try go_simp
        try (first | rfl | omega | (simp only [IntKind.wrap_i64, IntKind.wrap_u8, IntKind.wrap_u64, IntKind.wrap_u16, IntKind.wrap_u32]; omega) | (rw [Int.tmod_eq_emod_of_nonneg (by omega)]) | (rw [Int.tmod_eq_emod_of_nonneg (by omega)]; omega))
      · intro a vs W hX hR he hf K hK
        rw [if_pos (wanted_none rfl)]
        have e78 : a.eval (.tmp 78) = .bool false := (he 6 78 (by kernel_rfl) rfl).trans (hR 6 (by kernel_rfl))
        refine wp_value (v := .bool false) ?_ (hK _ _ rfl (grown_refl W _))
        simp only [execOp, e78]
        try go_simp
        try (first | rfl | omega | (simp only [IntKind.wrap_i64, IntKind.wrap_u8, IntKind.wrap_u64, IntKind.wrap_u16, IntKind.wrap_u32]; omega) | (rw [Int.tmod_eq_emod_of_nonneg (by omega)]) | (rw [Int.tmod_eq_emod_of_nonneg (by omega)]; omega))
      · intro a vs W hX hR he hf K hK
        have e79 : a.eval (.tmp 79) = .bool false := (he 7 79 (by kernel_rfl) rfl).trans (hR 7 (by kernel_rfl))
        refine Eq.mpr (if_pos (by exact (wanted_some rfl rfl e79).trans rfl)) ?_
        have e13 : a.eval (.tmp 13) = .int .i64 0 := hf 13 (by kernel_rfl)
        refine wp_value (v := .int .i64 0) ?_ (hK _ _ rfl (grown_refl W _))
        simp only [execOp, e13]
        try go_simp
        try (first | rfl | omega | (simp only [IntKind.wrap_i64, IntKind.wrap_u8, IntKind.wrap_u64, IntKind.wrap_u16, IntKind.wrap_u32]; omega) | (rw [Int.tmod_eq_emod_of_nonneg (by omega)]) | (rw [Int.tmod_eq_emod_of_nonneg (by omega)]; omega))
      · intro a vs W hX hR he hf K hK
        have e79 : a.eval (.tmp 79) = .bool false := (he 7 79 (by kernel_rfl) rfl).trans (hR 7 (by kernel_rfl))
        refine Eq.mpr (if_pos (by exact (wanted_some rfl rfl e79).trans rfl)) ?_
        have e80 : a.eval (.tmp 80) = .int .i64 0 := (he 8 80 (by kernel_rfl) rfl).trans (hR 8 (by kernel_rfl))
        refine wp_value (v := .bool false) ?_ (hK _ _ rfl (grown_refl W _))
        simp only [execOp, e80]
        try go_simp
        try (first | rfl | omega | (simp only [IntKind.wrap_i64, IntKind.wrap_u8, IntKind.wrap_u64, IntKind.wrap_u16, IntKind.wrap_u32]; omega) | (rw [Int.tmod_eq_emod_of_nonneg (by omega)]) | (rw [Int.tmod_eq_emod_of_nonneg (by omega)]; omega))
      · intro a vs W hX hR he hf K hK
        rw [if_pos (wanted_none rfl)]
        have e79 : a.eval (.tmp 79) = .bool false := (he 7 79 (by kernel_rfl) rfl).trans (hR 7 (by kernel_rfl))
        have e81 : a.eval (.tmp 81) = .bool false := (he 9 81 (by kernel_rfl) rfl).trans (hR 9 (by kernel_rfl))
        refine wp_value (v := .bool false) ?_ (hK _ _ rfl (grown_refl W _))
        simp only [execOp, e79, e81]
        try go_simp
        try (first | rfl | omega | (simp only [IntKind.wrap_i64, IntKind.wrap_u8, IntKind.wrap_u64, IntKind.wrap_u16, IntKind.wrap_u32]; omega) | (rw [Int.tmod_eq_emod_of_nonneg (by omega)]) | (rw [Int.tmod_eq_emod_of_nonneg (by omega)]; omega))
      · intro a vs W hX hR he hf K hK
        rw [if_pos (wanted_none rfl)]
        have e82 : a.eval (.tmp 82) = .bool false := (he 10 82 (by kernel_rfl) rfl).trans (hR 10 (by kernel_rfl))
        refine wp_value (v := .bool false) ?_ (hK _ _ rfl (grown_refl W _))
        simp only [execOp, e82]
        try go_simp
        try (first | rfl | omega | (simp only [IntKind.wrap_i64, IntKind.wrap_u8, IntKind.wrap_u64, IntKind.wrap_u16, IntKind.wrap_u32]; omega) | (rw [Int.tmod_eq_emod_of_nonneg (by omega)]) | (rw [Int.tmod_eq_emod_of_nonneg (by omega)]; omega))
      · intro a vs W hX hR he hf K hK
        have e83 : a.eval (.tmp 83) = .bool false := (he 11 83 (by kernel_rfl) rfl).trans (hR 11 (by kernel_rfl))
        refine Eq.mpr (if_pos (by exact (wanted_some rfl rfl e83).trans rfl)) ?_
        have e15 : a.eval (.tmp 15) = .int .i64 0 := hf 15 (by kernel_rfl)
        refine wp_value (v := .int .i64 0) ?_ (hK _ _ rfl (grown_refl W _))
        simp only [execOp, e15]
        try go_simp
        try (first | rfl | omega | (simp only [IntKind.wrap_i64, IntKind.wrap_u8, IntKind.wrap_u64, IntKind.wrap_u16, IntKind.wrap_u32]; omega) | (rw [Int.tmod_eq_emod_of_nonneg (by omega)]) | (rw [Int.tmod_eq_emod_of_nonneg (by omega)]; omega))
      · intro a vs W hX hR he hf K hK
        have e83 : a.eval (.tmp 83) = .bool false := (he 11 83 (by kernel_rfl) rfl).trans (hR 11 (by kernel_rfl))
        refine Eq.mpr (if_pos (by exact (wanted_some rfl rfl e83).trans rfl)) ?_
        have e84 : a.eval (.tmp 84) = .int .i64 0 := (he 12 84 (by kernel_rfl) rfl).trans (hR 12 (by kernel_rfl))
        refine wp_value (v := .bool false) ?_ (hK _ _ rfl (grown_refl W _))
        simp only [execOp, e84]
        try go_simp
        try (first | rfl | omega | (simp only [IntKind.wrap_i64, IntKind.wrap_u8, IntKind.wrap_u64, IntKind.wrap_u16, IntKind.wrap_u32]; omega) | (rw [Int.tmod_eq_emod_of_nonneg (by omega)]) | (rw [Int.tmod_eq_emod_of_nonneg (by omega)]; omega))
      · intro a vs W hX hR he hf K hK
        rw [if_pos (wanted_none rfl)]
        have e83 : a.eval (.tmp 83) = .bool false := (he 11 83 (by kernel_rfl) rfl).trans (hR 11 (by kernel_rfl))
        have e85 : a.eval (.tmp 85) = .bool false := (he 13 85 (by kernel_rfl) rfl).trans (hR 13 (by kernel_rfl))
        refine wp_value (v := .bool false) ?_ (hK _ _ rfl (grown_refl W _))
        simp only [execOp, e83, e85]
        try go_simp
        try (first | rfl | omega | (simp only [IntKind.wrap_i64, IntKind.wrap_u8, IntKind.wrap_u64, IntKind.wrap_u16, IntKind.wrap_u32]; omega) | (rw [Int.tmod_eq_emod_of_nonneg (by omega)]) | (rw [Int.tmod_eq_emod_of_nonneg (by omega)]; omega))
      · intro a vs W hX hR he hf K hK
        rw [if_pos (wanted_none rfl)]
        have e86 : a.eval (.tmp 86) = .bool false := (he 14 86 (by kernel_rfl) rfl).trans (hR 14 (by kernel_rfl))
        refine wp_value (v := .bool false) ?_ (hK _ _ rfl (grown_refl W _))
        simp only [execOp, e86]
        try go_simp
        try (first | rfl | omega | (simp only [IntKind.wrap_i64, IntKind.wrap_u8, IntKind.wrap_u64, IntKind.wrap_u16, IntKind.wrap_u32]; omega) | (rw [Int.tmod_eq_emod_of_nonneg (by omega)]) | (rw [Int.tmod_eq_emod_of_nonneg (by omega)]; omega))
      · intro a vs W hX hR he hf K hK
        have e87 : a.eval (.tmp 87) = .bool false := (he 15 87 (by kernel_rfl) rfl).trans (hR 15 (by kernel_rfl))
        refine Eq.mpr (if_pos (by exact (wanted_some rfl rfl e87).trans rfl)) ?_
        have e8 : a.eval (.tmp 8) = .slice A4 (n3 + n') c4 := hf 8 (by kernel_rfl)
        refine wp_value (v := .slice A4 (n3 + n') c4) ?_ (hK _ _ rfl (grown_refl W _))
        simp only [execOp, e8]
        try go_simp
        try (first | rfl | omega | (simp only [IntKind.wrap_i64, IntKind.wrap_u8, IntKind.wrap_u64, IntKind.wrap_u16, IntKind.wrap_u32]; omega) | (rw [Int.tmod_eq_emod_of_nonneg (by omega)]) | (rw [Int.tmod_eq_emod_of_nonneg (by omega)]; omega))
      · intro a vs W hX hR he hf K hK
        have e87 : a.eval (.tmp 87) = .bool false := (he 15 87 (by kernel_rfl) rfl).trans (hR 15 (by kernel_rfl))
        refine Eq.mpr (if_pos (by exact (wanted_some rfl rfl e87).trans rfl)) ?_
        have e88 : a.eval (.tmp 88) = .slice A4 (n3 + n') c4 := (he 16 88 (by kernel_rfl) rfl).trans (hR 16 (by kernel_rfl))
        have hbW := bthen (below_drew _) (grow_below hX)
        have ho := HO1.out.below hbW
        refine wp_enter (f := 12) (args := #[.slice A4 (n3 + n') c4]) (by simp only [execOp, e88]; go_simp; simpa [Act.eval] using e88) ((body4_any A4 (n3 + n') c4 P1 W ho.row ho.le ho.cap (by omega)).mono ?_)
        rintro e w' ⟨⟨A', n', c', l'⟩, rfl, hl, ho', hb⟩
        rw [QB1.out] at hl
        simp only at hl
        subst hl
        exact ⟨_, rfl, hK _ _ ⟨_, _, _, rfl, ho'⟩ (below_grow hb _)⟩
      · intro a vs W hX hR he hf K hK
        have e87 : a.eval (.tmp 87) = .bool false := (he 15 87 (by kernel_rfl) rfl).trans (hR 15 (by kernel_rfl))
        refine Eq.mpr (if_pos (by exact (wanted_some rfl rfl e87).trans rfl)) ?_
        have e89 := he 17 89 (by kernel_rfl) rfl
        have p89 := hR 17 (by kernel_rfl)
        change (BsR l) (vs 17) W at p89
        obtain ⟨A, n, c, hv, ho⟩ := p89
        rw [hv] at e89
        exact wp_value (exec_str 22 9 5 _ rfl Try.underlying22 Try.underlying5 Try.underlying9 A n c _ e89 ho) (hK _ _ rfl (grown_refl W _))
      · intro a vs W hX hR he hf K hK
        have e87 : a.eval (.tmp 87) = .bool false := (he 15 87 (by kernel_rfl) rfl).trans (hR 15 (by kernel_rfl))
        refine Eq.mpr (if_pos (by exact (wanted_some rfl rfl e87).trans rfl)) ?_
        have e1 : a.eval (.tmp 1) = .slice A n c := hf 1 (by kernel_rfl)
        refine wp_value (v := .slice A n c) ?_ (hK _ _ rfl (grown_refl W _))
        simp only [execOp, e1]
        try go_simp
        try (first | rfl | omega | (simp only [IntKind.wrap_i64, IntKind.wrap_u8, IntKind.wrap_u64, IntKind.wrap_u16, IntKind.wrap_u32]; omega) | (rw [Int.tmod_eq_emod_of_nonneg (by omega)]) | (rw [Int.tmod_eq_emod_of_nonneg (by omega)]; omega))
      · intro a vs W hX hR he hf K hK
        have e87 : a.eval (.tmp 87) = .bool false := (he 15 87 (by kernel_rfl) rfl).trans (hR 15 (by kernel_rfl))
        refine Eq.mpr (if_pos (by exact (wanted_some rfl rfl e87).trans rfl)) ?_
        have e91 : a.eval (.tmp 91) = .slice A n c := (he 19 91 (by kernel_rfl) rfl).trans (hR 19 (by kernel_rfl))
        have hbW := bthen (below_drew _) (grow_below hX)
        exact wp_value (exec_str 22 9 5 _ rfl Try.underlying22 Try.underlying5 Try.underlying9 A n c l e91 (HO12.out.below hbW)) (hK _ _ rfl (grown_refl W _))
      · intro a vs W hX hR he hf K hK
        have e87 : a.eval (.tmp 87) = .bool false := (he 15 87 (by kernel_rfl) rfl).trans (hR 15 (by kernel_rfl))
        refine Eq.mpr (if_pos (by exact (wanted_some rfl rfl e87).trans rfl)) ?_
        have e90 : a.eval (.tmp 90) = str l := (he 18 90 (by kernel_rfl) rfl).trans (hR 18 (by kernel_rfl))
        have e92 : a.eval (.tmp 92) = str l := (he 20 92 (by kernel_rfl) rfl).trans (hR 20 (by kernel_rfl))
        refine wp_value (v := .bool false) ?_ (hK _ _ rfl (grown_refl W _))
        simp only [execOp, e90, e92]
        try go_simp
        try (first | rfl | omega | (simp only [IntKind.wrap_i64, IntKind.wrap_u8, IntKind.wrap_u64, IntKind.wrap_u16, IntKind.wrap_u32]; omega) | (rw [Int.tmod_eq_emod_of_nonneg (by omega)]) | (rw [Int.tmod_eq_emod_of_nonneg (by omega)]; omega))
      · intro a vs W hX hR he hf K hK
        rw [if_pos (wanted_none rfl)]
        have e87 : a.eval (.tmp 87) = .bool false := (he 15 87 (by kernel_rfl) rfl).trans (hR 15 (by kernel_rfl))
        have e93 : a.eval (.tmp 93) = .bool false := (he 21 93 (by kernel_rfl) rfl).trans (hR 21 (by kernel_rfl))
        refine wp_value (v := .bool false) ?_ (hK _ _ rfl (grown_refl W _))
        simp only [execOp, e87, e93]
        try go_simp
        try (first | rfl | omega | (simp only [IntKind.wrap_i64, IntKind.wrap_u8, IntKind.wrap_u64, IntKind.wrap_u16, IntKind.wrap_u32]; omega) | (rw [Int.tmod_eq_emod_of_nonneg (by omega)]) | (rw [Int.tmod_eq_emod_of_nonneg (by omega)]; omega))
      · intro a vs W hX hR he hf K hK
        rw [if_pos (wanted_none rfl)]
        have e94 : a.eval (.tmp 94) = .bool false := (he 22 94 (by kernel_rfl) rfl).trans (hR 22 (by kernel_rfl))
        refine wp_value (v := .bool false) ?_ (hK _ _ rfl (grown_refl W _))
        simp only [execOp, e94]
        try go_simp
        try (first | rfl | omega | (simp only [IntKind.wrap_i64, IntKind.wrap_u8, IntKind.wrap_u64, IntKind.wrap_u16, IntKind.wrap_u32]; omega) | (rw [Int.tmod_eq_emod_of_nonneg (by omega)]) | (rw [Int.tmod_eq_emod_of_nonneg (by omega)]; omega))
      · intro a vs W hX hR he hf K hK
        have e95 : a.eval (.tmp 95) = .bool false := (he 23 95 (by kernel_rfl) rfl).trans (hR 23 (by kernel_rfl))
        refine Eq.mpr (if_pos (by exact (wanted_some rfl rfl e95).trans rfl)) ?_
        have e12 : a.eval (.tmp 12) = .slice A8 (n3 + n') c8 := hf 12 (by kernel_rfl)
        refine wp_value (v := .slice A8 (n3 + n') c8) ?_ (hK _ _ rfl (grown_refl W _))
        simp only [execOp, e12]
        try go_simp
        try (first | rfl | omega | (simp only [IntKind.wrap_i64, IntKind.wrap_u8, IntKind.wrap_u64, IntKind.wrap_u16, IntKind.wrap_u32]; omega) | (rw [Int.tmod_eq_emod_of_nonneg (by omega)]) | (rw [Int.tmod_eq_emod_of_nonneg (by omega)]; omega))
      · intro a vs W hX hR he hf K hK
        have e95 : a.eval (.tmp 95) = .bool false := (he 23 95 (by kernel_rfl) rfl).trans (hR 23 (by kernel_rfl))
        refine Eq.mpr (if_pos (by exact (wanted_some rfl rfl e95).trans rfl)) ?_
        have e96 : a.eval (.tmp 96) = .slice A8 (n3 + n') c8 := (he 24 96 (by kernel_rfl) rfl).trans (hR 24 (by kernel_rfl))
        have hbW := bthen (below_drew _) (grow_below hX)
        have ho := HO2.out.below hbW
        refine wp_enter (f := 12) (args := #[.slice A8 (n3 + n') c8]) (by simp only [execOp, e96]; go_simp; simpa [Act.eval] using e96) ((body4_any A8 (n3 + n') c8 _ W ho.row ho.le ho.cap (by omega)).mono ?_)
        rintro e w' ⟨⟨A', n', c', l'⟩, rfl, hl, ho', hb⟩
        rw [QB2.out] at hl
        simp only at hl
        subst hl
        exact ⟨_, rfl, hK _ _ ⟨_, _, _, rfl, ho'⟩ (below_grow hb _)⟩
      · intro a vs W hX hR he hf K hK
        have e95 : a.eval (.tmp 95) = .bool false := (he 23 95 (by kernel_rfl) rfl).trans (hR 23 (by kernel_rfl))
        refine Eq.mpr (if_pos (by exact (wanted_some rfl rfl e95).trans rfl)) ?_
        have e97 := he 25 97 (by kernel_rfl) rfl
        have p97 := hR 25 (by kernel_rfl)
        change (BsR l) (vs 25) W at p97
        obtain ⟨A, n, c, hv, ho⟩ := p97
        rw [hv] at e97
        exact wp_value (exec_str 22 9 5 _ rfl Try.underlying22 Try.underlying5 Try.underlying9 A n c _ e97 ho) (hK _ _ rfl (grown_refl W _))
      · intro a vs W hX hR he hf K hK
        have e95 : a.eval (.tmp 95) = .bool false := (he 23 95 (by kernel_rfl) rfl).trans (hR 23 (by kernel_rfl))
        refine Eq.mpr (if_pos (by exact (wanted_some rfl rfl e95).trans rfl)) ?_
        have e1 : a.eval (.tmp 1) = .slice A n c := hf 1 (by kernel_rfl)
        refine wp_value (v := .slice A n c) ?_ (hK _ _ rfl (grown_refl W _))
        simp only [execOp, e1]
        try go_simp
        try (first | rfl | omega | (simp only [IntKind.wrap_i64, IntKind.wrap_u8, IntKind.wrap_u64, IntKind.wrap_u16, IntKind.wrap_u32]; omega) | (rw [Int.tmod_eq_emod_of_nonneg (by omega)]) | (rw [Int.tmod_eq_emod_of_nonneg (by omega)]; omega))
      · intro a vs W hX hR he hf K hK
        have e95 : a.eval (.tmp 95) = .bool false := (he 23 95 (by kernel_rfl) rfl).trans (hR 23 (by kernel_rfl))
        refine Eq.mpr (if_pos (by exact (wanted_some rfl rfl e95).trans rfl)) ?_
        have e99 : a.eval (.tmp 99) = .slice A n c := (he 27 99 (by kernel_rfl) rfl).trans (hR 27 (by kernel_rfl))
        have hbW := bthen (below_drew _) (grow_below hX)
        exact wp_value (exec_str 22 9 5 _ rfl Try.underlying22 Try.underlying5 Try.underlying9 A n c l e99 (HO12.out.below hbW)) (hK _ _ rfl (grown_refl W _))
      · intro a vs W hX hR he hf K hK
        have e95 : a.eval (.tmp 95) = .bool false := (he 23 95 (by kernel_rfl) rfl).trans (hR 23 (by kernel_rfl))
        refine Eq.mpr (if_pos (by exact (wanted_some rfl rfl e95).trans rfl)) ?_
        have e98 : a.eval (.tmp 98) = str l := (he 26 98 (by kernel_rfl) rfl).trans (hR 26 (by kernel_rfl))
        have e100 : a.eval (.tmp 100) = str l := (he 28 100 (by kernel_rfl) rfl).trans (hR 28 (by kernel_rfl))
        refine wp_value (v := .bool false) ?_ (hK _ _ rfl (grown_refl W _))
        simp only [execOp, e98, e100]
        try go_simp
        try (first | rfl | omega | (simp only [IntKind.wrap_i64, IntKind.wrap_u8, IntKind.wrap_u64, IntKind.wrap_u16, IntKind.wrap_u32]; omega) | (rw [Int.tmod_eq_emod_of_nonneg (by omega)]) | (rw [Int.tmod_eq_emod_of_nonneg (by omega)]; omega))
      · intro a vs W hX hR he hf K hK
        rw [if_pos (wanted_none rfl)]
        have e95 : a.eval (.tmp 95) = .bool false := (he 23 95 (by kernel_rfl) rfl).trans (hR 23 (by kernel_rfl))
        have e101 : a.eval (.tmp 101) = .bool false := (he 29 101 (by kernel_rfl) rfl).trans (hR 29 (by kernel_rfl))
        refine wp_value (v := .bool false) ?_ (hK _ _ rfl (grown_refl W _))
        simp only [execOp, e95, e101]
        try go_simp
        try (first | rfl | omega | (simp only [IntKind.wrap_i64, IntKind.wrap_u8, IntKind.wrap_u64, IntKind.wrap_u16, IntKind.wrap_u32]; omega) | (rw [Int.tmod_eq_emod_of_nonneg (by omega)]) | (rw [Int.tmod_eq_emod_of_nonneg (by omega)]; omega))
      · intro a vs W hX hR he hf K hK
        rw [if_pos (wanted_none rfl)]
        have e102 : a.eval (.tmp 102) = .bool false := (he 30 102 (by kernel_rfl) rfl).trans (hR 30 (by kernel_rfl))
        refine wp_value (v := .bool false) ?_ (hK _ _ rfl (grown_refl W _))
        simp only [execOp, e102]
        try go_simp
        try (first | rfl | omega | (simp only [IntKind.wrap_i64, IntKind.wrap_u8, IntKind.wrap_u64, IntKind.wrap_u16, IntKind.wrap_u32]; omega) | (rw [Int.tmod_eq_emod_of_nonneg (by omega)]) | (rw [Int.tmod_eq_emod_of_nonneg (by omega)]; omega))
      · intro a vs W hX hR he hf K hK
        have e103 : a.eval (.tmp 103) = .bool false := (he 31 103 (by kernel_rfl) rfl).trans (hR 31 (by kernel_rfl))
        refine Eq.mpr (if_pos (by exact (wanted_some rfl rfl e103).trans rfl)) ?_
        have e12 : a.eval (.tmp 12) = .slice A8 (n3 + n') c8 := hf 12 (by kernel_rfl)
        refine wp_value (v := .slice A8 (n3 + n') c8) ?_ (hK _ _ rfl (grown_refl W _))
        simp only [execOp, e12]
        try go_simp
        try (first | rfl | omega | (simp only [IntKind.wrap_i64, IntKind.wrap_u8, IntKind.wrap_u64, IntKind.wrap_u16, IntKind.wrap_u32]; omega) | (rw [Int.tmod_eq_emod_of_nonneg (by omega)]) | (rw [Int.tmod_eq_emod_of_nonneg (by omega)]; omega))
      · intro a vs W hX hR he hf K hK
        have e103 : a.eval (.tmp 103) = .bool false := (he 31 103 (by kernel_rfl) rfl).trans (hR 31 (by kernel_rfl))
        refine Eq.mpr (if_pos (by exact (wanted_some rfl rfl e103).trans rfl)) ?_
        have e104 : a.eval (.tmp 104) = .slice A8 (n3 + n') c8 := (he 32 104 (by kernel_rfl) rfl).trans (hR 32 (by kernel_rfl))
        have f104 := e104
        simp only [Act.eval, Array.getD_eq_getD_getElem?] at f104
        refine wp_value (v := .int .i64 ((n3 + n' : Nat) : Int)) ?_ (hK _ _ rfl (grown_refl W _))
        simp only [execOp, e104]
        try go_simp
        try (first | rfl | omega | (simp only [IntKind.wrap_i64, IntKind.wrap_u8, IntKind.wrap_u64, IntKind.wrap_u16, IntKind.wrap_u32]; omega) | (rw [Int.tmod_eq_emod_of_nonneg (by omega)]) | (rw [Int.tmod_eq_emod_of_nonneg (by omega)]; omega))
      · intro a vs W hX hR he hf K hK
        have e103 : a.eval (.tmp 103) = .bool false := (he 31 103 (by kernel_rfl) rfl).trans (hR 31 (by kernel_rfl))
        refine Eq.mpr (if_pos (by exact (wanted_some rfl rfl e103).trans rfl)) ?_
        have e8 : a.eval (.tmp 8) = .slice A4 (n3 + n') c4 := hf 8 (by kernel_rfl)
        refine wp_value (v := .slice A4 (n3 + n') c4) ?_ (hK _ _ rfl (grown_refl W _))
        simp only [execOp, e8]
        try go_simp
        try (first | rfl | omega | (simp only [IntKind.wrap_i64, IntKind.wrap_u8, IntKind.wrap_u64, IntKind.wrap_u16, IntKind.wrap_u32]; omega) | (rw [Int.tmod_eq_emod_of_nonneg (by omega)]) | (rw [Int.tmod_eq_emod_of_nonneg (by omega)]; omega))
      · intro a vs W hX hR he hf K hK
        have e103 : a.eval (.tmp 103) = .bool false := (he 31 103 (by kernel_rfl) rfl).trans (hR 31 (by kernel_rfl))
        refine Eq.mpr (if_pos (by exact (wanted_some rfl rfl e103).trans rfl)) ?_
        have e106 : a.eval (.tmp 106) = .slice A4 (n3 + n') c4 := (he 34 106 (by kernel_rfl) rfl).trans (hR 34 (by kernel_rfl))
        have f106 := e106
        simp only [Act.eval, Array.getD_eq_getD_getElem?] at f106
        refine wp_value (v := .int .i64 ((n3 + n' : Nat) : Int)) ?_ (hK _ _ rfl (grown_refl W _))
        simp only [execOp, e106]
        try go_simp
        try (first | rfl | omega | (simp only [IntKind.wrap_i64, IntKind.wrap_u8, IntKind.wrap_u64, IntKind.wrap_u16, IntKind.wrap_u32]; omega) | (rw [Int.tmod_eq_emod_of_nonneg (by omega)]) | (rw [Int.tmod_eq_emod_of_nonneg (by omega)]; omega))
      · intro a vs W hX hR he hf K hK
        have e103 : a.eval (.tmp 103) = .bool false := (he 31 103 (by kernel_rfl) rfl).trans (hR 31 (by kernel_rfl))
        refine Eq.mpr (if_pos (by exact (wanted_some rfl rfl e103).trans rfl)) ?_
        have e105 : a.eval (.tmp 105) = .int .i64 ((n3 + n' : Nat) : Int) := (he 33 105 (by kernel_rfl) rfl).trans (hR 33 (by kernel_rfl))
        have e107 : a.eval (.tmp 107) = .int .i64 ((n3 + n' : Nat) : Int) := (he 35 107 (by kernel_rfl) rfl).trans (hR 35 (by kernel_rfl))
        refine wp_value (v := .bool false) ?_ (hK _ _ rfl (grown_refl W _))
        simp only [execOp, e105, e107]
        try go_simp
        try (first | rfl | omega | (simp only [IntKind.wrap_i64, IntKind.wrap_u8, IntKind.wrap_u64, IntKind.wrap_u16, IntKind.wrap_u32]; omega) | (rw [Int.tmod_eq_emod_of_nonneg (by omega)]) | (rw [Int.tmod_eq_emod_of_nonneg (by omega)]; omega))
      · intro a vs W hX hR he hf K hK
        rw [if_pos (wanted_none rfl)]
        have e103 : a.eval (.tmp 103) = .bool false := (he 31 103 (by kernel_rfl) rfl).trans (hR 31 (by kernel_rfl))
        have e108 : a.eval (.tmp 108) = .bool false := (he 36 108 (by kernel_rfl) rfl).trans (hR 36 (by kernel_rfl))
        refine wp_value (v := .bool false) ?_ (hK _ _ rfl (grown_refl W _))
        simp only [execOp, e103, e108]
        try go_simp
        try (first | rfl | omega | (simp only [IntKind.wrap_i64, IntKind.wrap_u8, IntKind.wrap_u64, IntKind.wrap_u16, IntKind.wrap_u32]; omega) | (rw [Int.tmod_eq_emod_of_nonneg (by omega)]) | (rw [Int.tmod_eq_emod_of_nonneg (by omega)]; omega))
      · intro vs w13 hX13 hR
        have q0 := hR 0 (by decide)
        have q1 := hR 1 (by decide)
        have q2 := hR 2 (by decide)
        have q3 := hR 3 (by decide)
        have q4 := hR 4 (by decide)
        have q5 := hR 5 (by decide)
        have q6 := hR 6 (by decide)
        have q7 := hR 7 (by decide)
        have q8 := hR 8 (by decide)
        have q9 := hR 9 (by decide)
        have q10 := hR 10 (by decide)
        have q11 := hR 11 (by decide)
        have q12 := hR 12 (by decide)
        have q13 := hR 13 (by decide)
        have q14 := hR 14 (by decide)
        have q15 := hR 15 (by decide)
        have q16 := hR 16 (by decide)
        have q17 := hR 17 (by decide)
        have q18 := hR 18 (by decide)
        have q19 := hR 19 (by decide)
        have q20 := hR 20 (by decide)
        have q21 := hR 21 (by decide)
        have q22 := hR 22 (by decide)
        have q23 := hR 23 (by decide)
        have q24 := hR 24 (by decide)
        have q25 := hR 25 (by decide)
        have q26 := hR 26 (by decide)
        have q27 := hR 27 (by decide)
        have q28 := hR 28 (by decide)
        have q29 := hR 29 (by decide)
        have q30 := hR 30 (by decide)
        have q31 := hR 31 (by decide)
        have q32 := hR 32 (by decide)
        have q33 := hR 33 (by decide)
        have q34 := hR 34 (by decide)
        have q35 := hR 35 (by decide)
        have q36 := hR 36 (by decide)
        have q37 := hR 37 (by decide)
        change vs 0 = .agg H1.cells.toArray at q0
        change vs 1 = .agg H1.cells.toArray at q1
        change vs 2 = .bool false at q2
        change vs 3 = .bool false at q3
        change vs 4 = .int .i64 0 at q4
        change vs 5 = .bool false at q5
        change vs 6 = .bool false at q6
        change vs 7 = .bool false at q7
        change vs 8 = .int .i64 0 at q8
        change vs 9 = .bool false at q9
        change vs 10 = .bool false at q10
        change vs 11 = .bool false at q11
        change vs 12 = .int .i64 0 at q12
        change vs 13 = .bool false at q13
        change vs 14 = .bool false at q14
        change vs 15 = .bool false at q15
        change vs 16 = .slice A4 (n3 + n') c4 at q16
        change (BsR l) (vs 17) w13 at q17
        change vs 18 = str l at q18
        change vs 19 = .slice A n c at q19
        change vs 20 = str l at q20
        change vs 21 = .bool false at q21
        change vs 22 = .bool false at q22
        change vs 23 = .bool false at q23
        change vs 24 = .slice A8 (n3 + n') c8 at q24
        change (BsR l) (vs 25) w13 at q25
        change vs 26 = str l at q26
        change vs 27 = .slice A n c at q27
        change vs 28 = str l at q28
        change vs 29 = .bool false at q29
        change vs 30 = .bool false at q30
        change vs 31 = .bool false at q31
        change vs 32 = .slice A8 (n3 + n') c8 at q32
        change vs 33 = .int .i64 ((n3 + n' : Nat) : Int) at q33
        change vs 34 = .slice A4 (n3 + n') c4 at q34
        change vs 35 = .int .i64 ((n3 + n' : Nat) : Int) at q35
        change vs 36 = .bool false at q36
        change vs 37 = .bool false at q37
        simp only [putAll, Act.put, List.setIfInBounds_toArray, List.set_cons_zero, List.set_cons_succ, q0, q1, q2, q3, q4, q5, q6, q7, q8, q9, q10, q11, q12, q13, q14, q15, q16, q18, q19, q20, q21, q22, q23, q24, q26, q27, q28, q29, q30, q31, q32, q33, q34, q35, q36, q37]
        clear q0 q1 q2 q3 q4 q5 q6 q7 q8 q9 q10 q11 q12 q13 q14 q15 q16 q18 q19 q20 q21 q22 q23 q24 q26 q27 q28 q29 q30 q31 q32 q33 q34 q35 q36 q37
        clear hR
        have hb13 := bthen (below_drew w12) (grow_below hX13)
        replace HW := Lib.hid (bthen HW.out hb13)
        replace HB := Lib.hid (HB.out.on hb13)
        replace HQ := Lib.hid (HQ.out.on hb13)
        clear hb13 hX13 q17 q25
        have hbx := HB.out
        have c6 := hbx.cell 6
        rw [HC6.out] at c6
        have hf6 := hbx.frozen 6
        have hset := hbx.set 6 (.int .u8 T)
        rw [HS2.out] at hset
        have HS := Lib.hid hset
        have hwt : IntKind.u8.wrap (h.ttl + 1) = T := by rw [HT.out, IntKind.wrap_u8]
        have HWT := Lib.hid (show (h.ttl + 1) % 256 = T from HT.out.symm)
        have hq := HQ.out.far (p := ⟨w.heap.size, 6, none⟩) (by show w10.heap.size ≠ w.heap.size; have := HNE.out; omega) (.int .u8 T)
        have HQ' := Lib.hid hq
        clear hset hbx hq hwt
        have hwt := HWT.out
        go_wp2_with (first
          | (refine wpList_load_blk (by rfl) 27 (.tmp 14) (by rfl) w10.heap.size (by rfl) 27 _ _ HQ'.out Try.underlying27 rfl (size4 _ HK2.out.ok) ?_)
          | (refine wpList_load_blk (by rfl) 27 (.tmp 3) (by rfl) w.heap.size (by rfl) 27 _ _ HS.out Try.underlying27 rfl (size4 _ HK2.out.ok) ?_)
          | (refine wpList_value (by rfl) (exec_eq4 _ _ _ (by rfl) H2 HK2.out.ok (by rfl) (by rfl)) ?_))
        go_ret
        exact ⟨rfl, HW.out.setCell (Nat.le_refl _) _⟩
end Go.Proofs.Ytehidnfkogfaoaa

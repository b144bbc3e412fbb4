/- The walk of layer 3's EntryFour. No condition but those of the row. -/
import Derived.Test.YtfcnohhcgbebdaaLaw03
import Derived.Test.YtfcnohhcgbebdaaOpenArr
namespace Go.Proofs.Ytfcnohhcgbebdaa
open Go.ChangeShapes Go.WideShapes Go.ChangeAt Go.RowKit
set_option linter.unusedVariables false
set_option linter.unusedSimpArgs false

theorem toBe_be (n : Nat) : ∀ l : List UInt8, l.length = n → toBe n (be l) = l := by
  induction n with
  | zero => intro l hl; rw [List.eq_nil_of_length_eq_zero hl]; rfl
  | succ n ih =>
    intro l hl
    rcases List.eq_nil_or_concat l with rfl | ⟨r, u, rfl⟩
    · simp at hl
    · simp only [List.concat_eq_append, List.length_append, List.length_singleton] at hl ⊢
      have hu := u.toNat_lt
      rw [be_snoc, toBe, show (be r * 256 + u.toNat) / 256 = be r by omega, show (be r * 256 + u.toNat) % 256 = u.toNat by omega, ih r (by omega)]
      simp
theorem unp_pack (l : List UInt8) (hl : l.length = 4) : packL (unpE l) = l ∧ packE (unpE l) = 0 ∧ unpN l = 0 ∧ 0 ≤ (unpE l).label ∧ (unpE l).label ≤ 1048575 ∧ (unpE l).cls < 8 := by
  have hb := be_lt l
  rw [hl] at hb
  have hb' : be l < 4294967296 := by simpa using hb
  have hu : unpE l = ⟨(be l / 4096 : Nat), (be l / 512 % 8 : Nat), be l / 256 % 2 == 1, (be l % 256 : Nat)⟩ := by
    unfold unpE
    rw [if_neg (by omega), List.take_of_length_le (by omega)]
  have hg : (unpE l).good := by rw [hu]; refine ⟨?_, ?_, ?_⟩ <;> simp only <;> omega
  have hn : (unpE l).num = (be l : Nat) := by
    rw [hu]
    unfold Ent.num
    simp only [beq_iff_eq]
    split <;> omega
  refine ⟨?_, if_pos hg, by unfold unpN; rw [if_neg (by omega)], hg.1, hg.2.1, by have := hg.2.2; omega⟩
  unfold packL
  rw [if_pos hg, hn]
  exact toBe_be 4 l hl

theorem open_four {H : Type} {enc : TypeId × Value → H} {w : World} {base : Nat} {spare : Nat → Bool} {held : Bool} {r : Reach} {b0 : Nat} {v : Value} {d : DataW H} {ps : List MemPlace}
    (hv : Value.okWide Try.prog w r b0 40 v) (h : DataW.Trod enc Try.prog w base spare held 40 v d ps) : ∃ l : List UInt8, v = .agg (bv l).toArray ∧ l.length = 4 := by
  simp only [Value.okWide, Try.underlying40] at hv
  obtain ⟨cs, rfl, _⟩ := hv
  obtain ⟨fuel, hf⟩ := h
  obtain ⟨l, h1, h2⟩ := cell_bytes Try.underlying40 Try.underlying5 (by kernel_rfl) (by kernel_rfl) ⟨_, hf⟩
  refine ⟨l, ?_, h2⟩
  rw [← h1]
  simp [Value.cells]

set_option maxHeartbeats 4000000 in
theorem walk_EntryFour (w : World) (l : List UInt8) (hl : l.length = 4) : Calls Try.prog 4 #[.agg (bv l).toArray] w fun e w' => e = .returned (.bool true) ∧ Below w.heap.size w w' := by
  obtain ⟨p1, p2, p3, p4, p5, p6⟩ := unp_pack l hl
  have hbl : (bv l).length = 4 := by rw [bv_length, hl]
  have H1 := Lib.hid p1
  have H2 := Lib.hid p2
  have H3 := Lib.hid p3
  have hL0 := Lib.hid p4
  have hL1 := Lib.hid p5
  have hC1 := Lib.hid p6
  have HBL := Lib.hid hbl
  have HL := Lib.hid hl
  clear p1 p2 p3 p4 p5 p6 hbl hl
  go_enter Try.func4, Try.ntmps4
  go_wp2_with (refine wpList_box_blk rfl 40 _ rfl (bv l) rfl ?_; intro w0 hbb0 hB0 hs0)
  refine (awake_any w0).mono ?_
  rintro e w1 ⟨rfl, hb1⟩
  have hBk := hbb0.on hb1
  have HW1 := Lib.hid (bthen hB0 hb1)
  have hrow := hBk.row 1 0 4 (by rw [HBL.out]; omega)
  rw [show (bv l).drop 0 = bv l from rfl, List.take_of_length_le (by rw [HBL.out]; omega)] at hrow
  have HR1 := Lib.hid (show (Bs.mk (some ⟨w.heap.size, 0, none⟩) 4 4 l).ok w1 from ⟨hrow, Nat.le_refl _, by simp [maxLen]⟩)
  clear hBk hrow hbb0 hB0 hs0 hb1
  go_wp2_with fail
  refine (unpack_any (some ⟨w.heap.size, 0, none⟩) 4 4 l w1 HR1.out.row HR1.out.le HR1.out.cap (by omega)).mono ?_
  rintro e w3 ⟨rfl, hb3⟩
  rw [H3.out]
  have hB4 := alloc_below w3 (.cells #[.int .i64 (unpE l).label, .int .u8 (unpE l).cls, .bool (unpE l).bot, .int .u8 (unpE l).ttl] 23)
  have HU3 := Lib.hid (Blk.new w3 23 [.int .i64 (unpE l).label, .int .u8 (unpE l).cls, .bool (unpE l).bot, .int .u8 (unpE l).ttl])
  have HW3 := Lib.hid (bthen (bthen HW1.out hb3) hB4)
  have HR3 := Lib.hid ((HR1.out.below hb3).below hB4)
  clear hb3 hB4 HW1 HR1
  go_wp2_with (refine wpList_load_blk (by rfl) 23 (.tmp 4) (by rfl) w3.heap.size (by rfl) 23 _ _ HU3.out Try.underlying23 rfl (by kernel_rfl) ?_)
  refine (pack_any (unpE l) (unpE_fit l) _).mono ?_
  rintro e w4 ⟨⟨A4, n4, c4, l4⟩, rfl, ho4, hl4, hb4⟩
  rw [H2.out]
  rw [H1.out] at hl4
  simp only at hl4
  subst l4
  obtain rfl : n4 = 4 := by have := ho4.len; have := HL.out; simp only at *; omega
  simp only [Bs.v]
  have HX := Lib.hid ho4
  have HU := Lib.hid (HU3.out.on hb4)
  have HW := Lib.hid (bthen HW3.out hb4)
  have HB := Lib.hid (HR3.out.below hb4)
  clear hb4 ho4 HU3 HW3 HR3
  go_wp2_with fail
  refine wp_region_rel (fun A B => A.grownBy B none) (fun A => grown_refl A _) (fun A B C h k => grown_trans h k) (relAt (List.cons (fun v _ => v = .int .i64 0) (List.cons (fun v _ => v = .bool true) (List.cons (fun v _ => v = .bool true) (List.cons (fun v _ => v = .int .i64 0) (List.cons (fun v _ => v = .bool true) (List.cons (fun v _ => v = .bool true) (List.cons (fun v _ => v = .bool true) (List.cons (fun v _ => v = .slice A4 4 c4) (List.cons (fun v _ => v = str l) (List.cons (fun v _ => v = .slice (some ⟨w.heap.size, 0, none⟩) 4 4) (List.cons (fun v _ => v = str l) (List.cons (fun v _ => v = .bool true) (List.cons (fun v _ => v = .bool true) (List.cons (fun v _ => v = .bool true) (List.cons (fun v _ => v = .pointer (some ⟨w3.heap.size, 0, none⟩)) (List.cons (fun v _ => v = .int .i64 (unpE l).label) (List.cons (fun v _ => v = .bool true) (List.cons (fun v _ => v = .bool true) (List.cons (fun v _ => v = .bool true) (List.cons (fun v _ => v = .pointer (some ⟨w3.heap.size, 0, none⟩)) (List.cons (fun v _ => v = .int .i64 (unpE l).label) (List.cons (fun v _ => v = .bool true) (List.cons (fun v _ => v = .bool true) (List.cons (fun v _ => v = .bool true) (List.cons (fun v _ => v = .pointer (some ⟨w3.heap.size, 1, none⟩)) (List.cons (fun v _ => v = .int .u8 (unpE l).cls) (List.cons (fun v _ => v = .bool true) (List.cons (fun v _ => v = .bool true) (List.cons (fun v _ => v = .bool true) ([]))))))))))))))))))))))))))))))) (MonoL.at_ (.cons (mono_val _) (.cons (mono_val _) (.cons (mono_val _) (.cons (mono_val _) (.cons (mono_val _) (.cons (mono_val _) (.cons (mono_val _) (.cons (mono_val _) (.cons (mono_val _) (.cons (mono_val _) (.cons (mono_val _) (.cons (mono_val _) (.cons (mono_val _) (.cons (mono_val _) (.cons (mono_val _) (.cons (mono_val _) (.cons (mono_val _) (.cons (mono_val _) (.cons (mono_val _) (.cons (mono_val _) (.cons (mono_val _) (.cons (mono_val _) (.cons (mono_val _) (.cons (mono_val _) (.cons (mono_val _) (.cons (mono_val _) (.cons (mono_val _) (.cons (mono_val _) (.cons (mono_val _) .nil)))))))))))))))))))))))))))))) (by kernel_rfl) (by kernel_rfl) ⟨?_, ?_, ?_, ?_, ?_, ?_, ?_, ?_, ?_, ?_, ?_, ?_, ?_, ?_, ?_, ?_, ?_, ?_, ?_, ?_, ?_, ?_, ?_, ?_, ?_, ?_, ?_, ?_, ?_, trivial⟩ ?_
  · intro a vs W hX hR he hf K hK
    rw [if_pos (wanted_none rfl)]
    have e5 : a.eval (.tmp 5) = .int .i64 0 := hf 5 (by kernel_rfl)
    refine wp_value (v := .int .i64 0) ?_ (hK _ _ rfl (grown_refl W _))
    simp only [execOp, e5]
    try go_simp
    try (first | rfl | omega | (simp only [IntKind.wrap_i64, IntKind.wrap_u8, IntKind.wrap_u64, IntKind.wrap_u16, IntKind.wrap_u32]; omega) | (rw [Int.tmod_eq_emod_of_nonneg (by omega)]) | (rw [Int.tmod_eq_emod_of_nonneg (by omega)]; omega))
  · intro a vs W hX hR he hf K hK
    rw [if_pos (wanted_none rfl)]
    have e21 : a.eval (.tmp 21) = .int .i64 0 := (he 0 21 (by kernel_rfl) rfl).trans (hR 0 (by kernel_rfl))
    refine wp_value (v := .bool true) ?_ (hK _ _ rfl (grown_refl W _))
    simp only [execOp, e21]
    try go_simp
    try (first | rfl | omega | (simp only [IntKind.wrap_i64, IntKind.wrap_u8, IntKind.wrap_u64, IntKind.wrap_u16, IntKind.wrap_u32]; omega) | (rw [Int.tmod_eq_emod_of_nonneg (by omega)]) | (rw [Int.tmod_eq_emod_of_nonneg (by omega)]; omega))
  · intro a vs W hX hR he hf K hK
    rw [if_pos (wanted_none rfl)]
    have e22 : a.eval (.tmp 22) = .bool true := (he 1 22 (by kernel_rfl) rfl).trans (hR 1 (by kernel_rfl))
    refine wp_value (v := .bool true) ?_ (hK _ _ rfl (grown_refl W _))
    simp only [execOp, e22]
    try go_simp
    try (first | rfl | omega | (simp only [IntKind.wrap_i64, IntKind.wrap_u8, IntKind.wrap_u64, IntKind.wrap_u16, IntKind.wrap_u32]; omega) | (rw [Int.tmod_eq_emod_of_nonneg (by omega)]) | (rw [Int.tmod_eq_emod_of_nonneg (by omega)]; omega))
  · intro a vs W hX hR he hf K hK
    have e23 : a.eval (.tmp 23) = .bool true := (he 2 23 (by kernel_rfl) rfl).trans (hR 2 (by kernel_rfl))
    refine Eq.mpr (if_pos (by exact (wanted_some rfl rfl e23).trans rfl)) ?_
    have e7 : a.eval (.tmp 7) = .int .i64 0 := hf 7 (by kernel_rfl)
    refine wp_value (v := .int .i64 0) ?_ (hK _ _ rfl (grown_refl W _))
    simp only [execOp, e7]
    try go_simp
    try (first | rfl | omega | (simp only [IntKind.wrap_i64, IntKind.wrap_u8, IntKind.wrap_u64, IntKind.wrap_u16, IntKind.wrap_u32]; omega) | (rw [Int.tmod_eq_emod_of_nonneg (by omega)]) | (rw [Int.tmod_eq_emod_of_nonneg (by omega)]; omega))
  · intro a vs W hX hR he hf K hK
    have e23 : a.eval (.tmp 23) = .bool true := (he 2 23 (by kernel_rfl) rfl).trans (hR 2 (by kernel_rfl))
    refine Eq.mpr (if_pos (by exact (wanted_some rfl rfl e23).trans rfl)) ?_
    have e24 : a.eval (.tmp 24) = .int .i64 0 := (he 3 24 (by kernel_rfl) rfl).trans (hR 3 (by kernel_rfl))
    refine wp_value (v := .bool true) ?_ (hK _ _ rfl (grown_refl W _))
    simp only [execOp, e24]
    try go_simp
    try (first | rfl | omega | (simp only [IntKind.wrap_i64, IntKind.wrap_u8, IntKind.wrap_u64, IntKind.wrap_u16, IntKind.wrap_u32]; omega) | (rw [Int.tmod_eq_emod_of_nonneg (by omega)]) | (rw [Int.tmod_eq_emod_of_nonneg (by omega)]; omega))
  · intro a vs W hX hR he hf K hK
    rw [if_pos (wanted_none rfl)]
    have e23 : a.eval (.tmp 23) = .bool true := (he 2 23 (by kernel_rfl) rfl).trans (hR 2 (by kernel_rfl))
    have e25 : a.eval (.tmp 25) = .bool true := (he 4 25 (by kernel_rfl) rfl).trans (hR 4 (by kernel_rfl))
    refine wp_value (v := .bool true) ?_ (hK _ _ rfl (grown_refl W _))
    simp only [execOp, e23, e25]
    try go_simp
    try (first | rfl | omega | (simp only [IntKind.wrap_i64, IntKind.wrap_u8, IntKind.wrap_u64, IntKind.wrap_u16, IntKind.wrap_u32]; omega) | (rw [Int.tmod_eq_emod_of_nonneg (by omega)]) | (rw [Int.tmod_eq_emod_of_nonneg (by omega)]; omega))
  · intro a vs W hX hR he hf K hK
    rw [if_pos (wanted_none rfl)]
    have e26 : a.eval (.tmp 26) = .bool true := (he 5 26 (by kernel_rfl) rfl).trans (hR 5 (by kernel_rfl))
    refine wp_value (v := .bool true) ?_ (hK _ _ rfl (grown_refl W _))
    simp only [execOp, e26]
    try go_simp
    try (first | rfl | omega | (simp only [IntKind.wrap_i64, IntKind.wrap_u8, IntKind.wrap_u64, IntKind.wrap_u16, IntKind.wrap_u32]; omega) | (rw [Int.tmod_eq_emod_of_nonneg (by omega)]) | (rw [Int.tmod_eq_emod_of_nonneg (by omega)]; omega))
  · intro a vs W hX hR he hf K hK
    have e27 : a.eval (.tmp 27) = .bool true := (he 6 27 (by kernel_rfl) rfl).trans (hR 6 (by kernel_rfl))
    refine Eq.mpr (if_pos (by exact (wanted_some rfl rfl e27).trans rfl)) ?_
    have e6 : a.eval (.tmp 6) = .slice A4 4 c4 := hf 6 (by kernel_rfl)
    refine wp_value (v := .slice A4 4 c4) ?_ (hK _ _ rfl (grown_refl W _))
    simp only [execOp, e6]
    try go_simp
    try (first | rfl | omega | (simp only [IntKind.wrap_i64, IntKind.wrap_u8, IntKind.wrap_u64, IntKind.wrap_u16, IntKind.wrap_u32]; omega) | (rw [Int.tmod_eq_emod_of_nonneg (by omega)]) | (rw [Int.tmod_eq_emod_of_nonneg (by omega)]; omega))
  · intro a vs W hX hR he hf K hK
    have e27 : a.eval (.tmp 27) = .bool true := (he 6 27 (by kernel_rfl) rfl).trans (hR 6 (by kernel_rfl))
    refine Eq.mpr (if_pos (by exact (wanted_some rfl rfl e27).trans rfl)) ?_
    have e28 : a.eval (.tmp 28) = .slice A4 4 c4 := (he 7 28 (by kernel_rfl) rfl).trans (hR 7 (by kernel_rfl))
    have hbW := bthen (below_drew _) (grow_below hX)
    exact wp_value (exec_str 24 9 5 _ rfl Try.underlying24 Try.underlying5 Try.underlying9 A4 4 c4 _ e28 (HX.out.below hbW)) (hK _ _ rfl (grown_refl W _))
  · intro a vs W hX hR he hf K hK
    have e27 : a.eval (.tmp 27) = .bool true := (he 6 27 (by kernel_rfl) rfl).trans (hR 6 (by kernel_rfl))
    refine Eq.mpr (if_pos (by exact (wanted_some rfl rfl e27).trans rfl)) ?_
    have e1 : a.eval (.tmp 1) = .pointer (some ⟨w.heap.size, 0, none⟩) := hf 1 (by kernel_rfl)
    refine wp_value (v := .slice (some ⟨w.heap.size, 0, none⟩) 4 4) ?_ (hK _ _ rfl (grown_refl W _))
    simp only [execOp, e1]
    try go_simp
    try (first | rfl | omega | (simp only [IntKind.wrap_i64, IntKind.wrap_u8, IntKind.wrap_u64, IntKind.wrap_u16, IntKind.wrap_u32]; omega) | (rw [Int.tmod_eq_emod_of_nonneg (by omega)]) | (rw [Int.tmod_eq_emod_of_nonneg (by omega)]; omega))
  · intro a vs W hX hR he hf K hK
    have e27 : a.eval (.tmp 27) = .bool true := (he 6 27 (by kernel_rfl) rfl).trans (hR 6 (by kernel_rfl))
    refine Eq.mpr (if_pos (by exact (wanted_some rfl rfl e27).trans rfl)) ?_
    have e30 : a.eval (.tmp 30) = .slice (some ⟨w.heap.size, 0, none⟩) 4 4 := (he 9 30 (by kernel_rfl) rfl).trans (hR 9 (by kernel_rfl))
    have hbW := bthen (below_drew _) (grow_below hX)
    exact wp_value (exec_str 24 9 5 _ rfl Try.underlying24 Try.underlying5 Try.underlying9 _ 4 4 _ e30 (HB.out.below hbW)) (hK _ _ rfl (grown_refl W _))
  · intro a vs W hX hR he hf K hK
    have e27 : a.eval (.tmp 27) = .bool true := (he 6 27 (by kernel_rfl) rfl).trans (hR 6 (by kernel_rfl))
    refine Eq.mpr (if_pos (by exact (wanted_some rfl rfl e27).trans rfl)) ?_
    have e29 : a.eval (.tmp 29) = str l := (he 8 29 (by kernel_rfl) rfl).trans (hR 8 (by kernel_rfl))
    have e31 : a.eval (.tmp 31) = str l := (he 10 31 (by kernel_rfl) rfl).trans (hR 10 (by kernel_rfl))
    refine wp_value (v := .bool true) ?_ (hK _ _ rfl (grown_refl W _))
    simp only [execOp, e29, e31]
    try go_simp
    try (first | rfl | omega | (simp only [IntKind.wrap_i64, IntKind.wrap_u8, IntKind.wrap_u64, IntKind.wrap_u16, IntKind.wrap_u32]; omega) | (rw [Int.tmod_eq_emod_of_nonneg (by omega)]) | (rw [Int.tmod_eq_emod_of_nonneg (by omega)]; omega))
  · intro a vs W hX hR he hf K hK
    rw [if_pos (wanted_none rfl)]
    have e27 : a.eval (.tmp 27) = .bool true := (he 6 27 (by kernel_rfl) rfl).trans (hR 6 (by kernel_rfl))
    have e32 : a.eval (.tmp 32) = .bool true := (he 11 32 (by kernel_rfl) rfl).trans (hR 11 (by kernel_rfl))
    refine wp_value (v := .bool true) ?_ (hK _ _ rfl (grown_refl W _))
    simp only [execOp, e27, e32]
    try go_simp
    try (first | rfl | omega | (simp only [IntKind.wrap_i64, IntKind.wrap_u8, IntKind.wrap_u64, IntKind.wrap_u16, IntKind.wrap_u32]; omega) | (rw [Int.tmod_eq_emod_of_nonneg (by omega)]) | (rw [Int.tmod_eq_emod_of_nonneg (by omega)]; omega))
  · intro a vs W hX hR he hf K hK
    rw [if_pos (wanted_none rfl)]
    have e33 : a.eval (.tmp 33) = .bool true := (he 12 33 (by kernel_rfl) rfl).trans (hR 12 (by kernel_rfl))
    refine wp_value (v := .bool true) ?_ (hK _ _ rfl (grown_refl W _))
    simp only [execOp, e33]
    try go_simp
    try (first | rfl | omega | (simp only [IntKind.wrap_i64, IntKind.wrap_u8, IntKind.wrap_u64, IntKind.wrap_u16, IntKind.wrap_u32]; omega) | (rw [Int.tmod_eq_emod_of_nonneg (by omega)]) | (rw [Int.tmod_eq_emod_of_nonneg (by omega)]; omega))
  · intro a vs W hX hR he hf K hK
    have e34 : a.eval (.tmp 34) = .bool true := (he 13 34 (by kernel_rfl) rfl).trans (hR 13 (by kernel_rfl))
    refine Eq.mpr (if_pos (by exact (wanted_some rfl rfl e34).trans rfl)) ?_
    have e4 : a.eval (.tmp 4) = .pointer (some ⟨w3.heap.size, 0, none⟩) := hf 4 (by kernel_rfl)
    refine wp_value (v := .pointer (some ⟨w3.heap.size, 0, none⟩)) ?_ (hK _ _ rfl (grown_refl W _))
    simp only [execOp, e4]
    try go_simp
    try (first | rfl | omega | (simp only [IntKind.wrap_i64, IntKind.wrap_u8, IntKind.wrap_u64, IntKind.wrap_u16, IntKind.wrap_u32]; omega) | (rw [Int.tmod_eq_emod_of_nonneg (by omega)]) | (rw [Int.tmod_eq_emod_of_nonneg (by omega)]; omega))
  · intro a vs W hX hR he hf K hK
    have e34 : a.eval (.tmp 34) = .bool true := (he 13 34 (by kernel_rfl) rfl).trans (hR 13 (by kernel_rfl))
    refine Eq.mpr (if_pos (by exact (wanted_some rfl rfl e34).trans rfl)) ?_
    have e35 : a.eval (.tmp 35) = .pointer (some ⟨w3.heap.size, 0, none⟩) := (he 14 35 (by kernel_rfl) rfl).trans (hR 14 (by kernel_rfl))
    have hbW := bthen (below_drew _) (grow_below hX)
    have hc : W.cell? ⟨w3.heap.size, 0, none⟩ = some (.int .i64 (unpE l).label) := (HU.out.on hbW).cell 0
    refine wp_value (v := _) ?_ (hK _ _ rfl (grown_refl W _))
    simp only [execOp, e35]
    go_simp
  · intro a vs W hX hR he hf K hK
    have e34 : a.eval (.tmp 34) = .bool true := (he 13 34 (by kernel_rfl) rfl).trans (hR 13 (by kernel_rfl))
    refine Eq.mpr (if_pos (by exact (wanted_some rfl rfl e34).trans rfl)) ?_
    have e36 : a.eval (.tmp 36) = .int .i64 (unpE l).label := (he 15 36 (by kernel_rfl) rfl).trans (hR 15 (by kernel_rfl))
    refine wp_value (v := _) ?_ (hK _ _ rfl (grown_refl W _))
    simp only [execOp, e36]
    go_simp
    try simp [hL0.out]
    try exact hL0.out
  · intro a vs W hX hR he hf K hK
    rw [if_pos (wanted_none rfl)]
    have e34 : a.eval (.tmp 34) = .bool true := (he 13 34 (by kernel_rfl) rfl).trans (hR 13 (by kernel_rfl))
    have e37 : a.eval (.tmp 37) = .bool true := (he 16 37 (by kernel_rfl) rfl).trans (hR 16 (by kernel_rfl))
    refine wp_value (v := .bool true) ?_ (hK _ _ rfl (grown_refl W _))
    simp only [execOp, e34, e37]
    try go_simp
    try (first | rfl | omega | (simp only [IntKind.wrap_i64, IntKind.wrap_u8, IntKind.wrap_u64, IntKind.wrap_u16, IntKind.wrap_u32]; omega) | (rw [Int.tmod_eq_emod_of_nonneg (by omega)]) | (rw [Int.tmod_eq_emod_of_nonneg (by omega)]; omega))
  · intro a vs W hX hR he hf K hK
    rw [if_pos (wanted_none rfl)]
    have e38 : a.eval (.tmp 38) = .bool true := (he 17 38 (by kernel_rfl) rfl).trans (hR 17 (by kernel_rfl))
    refine wp_value (v := .bool true) ?_ (hK _ _ rfl (grown_refl W _))
    simp only [execOp, e38]
    try go_simp
    try (first | rfl | omega | (simp only [IntKind.wrap_i64, IntKind.wrap_u8, IntKind.wrap_u64, IntKind.wrap_u16, IntKind.wrap_u32]; omega) | (rw [Int.tmod_eq_emod_of_nonneg (by omega)]) | (rw [Int.tmod_eq_emod_of_nonneg (by omega)]; omega))
  · intro a vs W hX hR he hf K hK
    have e39 : a.eval (.tmp 39) = .bool true := (he 18 39 (by kernel_rfl) rfl).trans (hR 18 (by kernel_rfl))
    refine Eq.mpr (if_pos (by exact (wanted_some rfl rfl e39).trans rfl)) ?_
    have e4 : a.eval (.tmp 4) = .pointer (some ⟨w3.heap.size, 0, none⟩) := hf 4 (by kernel_rfl)
    refine wp_value (v := .pointer (some ⟨w3.heap.size, 0, none⟩)) ?_ (hK _ _ rfl (grown_refl W _))
    simp only [execOp, e4]
    try go_simp
    try (first | rfl | omega | (simp only [IntKind.wrap_i64, IntKind.wrap_u8, IntKind.wrap_u64, IntKind.wrap_u16, IntKind.wrap_u32]; omega) | (rw [Int.tmod_eq_emod_of_nonneg (by omega)]) | (rw [Int.tmod_eq_emod_of_nonneg (by omega)]; omega))
  · intro a vs W hX hR he hf K hK
    have e39 : a.eval (.tmp 39) = .bool true := (he 18 39 (by kernel_rfl) rfl).trans (hR 18 (by kernel_rfl))
    refine Eq.mpr (if_pos (by exact (wanted_some rfl rfl e39).trans rfl)) ?_
    have e40 : a.eval (.tmp 40) = .pointer (some ⟨w3.heap.size, 0, none⟩) := (he 19 40 (by kernel_rfl) rfl).trans (hR 19 (by kernel_rfl))
    have hbW := bthen (below_drew _) (grow_below hX)
    have hc : W.cell? ⟨w3.heap.size, 0, none⟩ = some (.int .i64 (unpE l).label) := (HU.out.on hbW).cell 0
    refine wp_value (v := _) ?_ (hK _ _ rfl (grown_refl W _))
    simp only [execOp, e40]
    go_simp
  · intro a vs W hX hR he hf K hK
    have e39 : a.eval (.tmp 39) = .bool true := (he 18 39 (by kernel_rfl) rfl).trans (hR 18 (by kernel_rfl))
    refine Eq.mpr (if_pos (by exact (wanted_some rfl rfl e39).trans rfl)) ?_
    have e41 : a.eval (.tmp 41) = .int .i64 (unpE l).label := (he 20 41 (by kernel_rfl) rfl).trans (hR 20 (by kernel_rfl))
    refine wp_value (v := _) ?_ (hK _ _ rfl (grown_refl W _))
    simp only [execOp, e41]
    go_simp
    try simp [hL1.out]
    try exact hL1.out
  · intro a vs W hX hR he hf K hK
    rw [if_pos (wanted_none rfl)]
    have e39 : a.eval (.tmp 39) = .bool true := (he 18 39 (by kernel_rfl) rfl).trans (hR 18 (by kernel_rfl))
    have e42 : a.eval (.tmp 42) = .bool true := (he 21 42 (by kernel_rfl) rfl).trans (hR 21 (by kernel_rfl))
    refine wp_value (v := .bool true) ?_ (hK _ _ rfl (grown_refl W _))
    simp only [execOp, e39, e42]
    try go_simp
    try (first | rfl | omega | (simp only [IntKind.wrap_i64, IntKind.wrap_u8, IntKind.wrap_u64, IntKind.wrap_u16, IntKind.wrap_u32]; omega) | (rw [Int.tmod_eq_emod_of_nonneg (by omega)]) | (rw [Int.tmod_eq_emod_of_nonneg (by omega)]; omega))
  · intro a vs W hX hR he hf K hK
    rw [if_pos (wanted_none rfl)]
    have e43 : a.eval (.tmp 43) = .bool true := (he 22 43 (by kernel_rfl) rfl).trans (hR 22 (by kernel_rfl))
    refine wp_value (v := .bool true) ?_ (hK _ _ rfl (grown_refl W _))
    simp only [execOp, e43]
    try go_simp
    try (first | rfl | omega | (simp only [IntKind.wrap_i64, IntKind.wrap_u8, IntKind.wrap_u64, IntKind.wrap_u16, IntKind.wrap_u32]; omega) | (rw [Int.tmod_eq_emod_of_nonneg (by omega)]) | (rw [Int.tmod_eq_emod_of_nonneg (by omega)]; omega))
  · intro a vs W hX hR he hf K hK
    have e44 : a.eval (.tmp 44) = .bool true := (he 23 44 (by kernel_rfl) rfl).trans (hR 23 (by kernel_rfl))
    refine Eq.mpr (if_pos (by exact (wanted_some rfl rfl e44).trans rfl)) ?_
    have e4 : a.eval (.tmp 4) = .pointer (some ⟨w3.heap.size, 0, none⟩) := hf 4 (by kernel_rfl)
    refine wp_value (v := .pointer (some ⟨w3.heap.size, 1, none⟩)) ?_ (hK _ _ rfl (grown_refl W _))
    simp only [execOp, e4]
    try go_simp
    try (first | rfl | omega | (simp only [IntKind.wrap_i64, IntKind.wrap_u8, IntKind.wrap_u64, IntKind.wrap_u16, IntKind.wrap_u32]; omega) | (rw [Int.tmod_eq_emod_of_nonneg (by omega)]) | (rw [Int.tmod_eq_emod_of_nonneg (by omega)]; omega))
  · intro a vs W hX hR he hf K hK
    have e44 : a.eval (.tmp 44) = .bool true := (he 23 44 (by kernel_rfl) rfl).trans (hR 23 (by kernel_rfl))
    refine Eq.mpr (if_pos (by exact (wanted_some rfl rfl e44).trans rfl)) ?_
    have e45 : a.eval (.tmp 45) = .pointer (some ⟨w3.heap.size, 1, none⟩) := (he 24 45 (by kernel_rfl) rfl).trans (hR 24 (by kernel_rfl))
    have hbW := bthen (below_drew _) (grow_below hX)
    have hc : W.cell? ⟨w3.heap.size, 1, none⟩ = some (.int .u8 (unpE l).cls) := (HU.out.on hbW).cell 1
    refine wp_value (v := _) ?_ (hK _ _ rfl (grown_refl W _))
    simp only [execOp, e45]
    go_simp
  · intro a vs W hX hR he hf K hK
    have e44 : a.eval (.tmp 44) = .bool true := (he 23 44 (by kernel_rfl) rfl).trans (hR 23 (by kernel_rfl))
    refine Eq.mpr (if_pos (by exact (wanted_some rfl rfl e44).trans rfl)) ?_
    have e46 : a.eval (.tmp 46) = .int .u8 (unpE l).cls := (he 25 46 (by kernel_rfl) rfl).trans (hR 25 (by kernel_rfl))
    refine wp_value (v := _) ?_ (hK _ _ rfl (grown_refl W _))
    simp only [execOp, e46]
    go_simp
    try simp [hC1.out]
    try exact hC1.out
  · intro a vs W hX hR he hf K hK
    rw [if_pos (wanted_none rfl)]
    have e44 : a.eval (.tmp 44) = .bool true := (he 23 44 (by kernel_rfl) rfl).trans (hR 23 (by kernel_rfl))
    have e47 : a.eval (.tmp 47) = .bool true := (he 26 47 (by kernel_rfl) rfl).trans (hR 26 (by kernel_rfl))
    refine wp_value (v := .bool true) ?_ (hK _ _ rfl (grown_refl W _))
    simp only [execOp, e44, e47]
    try go_simp
    try (first | rfl | omega | (simp only [IntKind.wrap_i64, IntKind.wrap_u8, IntKind.wrap_u64, IntKind.wrap_u16, IntKind.wrap_u32]; omega) | (rw [Int.tmod_eq_emod_of_nonneg (by omega)]) | (rw [Int.tmod_eq_emod_of_nonneg (by omega)]; omega))
  · intro a vs W hX hR he hf K hK
    rw [if_pos (wanted_none rfl)]
    have e48 : a.eval (.tmp 48) = .bool true := (he 27 48 (by kernel_rfl) rfl).trans (hR 27 (by kernel_rfl))
    refine wp_value (v := .bool true) ?_ (hK _ _ rfl (grown_refl W _))
    simp only [execOp, e48]
    try go_simp
    try (first | rfl | omega | (simp only [IntKind.wrap_i64, IntKind.wrap_u8, IntKind.wrap_u64, IntKind.wrap_u16, IntKind.wrap_u32]; omega) | (rw [Int.tmod_eq_emod_of_nonneg (by omega)]) | (rw [Int.tmod_eq_emod_of_nonneg (by omega)]; omega))
  · intro vs W hX hR
    have q0 := hR 0 (by decide)
    have q1 := hR 1 (by decide)
    have q2 := hR 2 (by decide)
    have q3 := hR 3 (by decide)
    have q4 := hR 4 (by decide)
    have q5 := hR 5 (by decide)
    have q6 := hR 6 (by decide)
    have q7 := hR 7 (by decide)
    have q8 := hR 8 (by decide)
    have q9 := hR 9 (by decide)
    have q10 := hR 10 (by decide)
    have q11 := hR 11 (by decide)
    have q12 := hR 12 (by decide)
    have q13 := hR 13 (by decide)
    have q14 := hR 14 (by decide)
    have q15 := hR 15 (by decide)
    have q16 := hR 16 (by decide)
    have q17 := hR 17 (by decide)
    have q18 := hR 18 (by decide)
    have q19 := hR 19 (by decide)
    have q20 := hR 20 (by decide)
    have q21 := hR 21 (by decide)
    have q22 := hR 22 (by decide)
    have q23 := hR 23 (by decide)
    have q24 := hR 24 (by decide)
    have q25 := hR 25 (by decide)
    have q26 := hR 26 (by decide)
    have q27 := hR 27 (by decide)
    have q28 := hR 28 (by decide)
    change vs 0 = .int .i64 0 at q0
    change vs 1 = .bool true at q1
    change vs 2 = .bool true at q2
    change vs 3 = .int .i64 0 at q3
    change vs 4 = .bool true at q4
    change vs 5 = .bool true at q5
    change vs 6 = .bool true at q6
    change vs 7 = .slice A4 4 c4 at q7
    change vs 8 = str l at q8
    change vs 9 = .slice (some ⟨w.heap.size, 0, none⟩) 4 4 at q9
    change vs 10 = str l at q10
    change vs 11 = .bool true at q11
    change vs 12 = .bool true at q12
    change vs 13 = .bool true at q13
    change vs 14 = .pointer (some ⟨w3.heap.size, 0, none⟩) at q14
    change vs 15 = .int .i64 (unpE l).label at q15
    change vs 16 = .bool true at q16
    change vs 17 = .bool true at q17
    change vs 18 = .bool true at q18
    change vs 19 = .pointer (some ⟨w3.heap.size, 0, none⟩) at q19
    change vs 20 = .int .i64 (unpE l).label at q20
    change vs 21 = .bool true at q21
    change vs 22 = .bool true at q22
    change vs 23 = .bool true at q23
    change vs 24 = .pointer (some ⟨w3.heap.size, 1, none⟩) at q24
    change vs 25 = .int .u8 (unpE l).cls at q25
    change vs 26 = .bool true at q26
    change vs 27 = .bool true at q27
    change vs 28 = .bool true at q28
    simp only [putAll, Act.put, List.setIfInBounds_toArray, List.set_cons_zero, List.set_cons_succ, q0, q1, q2, q3, q4, q5, q6, q7, q8, q9, q10, q11, q12, q13, q14, q15, q16, q17, q18, q19, q20, q21, q22, q23, q24, q25, q26, q27, q28]
    clear q0 q1 q2 q3 q4 q5 q6 q7 q8 q9 q10 q11 q12 q13 q14 q15 q16 q17 q18 q19 q20 q21 q22 q23 q24 q25 q26 q27 q28
    clear hR
    go_wp2
    go_ret
    exact ⟨rfl, bthen HW.out (bthen (below_drew _) (grow_below hX))⟩

end Go.Proofs.Ytfcnohhcgbebdaa

/- What flow.key4 and flow.Of compute. No condition but sizes. -/
import Derived.Test.YthjjcglheialfaaFlowk
import Derived.Test.YthjjcglheialfaaMapII
import Derived.Laws.CopyOwn
namespace Go.Proofs.Ythjjcglheialfaa
open Go.RowKit Go.Maps
set_option linter.unusedVariables false
set_option maxRecDepth 20000
set_option linter.unusedSimpArgs false

set_option maxHeartbeats 4000000 in
theorem key4_true (A : Option Addr) (n c : Nat) (l : List UInt8) (w : World) (h : Row w w.heap.size 1 A n (bv l)) (hc : n ≤ c) (hcm : c ≤ maxLen) (hn : n ≤ 1099511627776) (h4 : H4) (er : Int) (hp : par4 l = (h4, er)) (hm : h4.more = true) :
    Calls Try.prog 19 #[.slice A n c] w fun e w' => e = .returned (.tuple #[.agg (Ky.mk false (h4.src ++ z12) (h4.dst ++ z12) h4.pro 0 0).cells.toArray, .bool false, .int .i64 er]) ∧ Below w.heap.size w w' := by
  have hok : h4.ok := by have := par4_ok l; rw [hp] at this; exact this
  have P := fun W (hB : Below w.heap.size w W) => parse4_any A n c l W ((h.below hB).more hB.size) hc hcm hn
  rw [hp] at P
  simp only at P
  have HP := Lib.hid P
  have HOK := Lib.hid hok
  have HS := Lib.hid (h4.drop_src hok)
  have HD := Lib.hid (h4.drop_dst hok)
  have HM := Lib.hid hm
  obtain ⟨p, hpp⟩ : ∃ p, p = h4.pro := ⟨_, rfl⟩
  have HPR := Lib.hid hpp
  have HK0 : Hid ((⟨false, z16, z16, h4.pro, 0, 0⟩ : Ky).ok) := Lib.hid ⟨rfl, rfl⟩
  have HK1 : Hid ((⟨false, h4.src ++ z12, z16, h4.pro, 0, 0⟩ : Ky).ok) := Lib.hid ⟨by simp [hok.src, z12], rfl⟩
  have HK2 : Hid ((⟨false, h4.src ++ z12, h4.dst ++ z12, h4.pro, 0, 0⟩ : Ky).ok) := Lib.hid ⟨by simp [hok.src, z12], by simp [hok.dst, z12]⟩
  clear P hok h hm hp hpp
  go_enter Try.func19, Try.ntmps19
  go_wp2_with (refine wpList_alloc_blk rfl 26 rfl Ky.zero.cells zeroK ?_; intro w1 hb1 hB1 hs1)
  refine (HP.out w1 hB1).mono ?_
  rintro e w2 ⟨rfl, hb2⟩
  have hz2 := hb1.on hb2
  have hB2 := bthen hB1 hb2
  clear hb1 hB1 hs1 hb2
  go_wp2_with (first
    | (refine wpList_value rfl (exec_buildKp _ rfl h4.pro rfl) ?_)
    | (refine wpList_alloc_blk rfl 46 rfl H4.zero.cells zero4 ?_; intro w3 hbw3 hBw3 hsw3)
    | (refine wpList_store_all rfl 46 _ _ rfl w2.heap.size h4.cells rfl rfl 46 _ hbw3 (size4 _ HOK.out) (H4.cells_same _ _ HOK.out H4.zero_ok) (H4.one _) ?_; intro w4 hbw4 hgw4 hsw4; have hBw4 : Below w2.heap.size w2 w4 := bgrown hBw3 hgw4 (by omega) (by omega)); have c7 : w4.cell? ⟨w2.heap.size, 7, none⟩ = some (.int .u8 h4.pro) := hbw4.cell 7
    | (refine wpList_alloc_blk rfl 26 rfl Ky.zero.cells zeroK ?_; intro w5 hbw5 hBw5 hsw5)
    | (refine wpList_store_all rfl 26 _ _ rfl w4.heap.size (Ky.mk false z16 z16 h4.pro 0 0).cells rfl rfl 26 _ hbw5 (sizeK _ HK0.out) (Ky.cells_same _ _ HK0.out Ky.zero_ok) (Ky.one _) ?_; intro w6 hbw6 hgw6 hsw6; have hBw6 : Below w4.heap.size w4 w6 := bgrown hBw5 hgw6 (by omega) (by omega)))
  have hz6 := (hz2.on hBw4).on hBw6
  have hh6 := hbw4.on hBw6
  have hB6 := bthen (bthen hB2 hBw4) hBw6
  have hne1 : w2.heap.size ≠ w4.heap.size := by have := hbw4.lt; omega
  have hne2 : w.heap.size ≠ w4.heap.size := by have := (hz2.on hBw4).lt; omega
  have HNE3 : Hid (w.heap.size ≠ w2.heap.size) := Lib.hid (by have := hz2.lt; omega)
  have hle : w.heap.size ≤ w4.heap.size := by have := (hz2.on hBw4).lt; omega
  clear hz2 hbw3 hbw4 hBw3 hBw4 hgw4 hsw3 hsw4 hbw5 hBw5 hBw6 hgw6 hsw5 hsw6 hB2 c7
  refine wp_region_last 4 (fun A B => A.grownBy B none) (fun A => grown_refl A _) (fun A B C h k => grown_trans h k) (relAt (List.cons (fun v _ => v = .pointer (some ⟨w4.heap.size, 1, none⟩)) (List.cons (fun v _ => v = .slice (some ⟨w4.heap.size, 1, none⟩) 16 16) (List.cons (fun v _ => v = .pointer (some ⟨w2.heap.size, 8, none⟩)) (List.cons (fun v _ => v = .slice (some ⟨w2.heap.size, 8, none⟩) 4 4) ([])))))) (MonoL.at_ (.cons (mono_val _) (.cons (mono_val _) (.cons (mono_val _) (.cons (mono_val _) .nil))))) (by kernel_rfl) (by kernel_rfl) rfl (by kernel_rfl) _ rfl rfl ⟨?_, ?_, ?_, ?_, trivial⟩ ?_
  · intro a vs W hX hR he hf K hK
    rw [if_pos (wanted_none rfl)]
    have e7 : a.eval (.tmp 7) = .pointer (some ⟨w4.heap.size, 0, none⟩) := hf 7 (by kernel_rfl)
    refine wp_value (v := .pointer (some ⟨w4.heap.size, 1, none⟩)) ?_ (hK _ _ rfl (grown_refl W _))
    simp only [execOp, e7]
    try go_simp
    try (first | rfl | omega | (simp only [IntKind.wrap_i64, IntKind.wrap_u8, IntKind.wrap_u64, IntKind.wrap_u16, IntKind.wrap_u32]; omega) | (rw [Int.tmod_eq_emod_of_nonneg (by omega)]) | (rw [Int.tmod_eq_emod_of_nonneg (by omega)]; omega))
  · intro a vs W hX hR he hf K hK
    rw [if_pos (wanted_none rfl)]
    have e16 : a.eval (.tmp 16) = .pointer (some ⟨w4.heap.size, 1, none⟩) := (he 0 16 (by kernel_rfl) rfl).trans (hR 0 (by kernel_rfl))
    have f16 := e16
    simp only [Act.eval, Array.getD_eq_getD_getElem?] at f16
    refine wp_value (v := _) ?_ (hK _ _ rfl (grown_refl W _))
    simp only [execOp, e16]
    go_simp
  · intro a vs W hX hR he hf K hK
    rw [if_pos (wanted_none rfl)]
    have e5 : a.eval (.tmp 5) = .pointer (some ⟨w2.heap.size, 0, none⟩) := hf 5 (by kernel_rfl)
    refine wp_value (v := .pointer (some ⟨w2.heap.size, 8, none⟩)) ?_ (hK _ _ rfl (grown_refl W _))
    simp only [execOp, e5]
    try go_simp
    try (first | rfl | omega | (simp only [IntKind.wrap_i64, IntKind.wrap_u8, IntKind.wrap_u64, IntKind.wrap_u16, IntKind.wrap_u32]; omega) | (rw [Int.tmod_eq_emod_of_nonneg (by omega)]) | (rw [Int.tmod_eq_emod_of_nonneg (by omega)]; omega))
  · intro a vs W hX hR he hf K hK
    rw [if_pos (wanted_none rfl)]
    have e18 : a.eval (.tmp 18) = .pointer (some ⟨w2.heap.size, 8, none⟩) := (he 2 18 (by kernel_rfl) rfl).trans (hR 2 (by kernel_rfl))
    have f18 := e18
    simp only [Act.eval, Array.getD_eq_getD_getElem?] at f18
    refine wp_value (v := _) ?_ (hK _ _ rfl (grown_refl W _))
    simp only [execOp, e18]
    go_simp
  · intro vs w7 hX hR
    have q0 := hR 0 (by decide)
    have q1 := hR 1 (by decide)
    have q2 := hR 2 (by decide)
    have q3 := hR 3 (by decide)
    change vs 0 = .pointer (some ⟨w4.heap.size, 1, none⟩) at q0
    change vs 1 = .slice (some ⟨w4.heap.size, 1, none⟩) 16 16 at q1
    change vs 2 = .pointer (some ⟨w2.heap.size, 8, none⟩) at q2
    change vs 3 = .slice (some ⟨w2.heap.size, 8, none⟩) 4 4 at q3
    simp only [putAll, Act.put, List.setIfInBounds_toArray, List.set_cons_zero, List.set_cons_succ, List.take_succ_cons, List.take_zero, q0, q1, q2, q3]
    clear q0 q1 q2 q3
    clear hR
    have hk7 := hbw6.on (bthen (below_drew _) (grow_below hX))
    have hh7 := hh6.on (bthen (below_drew _) (grow_below hX))
    have hz7 := hz6.on (bthen (below_drew _) (grow_below hX))
    have hB7 := bthen hB6 (bthen (below_drew _) (grow_below hX))
    have hrow := hh7.row 1 8 4 (by rw [h4.cells_length HOK.out]; omega)
    rw [show 4 * 1 = 4 from rfl, HS.out] at hrow
    refine wp_copy_Blk (.tmp 17) (.tmp 19) 22 22 rfl Try.underlying22 (by kernel_rfl) 1 rfl rfl hk7 (by omega) (by omega) (by rw [Ky.cells_length _ HK0.out]; omega) hrow (bv_one _) ?_
    intro w8 hk8 hg8 hs8
    rw [Ky.put_src _ HK0.out _ HOK.out.src] at hk8
    have hh8 := hh7.grown hg8 (fun e => hne1 (by injection e))
    have hz8 := hz7.grown hg8 (fun e => hne2 (by injection e))
    have hB8 : Below w.heap.size w w8 := bgrown hB7 hg8 hB7.size hle
    clear hk7 hh7 hz7 hB7 hrow hg8 hs8 hX hbw6 hh6 hz6 hB6
    try simp only [List.getElem_toArray, List.getElem_cons_succ, List.getElem_cons_zero, Act.put, List.setIfInBounds_toArray, List.set_cons_zero, List.set_cons_succ]
    have hka : Blk w8 w4.heap.size 26 (Ky.mk false (h4.src ++ z12) z16 h4.pro 0 0).cells := hk8
    have hha := hh8
    have hza := hz8
    have hBa := hB8
    clear hk8 hh8 hz8 hB8
    go_wp2_with fail
    refine wp_region_last 4 (fun A B => A.grownBy B none) (fun A => grown_refl A _) (fun A B C h k => grown_trans h k) (relAt (List.cons (fun v _ => v = .pointer (some ⟨w4.heap.size, 17, none⟩)) (List.cons (fun v _ => v = .slice (some ⟨w4.heap.size, 17, none⟩) 16 16) (List.cons (fun v _ => v = .pointer (some ⟨w2.heap.size, 12, none⟩)) (List.cons (fun v _ => v = .slice (some ⟨w2.heap.size, 12, none⟩) 4 4) ([])))))) (MonoL.at_ (.cons (mono_val _) (.cons (mono_val _) (.cons (mono_val _) (.cons (mono_val _) .nil))))) (by kernel_rfl) (by kernel_rfl) rfl (by kernel_rfl) _ rfl rfl ⟨?_, ?_, ?_, ?_, trivial⟩ ?_
    · intro a vs W hX hR he hf K hK
      rw [if_pos (wanted_none rfl)]
      have e7 : a.eval (.tmp 7) = .pointer (some ⟨w4.heap.size, 0, none⟩) := hf 7 (by kernel_rfl)
      refine wp_value (v := .pointer (some ⟨w4.heap.size, 17, none⟩)) ?_ (hK _ _ rfl (grown_refl W _))
      simp only [execOp, e7]
      try go_simp
      try (first | rfl | omega | (simp only [IntKind.wrap_i64, IntKind.wrap_u8, IntKind.wrap_u64, IntKind.wrap_u16, IntKind.wrap_u32]; omega) | (rw [Int.tmod_eq_emod_of_nonneg (by omega)]) | (rw [Int.tmod_eq_emod_of_nonneg (by omega)]; omega))
    · intro a vs W hX hR he hf K hK
      rw [if_pos (wanted_none rfl)]
      have e21 : a.eval (.tmp 21) = .pointer (some ⟨w4.heap.size, 17, none⟩) := (he 0 21 (by kernel_rfl) rfl).trans (hR 0 (by kernel_rfl))
      have f21 := e21
      simp only [Act.eval, Array.getD_eq_getD_getElem?] at f21
      refine wp_value (v := _) ?_ (hK _ _ rfl (grown_refl W _))
      simp only [execOp, e21]
      go_simp
    · intro a vs W hX hR he hf K hK
      rw [if_pos (wanted_none rfl)]
      have e5 : a.eval (.tmp 5) = .pointer (some ⟨w2.heap.size, 0, none⟩) := hf 5 (by kernel_rfl)
      refine wp_value (v := .pointer (some ⟨w2.heap.size, 12, none⟩)) ?_ (hK _ _ rfl (grown_refl W _))
      simp only [execOp, e5]
      try go_simp
      try (first | rfl | omega | (simp only [IntKind.wrap_i64, IntKind.wrap_u8, IntKind.wrap_u64, IntKind.wrap_u16, IntKind.wrap_u32]; omega) | (rw [Int.tmod_eq_emod_of_nonneg (by omega)]) | (rw [Int.tmod_eq_emod_of_nonneg (by omega)]; omega))
    · intro a vs W hX hR he hf K hK
      rw [if_pos (wanted_none rfl)]
      have e23 : a.eval (.tmp 23) = .pointer (some ⟨w2.heap.size, 12, none⟩) := (he 2 23 (by kernel_rfl) rfl).trans (hR 2 (by kernel_rfl))
      have f23 := e23
      simp only [Act.eval, Array.getD_eq_getD_getElem?] at f23
      refine wp_value (v := _) ?_ (hK _ _ rfl (grown_refl W _))
      simp only [execOp, e23]
      go_simp
    · intro vs w9 hX hR
      have q0 := hR 0 (by decide)
      have q1 := hR 1 (by decide)
      have q2 := hR 2 (by decide)
      have q3 := hR 3 (by decide)
      change vs 0 = .pointer (some ⟨w4.heap.size, 17, none⟩) at q0
      change vs 1 = .slice (some ⟨w4.heap.size, 17, none⟩) 16 16 at q1
      change vs 2 = .pointer (some ⟨w2.heap.size, 12, none⟩) at q2
      change vs 3 = .slice (some ⟨w2.heap.size, 12, none⟩) 4 4 at q3
      simp only [putAll, Act.put, List.setIfInBounds_toArray, List.set_cons_zero, List.set_cons_succ, List.take_succ_cons, List.take_zero, q0, q1, q2, q3]
      clear q0 q1 q2 q3
      clear hR
      have hk7 := hka.on (bthen (below_drew _) (grow_below hX))
      have hh7 := hha.on (bthen (below_drew _) (grow_below hX))
      have hz7 := hza.on (bthen (below_drew _) (grow_below hX))
      have hB7 := bthen hBa (bthen (below_drew _) (grow_below hX))
      have hrow := hh7.row 1 12 4 (by rw [h4.cells_length HOK.out]; omega)
      rw [show 4 * 1 = 4 from rfl, HD.out] at hrow
      refine wp_copy_Blk (.tmp 22) (.tmp 24) 22 22 rfl Try.underlying22 (by kernel_rfl) 17 rfl rfl hk7 (by omega) (by omega) (by rw [Ky.cells_length _ HK1.out]; omega) hrow (bv_one _) ?_
      intro w10 hk8 hg8 hs8
      rw [Ky.put_dst _ HK1.out _ HOK.out.dst] at hk8
      have hh8 := hh7.grown hg8 (fun e => hne1 (by injection e))
      have hz8 := hz7.grown hg8 (fun e => hne2 (by injection e))
      have hB8 : Below w.heap.size w w10 := bgrown hB7 hg8 hB7.size hle
      clear hk7 hh7 hz7 hB7 hrow hg8 hs8 hX hka hha hza hBa
      try simp only [List.getElem_toArray, List.getElem_cons_succ, List.getElem_cons_zero, Act.put, List.setIfInBounds_toArray, List.set_cons_zero, List.set_cons_succ]
      have hkb : Blk w10 w4.heap.size 26 (Ky.mk false (h4.src ++ z12) (h4.dst ++ z12) h4.pro 0 0).cells := hk8
      have hhb := hh8
      have hzb := hz8
      have hBb := hB8
      clear hk8 hh8 hz8 hB8
      go_wp2_with fail
      have hne3 : w.heap.size ≠ w2.heap.size := HNE3.out
      refine wp_region_rel (Ext1 w.heap.size 26 (Ky.mk false (h4.src ++ z12) (h4.dst ++ z12) h4.pro 0 0).cells) (Ext1.refl w.heap.size 26 (Ky.mk false (h4.src ++ z12) (h4.dst ++ z12) h4.pro 0 0).cells) (fun A B C h k => h.trans k) (relAt (List.cons (fun v _ => v = .agg (Ky.mk false (h4.src ++ z12) (h4.dst ++ z12) h4.pro 0 0).cells.toArray) (List.cons (fun v _ => v = .pointer (some ⟨w2.heap.size, 4, none⟩)) (List.cons (fun v _ => v = .bool true) (List.cons (fun v _ => v = .bool false) (List.cons (fun v _ => v = .bool false) (List.cons (fun v _ => v = undef) (List.cons (fun v _ => v = undef) (List.cons (fun v _ => v = undef) (List.cons (fun v _ => v = .bool false) (List.cons (fun v _ => v = .int .i64 er) (List.cons (fun _ W => Blk W w.heap.size 26 (Ky.mk false (h4.src ++ z12) (h4.dst ++ z12) h4.pro 0 0).cells) (List.cons (fun v _ => v = .bool false) (List.cons (fun v _ => v = .int .i64 er) ([]))))))))))))))) (MonoL.at_ (.cons (mono_val _) (.cons (mono_val _) (.cons (mono_val _) (.cons (mono_val _) (.cons (mono_val _) (.cons (mono_val _) (.cons (mono_val _) (.cons (mono_val _) (.cons (mono_val _) (.cons (mono_val _) (.cons (fun _ A B h hx => hx.stays h) (.cons (mono_val _) (.cons (mono_val _) .nil)))))))))))))) (by kernel_rfl) (by kernel_rfl) ⟨?_, ?_, ?_, ?_, ?_, ?_, ?_, ?_, ?_, ?_, ?_, ?_, ?_, trivial⟩ ?_
      · intro a vs W hX hR he hf K hK
        rw [if_pos (wanted_none rfl)]
        have e7 : a.eval (.tmp 7) = .pointer (some ⟨w4.heap.size, 0, none⟩) := hf 7 (by kernel_rfl)
        have hkW := (hkb.drew).grown hX.grown (fun e => hne2 (by injection e with e; exact e.symm))
        have hhW := (hhb.drew).grown hX.grown (fun e => hne3 (by injection e with e; exact e.symm))
        exact wp_value (exec_load 26 _ rfl w4.heap.size e7 26 _ _ hkW Try.underlying26 rfl (sizeK _ HK2.out)) (hK _ _ rfl (Ext1.refl _ _ _ W))
      · intro a vs W hX hR he hf K hK
        rw [if_pos (wanted_none rfl)]
        have e5 : a.eval (.tmp 5) = .pointer (some ⟨w2.heap.size, 0, none⟩) := hf 5 (by kernel_rfl)
        refine wp_value (v := .pointer (some ⟨w2.heap.size, 4, none⟩)) ?_ (hK _ _ rfl (Ext1.refl _ _ _ W))
        simp only [execOp, e5]
        try go_simp
        try (first | rfl | omega | (simp only [IntKind.wrap_i64, IntKind.wrap_u8, IntKind.wrap_u64, IntKind.wrap_u16, IntKind.wrap_u32]; omega) | (rw [Int.tmod_eq_emod_of_nonneg (by omega)]) | (rw [Int.tmod_eq_emod_of_nonneg (by omega)]; omega))
      · intro a vs W hX hR he hf K hK
        rw [if_pos (wanted_none rfl)]
        have e27 : a.eval (.tmp 27) = .pointer (some ⟨w2.heap.size, 4, none⟩) := (he 1 27 (by kernel_rfl) rfl).trans (hR 1 (by kernel_rfl))
        have hkW := (hkb.drew).grown hX.grown (fun e => hne2 (by injection e with e; exact e.symm))
        have hhW := (hhb.drew).grown hX.grown (fun e => hne3 (by injection e with e; exact e.symm))
        have hc : W.cell? ⟨w2.heap.size, 4, none⟩ = some (.bool h4.more) := hhW.cell 4
        rw [HM.out] at hc
        refine wp_value (v := _) ?_ (hK _ _ rfl (Ext1.refl _ _ _ W))
        simp only [execOp, e27]
        try go_simp
      · intro a vs W hX hR he hf K hK
        rw [if_pos (wanted_none rfl)]
        have e28 : a.eval (.tmp 28) = .bool true := (he 2 28 (by kernel_rfl) rfl).trans (hR 2 (by kernel_rfl))
        refine wp_value (v := .bool false) ?_ (hK _ _ rfl (Ext1.refl _ _ _ W))
        simp only [execOp, e28]
        try go_simp
        try (first | rfl | omega | (simp only [IntKind.wrap_i64, IntKind.wrap_u8, IntKind.wrap_u64, IntKind.wrap_u16, IntKind.wrap_u32]; omega) | (rw [Int.tmod_eq_emod_of_nonneg (by omega)]) | (rw [Int.tmod_eq_emod_of_nonneg (by omega)]; omega))
      · intro a vs W hX hR he hf K hK
        rw [if_pos (wanted_none rfl)]
        have e29 : a.eval (.tmp 29) = .bool false := (he 3 29 (by kernel_rfl) rfl).trans (hR 3 (by kernel_rfl))
        refine wp_value (v := .bool false) ?_ (hK _ _ rfl (Ext1.refl _ _ _ W))
        simp only [execOp, e29]
        try go_simp
        try (first | rfl | omega | (simp only [IntKind.wrap_i64, IntKind.wrap_u8, IntKind.wrap_u64, IntKind.wrap_u16, IntKind.wrap_u32]; omega) | (rw [Int.tmod_eq_emod_of_nonneg (by omega)]) | (rw [Int.tmod_eq_emod_of_nonneg (by omega)]; omega))
      · intro a vs W hX hR he hf K hK
        have e30 : a.eval (.tmp 30) = .bool false := (he 4 30 (by kernel_rfl) rfl).trans (hR 4 (by kernel_rfl))
        refine Eq.mpr (if_neg (fun hz => Bool.false_ne_true (Eq.trans (by exact Eq.symm ((wanted_some rfl rfl e30).trans rfl)) hz))) ?_
        exact hK _ _ rfl (Ext1.refl _ _ _ W)
      · intro a vs W hX hR he hf K hK
        have e30 : a.eval (.tmp 30) = .bool false := (he 4 30 (by kernel_rfl) rfl).trans (hR 4 (by kernel_rfl))
        refine Eq.mpr (if_neg (fun hz => Bool.false_ne_true (Eq.trans (by exact Eq.symm ((wanted_some rfl rfl e30).trans rfl)) hz))) ?_
        exact hK _ _ rfl (Ext1.refl _ _ _ W)
      · intro a vs W hX hR he hf K hK
        have e30 : a.eval (.tmp 30) = .bool false := (he 4 30 (by kernel_rfl) rfl).trans (hR 4 (by kernel_rfl))
        refine Eq.mpr (if_neg (fun hz => Bool.false_ne_true (Eq.trans (by exact Eq.symm ((wanted_some rfl rfl e30).trans rfl)) hz))) ?_
        exact hK _ _ rfl (Ext1.refl _ _ _ W)
      · intro a vs W hX hR he hf K hK
        rw [if_pos (wanted_none rfl)]
        have e30 : a.eval (.tmp 30) = .bool false := (he 4 30 (by kernel_rfl) rfl).trans (hR 4 (by kernel_rfl))
        have e33 : a.eval (.tmp 33) = undef := (he 7 33 (by kernel_rfl) rfl).trans (hR 7 (by kernel_rfl))
        refine wp_value (v := .bool false) ?_ (hK _ _ rfl (Ext1.refl _ _ _ W))
        simp only [execOp, e30, e33]
        try go_simp
        try (first | rfl | omega | (simp only [IntKind.wrap_i64, IntKind.wrap_u8, IntKind.wrap_u64, IntKind.wrap_u16, IntKind.wrap_u32]; omega) | (rw [Int.tmod_eq_emod_of_nonneg (by omega)]) | (rw [Int.tmod_eq_emod_of_nonneg (by omega)]; omega))
      · intro a vs W hX hR he hf K hK
        rw [if_pos (wanted_none rfl)]
        have e6 : a.eval (.tmp 6) = .int .i64 er := hf 6 (by kernel_rfl)
        refine wp_value (v := .int .i64 er) ?_ (hK _ _ rfl (Ext1.refl _ _ _ W))
        simp only [execOp, e6]
        try go_simp
        try (first | rfl | omega | (simp only [IntKind.wrap_i64, IntKind.wrap_u8, IntKind.wrap_u64, IntKind.wrap_u16, IntKind.wrap_u32]; omega) | (rw [Int.tmod_eq_emod_of_nonneg (by omega)]) | (rw [Int.tmod_eq_emod_of_nonneg (by omega)]; omega))
      · intro a vs W hX hR he hf K hK
        rw [if_pos (wanted_none rfl)]
        have e2 : a.eval (.tmp 2) = .pointer (some ⟨w.heap.size, 0, none⟩) := hf 2 (by kernel_rfl)
        have e26 : a.eval (.tmp 26) = .agg (Ky.mk false (h4.src ++ z12) (h4.dst ++ z12) h4.pro 0 0).cells.toArray := (he 0 26 (by kernel_rfl) rfl).trans (hR 0 (by kernel_rfl))
        obtain ⟨zs, hz, hbz⟩ := hX.there ⟨_, Ky.cells_same _ _ Ky.zero_ok HK2.out, hzb.drew⟩
        refine wp_store_all 26 _ _ rfl w.heap.size _ e2 e26 26 zs hbz (sizeK _ HK2.out) hz.symm (Ky.one _) ?_
        intro w' hb' hg' hs'
        exact hK _ _ hb' (Ext1.store hg' hb')
      · intro a vs W hX hR he hf K hK
        rw [if_pos (wanted_none rfl)]
        have e34 : a.eval (.tmp 34) = .bool false := (he 8 34 (by kernel_rfl) rfl).trans (hR 8 (by kernel_rfl))
        refine wp_value (v := .bool false) ?_ (hK _ _ rfl (Ext1.refl _ _ _ W))
        simp only [execOp, e34]
        try go_simp
        try (first | rfl | omega | (simp only [IntKind.wrap_i64, IntKind.wrap_u8, IntKind.wrap_u64, IntKind.wrap_u16, IntKind.wrap_u32]; omega) | (rw [Int.tmod_eq_emod_of_nonneg (by omega)]) | (rw [Int.tmod_eq_emod_of_nonneg (by omega)]; omega))
      · intro a vs W hX hR he hf K hK
        rw [if_pos (wanted_none rfl)]
        have e35 : a.eval (.tmp 35) = .int .i64 er := (he 9 35 (by kernel_rfl) rfl).trans (hR 9 (by kernel_rfl))
        refine wp_value (v := .int .i64 er) ?_ (hK _ _ rfl (Ext1.refl _ _ _ W))
        simp only [execOp, e35]
        try go_simp
        try (first | rfl | omega | (simp only [IntKind.wrap_i64, IntKind.wrap_u8, IntKind.wrap_u64, IntKind.wrap_u16, IntKind.wrap_u32]; omega) | (rw [Int.tmod_eq_emod_of_nonneg (by omega)]) | (rw [Int.tmod_eq_emod_of_nonneg (by omega)]; omega))
      · intro vs w12 hX12 hR
        have q0 := hR 0 (by decide)
        have q1 := hR 1 (by decide)
        have q2 := hR 2 (by decide)
        have q3 := hR 3 (by decide)
        have q4 := hR 4 (by decide)
        have q5 := hR 5 (by decide)
        have q6 := hR 6 (by decide)
        have q7 := hR 7 (by decide)
        have q8 := hR 8 (by decide)
        have q9 := hR 9 (by decide)
        have q10 := hR 10 (by decide)
        have q11 := hR 11 (by decide)
        have q12 := hR 12 (by decide)
        change vs 0 = .agg (Ky.mk false (h4.src ++ z12) (h4.dst ++ z12) h4.pro 0 0).cells.toArray at q0
        change vs 1 = .pointer (some ⟨w2.heap.size, 4, none⟩) at q1
        change vs 2 = .bool true at q2
        change vs 3 = .bool false at q3
        change vs 4 = .bool false at q4
        change vs 5 = undef at q5
        change vs 6 = undef at q6
        change vs 7 = undef at q7
        change vs 8 = .bool false at q8
        change vs 9 = .int .i64 er at q9
        change (fun _ W => Blk W w.heap.size 26 (Ky.mk false (h4.src ++ z12) (h4.dst ++ z12) h4.pro 0 0).cells) (vs 10) w12 at q10
        change vs 11 = .bool false at q11
        change vs 12 = .int .i64 er at q12
        simp only [putAll, Act.put, List.setIfInBounds_toArray, List.set_cons_zero, List.set_cons_succ, q0, q1, q2, q3, q4, q5, q6, q7, q8, q9, q11, q12]
        clear q0 q1 q2 q3 q4 q5 q6 q7 q8 q9 q11 q12
        clear hR
        have hg := hX12.grown
        go_wp2
        refine bodyPost_ret (results_cell3 rfl _ _ w.heap.size _ _ _ rfl q10 Try.underlying26 rfl (sizeK _ HK2.out)) rfl ?_
        exact ⟨rfl, (below_drewN hBb 1).grown hg hBb.size (fun k hk => by injection hk with hk; omega)⟩

set_option maxHeartbeats 4000000 in
theorem key4_false (A : Option Addr) (n c : Nat) (l : List UInt8) (w : World) (h : Row w w.heap.size 1 A n (bv l)) (hc : n ≤ c) (hcm : c ≤ maxLen) (hn : n ≤ 1099511627776) (h4 : H4) (er : Int) (hp : par4 l = (h4, er)) (hm : h4.more = false) :
    Calls Try.prog 19 #[.slice A n c] w fun e w' => e = .returned (.tuple #[.agg (Ky.mk false (h4.src ++ z12) (h4.dst ++ z12) h4.pro 0 0).cells.toArray, .bool (h4.off == 0), .int .i64 er]) ∧ Below w.heap.size w w' := by
  have hok : h4.ok := by have := par4_ok l; rw [hp] at this; exact this
  have P := fun W (hB : Below w.heap.size w W) => parse4_any A n c l W ((h.below hB).more hB.size) hc hcm hn
  rw [hp] at P
  simp only at P
  have HP := Lib.hid P
  have HOK := Lib.hid hok
  have HS := Lib.hid (h4.drop_src hok)
  have HD := Lib.hid (h4.drop_dst hok)
  have HM := Lib.hid hm
  obtain ⟨p, hpp⟩ : ∃ p, p = h4.pro := ⟨_, rfl⟩
  have HPR := Lib.hid hpp
  have HK0 : Hid ((⟨false, z16, z16, h4.pro, 0, 0⟩ : Ky).ok) := Lib.hid ⟨rfl, rfl⟩
  have HK1 : Hid ((⟨false, h4.src ++ z12, z16, h4.pro, 0, 0⟩ : Ky).ok) := Lib.hid ⟨by simp [hok.src, z12], rfl⟩
  have HK2 : Hid ((⟨false, h4.src ++ z12, h4.dst ++ z12, h4.pro, 0, 0⟩ : Ky).ok) := Lib.hid ⟨by simp [hok.src, z12], by simp [hok.dst, z12]⟩
  clear P hok h hm hp hpp
  go_enter Try.func19, Try.ntmps19
  go_wp2_with (refine wpList_alloc_blk rfl 26 rfl Ky.zero.cells zeroK ?_; intro w1 hb1 hB1 hs1)
  refine (HP.out w1 hB1).mono ?_
  rintro e w2 ⟨rfl, hb2⟩
  have hz2 := hb1.on hb2
  have hB2 := bthen hB1 hb2
  clear hb1 hB1 hs1 hb2
  go_wp2_with (first
    | (refine wpList_value rfl (exec_buildKp _ rfl h4.pro rfl) ?_)
    | (refine wpList_alloc_blk rfl 46 rfl H4.zero.cells zero4 ?_; intro w3 hbw3 hBw3 hsw3)
    | (refine wpList_store_all rfl 46 _ _ rfl w2.heap.size h4.cells rfl rfl 46 _ hbw3 (size4 _ HOK.out) (H4.cells_same _ _ HOK.out H4.zero_ok) (H4.one _) ?_; intro w4 hbw4 hgw4 hsw4; have hBw4 : Below w2.heap.size w2 w4 := bgrown hBw3 hgw4 (by omega) (by omega)); have c7 : w4.cell? ⟨w2.heap.size, 7, none⟩ = some (.int .u8 h4.pro) := hbw4.cell 7
    | (refine wpList_alloc_blk rfl 26 rfl Ky.zero.cells zeroK ?_; intro w5 hbw5 hBw5 hsw5)
    | (refine wpList_store_all rfl 26 _ _ rfl w4.heap.size (Ky.mk false z16 z16 h4.pro 0 0).cells rfl rfl 26 _ hbw5 (sizeK _ HK0.out) (Ky.cells_same _ _ HK0.out Ky.zero_ok) (Ky.one _) ?_; intro w6 hbw6 hgw6 hsw6; have hBw6 : Below w4.heap.size w4 w6 := bgrown hBw5 hgw6 (by omega) (by omega)))
  have hz6 := (hz2.on hBw4).on hBw6
  have hh6 := hbw4.on hBw6
  have hB6 := bthen (bthen hB2 hBw4) hBw6
  have hne1 : w2.heap.size ≠ w4.heap.size := by have := hbw4.lt; omega
  have hne2 : w.heap.size ≠ w4.heap.size := by have := (hz2.on hBw4).lt; omega
  have HNE3 : Hid (w.heap.size ≠ w2.heap.size) := Lib.hid (by have := hz2.lt; omega)
  have hle : w.heap.size ≤ w4.heap.size := by have := (hz2.on hBw4).lt; omega
  clear hz2 hbw3 hbw4 hBw3 hBw4 hgw4 hsw3 hsw4 hbw5 hBw5 hBw6 hgw6 hsw5 hsw6 hB2 c7
  refine wp_region_last 4 (fun A B => A.grownBy B none) (fun A => grown_refl A _) (fun A B C h k => grown_trans h k) (relAt (List.cons (fun v _ => v = .pointer (some ⟨w4.heap.size, 1, none⟩)) (List.cons (fun v _ => v = .slice (some ⟨w4.heap.size, 1, none⟩) 16 16) (List.cons (fun v _ => v = .pointer (some ⟨w2.heap.size, 8, none⟩)) (List.cons (fun v _ => v = .slice (some ⟨w2.heap.size, 8, none⟩) 4 4) ([])))))) (MonoL.at_ (.cons (mono_val _) (.cons (mono_val _) (.cons (mono_val _) (.cons (mono_val _) .nil))))) (by kernel_rfl) (by kernel_rfl) rfl (by kernel_rfl) _ rfl rfl ⟨?_, ?_, ?_, ?_, trivial⟩ ?_
  · intro a vs W hX hR he hf K hK
    rw [if_pos (wanted_none rfl)]
    have e7 : a.eval (.tmp 7) = .pointer (some ⟨w4.heap.size, 0, none⟩) := hf 7 (by kernel_rfl)
    refine wp_value (v := .pointer (some ⟨w4.heap.size, 1, none⟩)) ?_ (hK _ _ rfl (grown_refl W _))
    simp only [execOp, e7]
    try go_simp
    try (first | rfl | omega | (simp only [IntKind.wrap_i64, IntKind.wrap_u8, IntKind.wrap_u64, IntKind.wrap_u16, IntKind.wrap_u32]; omega) | (rw [Int.tmod_eq_emod_of_nonneg (by omega)]) | (rw [Int.tmod_eq_emod_of_nonneg (by omega)]; omega))
  · intro a vs W hX hR he hf K hK
    rw [if_pos (wanted_none rfl)]
    have e16 : a.eval (.tmp 16) = .pointer (some ⟨w4.heap.size, 1, none⟩) := (he 0 16 (by kernel_rfl) rfl).trans (hR 0 (by kernel_rfl))
    have f16 := e16
    simp only [Act.eval, Array.getD_eq_getD_getElem?] at f16
    refine wp_value (v := _) ?_ (hK _ _ rfl (grown_refl W _))
    simp only [execOp, e16]
    go_simp
  · intro a vs W hX hR he hf K hK
    rw [if_pos (wanted_none rfl)]
    have e5 : a.eval (.tmp 5) = .pointer (some ⟨w2.heap.size, 0, none⟩) := hf 5 (by kernel_rfl)
    refine wp_value (v := .pointer (some ⟨w2.heap.size, 8, none⟩)) ?_ (hK _ _ rfl (grown_refl W _))
    simp only [execOp, e5]
    try go_simp
    try (first | rfl | omega | (simp only [IntKind.wrap_i64, IntKind.wrap_u8, IntKind.wrap_u64, IntKind.wrap_u16, IntKind.wrap_u32]; omega) | (rw [Int.tmod_eq_emod_of_nonneg (by omega)]) | (rw [Int.tmod_eq_emod_of_nonneg (by omega)]; omega))
  · intro a vs W hX hR he hf K hK
    rw [if_pos (wanted_none rfl)]
    have e18 : a.eval (.tmp 18) = .pointer (some ⟨w2.heap.size, 8, none⟩) := (he 2 18 (by kernel_rfl) rfl).trans (hR 2 (by kernel_rfl))
    have f18 := e18
    simp only [Act.eval, Array.getD_eq_getD_getElem?] at f18
    refine wp_value (v := _) ?_ (hK _ _ rfl (grown_refl W _))
    simp only [execOp, e18]
    go_simp
  · intro vs w7 hX hR
    have q0 := hR 0 (by decide)
    have q1 := hR 1 (by decide)
    have q2 := hR 2 (by decide)
    have q3 := hR 3 (by decide)
    change vs 0 = .pointer (some ⟨w4.heap.size, 1, none⟩) at q0
    change vs 1 = .slice (some ⟨w4.heap.size, 1, none⟩) 16 16 at q1
    change vs 2 = .pointer (some ⟨w2.heap.size, 8, none⟩) at q2
    change vs 3 = .slice (some ⟨w2.heap.size, 8, none⟩) 4 4 at q3
    simp only [putAll, Act.put, List.setIfInBounds_toArray, List.set_cons_zero, List.set_cons_succ, List.take_succ_cons, List.take_zero, q0, q1, q2, q3]
    clear q0 q1 q2 q3
    clear hR
    have hk7 := hbw6.on (bthen (below_drew _) (grow_below hX))
    have hh7 := hh6.on (bthen (below_drew _) (grow_below hX))
    have hz7 := hz6.on (bthen (below_drew _) (grow_below hX))
    have hB7 := bthen hB6 (bthen (below_drew _) (grow_below hX))
    have hrow := hh7.row 1 8 4 (by rw [h4.cells_length HOK.out]; omega)
    rw [show 4 * 1 = 4 from rfl, HS.out] at hrow
    refine wp_copy_Blk (.tmp 17) (.tmp 19) 22 22 rfl Try.underlying22 (by kernel_rfl) 1 rfl rfl hk7 (by omega) (by omega) (by rw [Ky.cells_length _ HK0.out]; omega) hrow (bv_one _) ?_
    intro w8 hk8 hg8 hs8
    rw [Ky.put_src _ HK0.out _ HOK.out.src] at hk8
    have hh8 := hh7.grown hg8 (fun e => hne1 (by injection e))
    have hz8 := hz7.grown hg8 (fun e => hne2 (by injection e))
    have hB8 : Below w.heap.size w w8 := bgrown hB7 hg8 hB7.size hle
    clear hk7 hh7 hz7 hB7 hrow hg8 hs8 hX hbw6 hh6 hz6 hB6
    try simp only [List.getElem_toArray, List.getElem_cons_succ, List.getElem_cons_zero, Act.put, List.setIfInBounds_toArray, List.set_cons_zero, List.set_cons_succ]
    have hka : Blk w8 w4.heap.size 26 (Ky.mk false (h4.src ++ z12) z16 h4.pro 0 0).cells := hk8
    have hha := hh8
    have hza := hz8
    have hBa := hB8
    clear hk8 hh8 hz8 hB8
    go_wp2_with fail
    refine wp_region_last 4 (fun A B => A.grownBy B none) (fun A => grown_refl A _) (fun A B C h k => grown_trans h k) (relAt (List.cons (fun v _ => v = .pointer (some ⟨w4.heap.size, 17, none⟩)) (List.cons (fun v _ => v = .slice (some ⟨w4.heap.size, 17, none⟩) 16 16) (List.cons (fun v _ => v = .pointer (some ⟨w2.heap.size, 12, none⟩)) (List.cons (fun v _ => v = .slice (some ⟨w2.heap.size, 12, none⟩) 4 4) ([])))))) (MonoL.at_ (.cons (mono_val _) (.cons (mono_val _) (.cons (mono_val _) (.cons (mono_val _) .nil))))) (by kernel_rfl) (by kernel_rfl) rfl (by kernel_rfl) _ rfl rfl ⟨?_, ?_, ?_, ?_, trivial⟩ ?_
    · intro a vs W hX hR he hf K hK
      rw [if_pos (wanted_none rfl)]
      have e7 : a.eval (.tmp 7) = .pointer (some ⟨w4.heap.size, 0, none⟩) := hf 7 (by kernel_rfl)
      refine wp_value (v := .pointer (some ⟨w4.heap.size, 17, none⟩)) ?_ (hK _ _ rfl (grown_refl W _))
      simp only [execOp, e7]
      try go_simp
      try (first | rfl | omega | (simp only [IntKind.wrap_i64, IntKind.wrap_u8, IntKind.wrap_u64, IntKind.wrap_u16, IntKind.wrap_u32]; omega) | (rw [Int.tmod_eq_emod_of_nonneg (by omega)]) | (rw [Int.tmod_eq_emod_of_nonneg (by omega)]; omega))
    · intro a vs W hX hR he hf K hK
      rw [if_pos (wanted_none rfl)]
      have e21 : a.eval (.tmp 21) = .pointer (some ⟨w4.heap.size, 17, none⟩) := (he 0 21 (by kernel_rfl) rfl).trans (hR 0 (by kernel_rfl))
      have f21 := e21
      simp only [Act.eval, Array.getD_eq_getD_getElem?] at f21
      refine wp_value (v := _) ?_ (hK _ _ rfl (grown_refl W _))
      simp only [execOp, e21]
      go_simp
    · intro a vs W hX hR he hf K hK
      rw [if_pos (wanted_none rfl)]
      have e5 : a.eval (.tmp 5) = .pointer (some ⟨w2.heap.size, 0, none⟩) := hf 5 (by kernel_rfl)
      refine wp_value (v := .pointer (some ⟨w2.heap.size, 12, none⟩)) ?_ (hK _ _ rfl (grown_refl W _))
      simp only [execOp, e5]
      try go_simp
      try (first | rfl | omega | (simp only [IntKind.wrap_i64, IntKind.wrap_u8, IntKind.wrap_u64, IntKind.wrap_u16, IntKind.wrap_u32]; omega) | (rw [Int.tmod_eq_emod_of_nonneg (by omega)]) | (rw [Int.tmod_eq_emod_of_nonneg (by omega)]; omega))
    · intro a vs W hX hR he hf K hK
      rw [if_pos (wanted_none rfl)]
      have e23 : a.eval (.tmp 23) = .pointer (some ⟨w2.heap.size, 12, none⟩) := (he 2 23 (by kernel_rfl) rfl).trans (hR 2 (by kernel_rfl))
      have f23 := e23
      simp only [Act.eval, Array.getD_eq_getD_getElem?] at f23
      refine wp_value (v := _) ?_ (hK _ _ rfl (grown_refl W _))
      simp only [execOp, e23]
      go_simp
    · intro vs w9 hX hR
      have q0 := hR 0 (by decide)
      have q1 := hR 1 (by decide)
      have q2 := hR 2 (by decide)
      have q3 := hR 3 (by decide)
      change vs 0 = .pointer (some ⟨w4.heap.size, 17, none⟩) at q0
      change vs 1 = .slice (some ⟨w4.heap.size, 17, none⟩) 16 16 at q1
      change vs 2 = .pointer (some ⟨w2.heap.size, 12, none⟩) at q2
      change vs 3 = .slice (some ⟨w2.heap.size, 12, none⟩) 4 4 at q3
      simp only [putAll, Act.put, List.setIfInBounds_toArray, List.set_cons_zero, List.set_cons_succ, List.take_succ_cons, List.take_zero, q0, q1, q2, q3]
      clear q0 q1 q2 q3
      clear hR
      have hk7 := hka.on (bthen (below_drew _) (grow_below hX))
      have hh7 := hha.on (bthen (below_drew _) (grow_below hX))
      have hz7 := hza.on (bthen (below_drew _) (grow_below hX))
      have hB7 := bthen hBa (bthen (below_drew _) (grow_below hX))
      have hrow := hh7.row 1 12 4 (by rw [h4.cells_length HOK.out]; omega)
      rw [show 4 * 1 = 4 from rfl, HD.out] at hrow
      refine wp_copy_Blk (.tmp 22) (.tmp 24) 22 22 rfl Try.underlying22 (by kernel_rfl) 17 rfl rfl hk7 (by omega) (by omega) (by rw [Ky.cells_length _ HK1.out]; omega) hrow (bv_one _) ?_
      intro w10 hk8 hg8 hs8
      rw [Ky.put_dst _ HK1.out _ HOK.out.dst] at hk8
      have hh8 := hh7.grown hg8 (fun e => hne1 (by injection e))
      have hz8 := hz7.grown hg8 (fun e => hne2 (by injection e))
      have hB8 : Below w.heap.size w w10 := bgrown hB7 hg8 hB7.size hle
      clear hk7 hh7 hz7 hB7 hrow hg8 hs8 hX hka hha hza hBa
      try simp only [List.getElem_toArray, List.getElem_cons_succ, List.getElem_cons_zero, Act.put, List.setIfInBounds_toArray, List.set_cons_zero, List.set_cons_succ]
      have hkb : Blk w10 w4.heap.size 26 (Ky.mk false (h4.src ++ z12) (h4.dst ++ z12) h4.pro 0 0).cells := hk8
      have hhb := hh8
      have hzb := hz8
      have hBb := hB8
      clear hk8 hh8 hz8 hB8
      go_wp2_with fail
      have hne3 : w.heap.size ≠ w2.heap.size := HNE3.out
      refine wp_region_rel (Ext1 w.heap.size 26 (Ky.mk false (h4.src ++ z12) (h4.dst ++ z12) h4.pro 0 0).cells) (Ext1.refl w.heap.size 26 (Ky.mk false (h4.src ++ z12) (h4.dst ++ z12) h4.pro 0 0).cells) (fun A B C h k => h.trans k) (relAt (List.cons (fun v _ => v = .agg (Ky.mk false (h4.src ++ z12) (h4.dst ++ z12) h4.pro 0 0).cells.toArray) (List.cons (fun v _ => v = .pointer (some ⟨w2.heap.size, 4, none⟩)) (List.cons (fun v _ => v = .bool false) (List.cons (fun v _ => v = .bool true) (List.cons (fun v _ => v = .bool true) (List.cons (fun v _ => v = .pointer (some ⟨w2.heap.size, 5, none⟩)) (List.cons (fun v _ => v = .int .i64 h4.off) (List.cons (fun v _ => v = .bool (h4.off == 0)) (List.cons (fun v _ => v = .bool (h4.off == 0)) (List.cons (fun v _ => v = .int .i64 er) (List.cons (fun _ W => Blk W w.heap.size 26 (Ky.mk false (h4.src ++ z12) (h4.dst ++ z12) h4.pro 0 0).cells) (List.cons (fun v _ => v = .bool (h4.off == 0)) (List.cons (fun v _ => v = .int .i64 er) ([]))))))))))))))) (MonoL.at_ (.cons (mono_val _) (.cons (mono_val _) (.cons (mono_val _) (.cons (mono_val _) (.cons (mono_val _) (.cons (mono_val _) (.cons (mono_val _) (.cons (mono_val _) (.cons (mono_val _) (.cons (mono_val _) (.cons (fun _ A B h hx => hx.stays h) (.cons (mono_val _) (.cons (mono_val _) .nil)))))))))))))) (by kernel_rfl) (by kernel_rfl) ⟨?_, ?_, ?_, ?_, ?_, ?_, ?_, ?_, ?_, ?_, ?_, ?_, ?_, trivial⟩ ?_
      · intro a vs W hX hR he hf K hK
        rw [if_pos (wanted_none rfl)]
        have e7 : a.eval (.tmp 7) = .pointer (some ⟨w4.heap.size, 0, none⟩) := hf 7 (by kernel_rfl)
        have hkW := (hkb.drew).grown hX.grown (fun e => hne2 (by injection e with e; exact e.symm))
        have hhW := (hhb.drew).grown hX.grown (fun e => hne3 (by injection e with e; exact e.symm))
        exact wp_value (exec_load 26 _ rfl w4.heap.size e7 26 _ _ hkW Try.underlying26 rfl (sizeK _ HK2.out)) (hK _ _ rfl (Ext1.refl _ _ _ W))
      · intro a vs W hX hR he hf K hK
        rw [if_pos (wanted_none rfl)]
        have e5 : a.eval (.tmp 5) = .pointer (some ⟨w2.heap.size, 0, none⟩) := hf 5 (by kernel_rfl)
        refine wp_value (v := .pointer (some ⟨w2.heap.size, 4, none⟩)) ?_ (hK _ _ rfl (Ext1.refl _ _ _ W))
        simp only [execOp, e5]
        try go_simp
        try (first | rfl | omega | (simp only [IntKind.wrap_i64, IntKind.wrap_u8, IntKind.wrap_u64, IntKind.wrap_u16, IntKind.wrap_u32]; omega) | (rw [Int.tmod_eq_emod_of_nonneg (by omega)]) | (rw [Int.tmod_eq_emod_of_nonneg (by omega)]; omega))
      · intro a vs W hX hR he hf K hK
        rw [if_pos (wanted_none rfl)]
        have e27 : a.eval (.tmp 27) = .pointer (some ⟨w2.heap.size, 4, none⟩) := (he 1 27 (by kernel_rfl) rfl).trans (hR 1 (by kernel_rfl))
        have hkW := (hkb.drew).grown hX.grown (fun e => hne2 (by injection e with e; exact e.symm))
        have hhW := (hhb.drew).grown hX.grown (fun e => hne3 (by injection e with e; exact e.symm))
        have hc : W.cell? ⟨w2.heap.size, 4, none⟩ = some (.bool h4.more) := hhW.cell 4
        rw [HM.out] at hc
        refine wp_value (v := _) ?_ (hK _ _ rfl (Ext1.refl _ _ _ W))
        simp only [execOp, e27]
        try go_simp
      · intro a vs W hX hR he hf K hK
        rw [if_pos (wanted_none rfl)]
        have e28 : a.eval (.tmp 28) = .bool false := (he 2 28 (by kernel_rfl) rfl).trans (hR 2 (by kernel_rfl))
        refine wp_value (v := .bool true) ?_ (hK _ _ rfl (Ext1.refl _ _ _ W))
        simp only [execOp, e28]
        try go_simp
        try (first | rfl | omega | (simp only [IntKind.wrap_i64, IntKind.wrap_u8, IntKind.wrap_u64, IntKind.wrap_u16, IntKind.wrap_u32]; omega) | (rw [Int.tmod_eq_emod_of_nonneg (by omega)]) | (rw [Int.tmod_eq_emod_of_nonneg (by omega)]; omega))
      · intro a vs W hX hR he hf K hK
        rw [if_pos (wanted_none rfl)]
        have e29 : a.eval (.tmp 29) = .bool true := (he 3 29 (by kernel_rfl) rfl).trans (hR 3 (by kernel_rfl))
        refine wp_value (v := .bool true) ?_ (hK _ _ rfl (Ext1.refl _ _ _ W))
        simp only [execOp, e29]
        try go_simp
        try (first | rfl | omega | (simp only [IntKind.wrap_i64, IntKind.wrap_u8, IntKind.wrap_u64, IntKind.wrap_u16, IntKind.wrap_u32]; omega) | (rw [Int.tmod_eq_emod_of_nonneg (by omega)]) | (rw [Int.tmod_eq_emod_of_nonneg (by omega)]; omega))
      · intro a vs W hX hR he hf K hK
        have e30 : a.eval (.tmp 30) = .bool true := (he 4 30 (by kernel_rfl) rfl).trans (hR 4 (by kernel_rfl))
        refine Eq.mpr (if_pos (by exact (wanted_some rfl rfl e30).trans rfl)) ?_
        have e5 : a.eval (.tmp 5) = .pointer (some ⟨w2.heap.size, 0, none⟩) := hf 5 (by kernel_rfl)
        refine wp_value (v := .pointer (some ⟨w2.heap.size, 5, none⟩)) ?_ (hK _ _ rfl (Ext1.refl _ _ _ W))
        simp only [execOp, e5]
        try go_simp
        try (first | rfl | omega | (simp only [IntKind.wrap_i64, IntKind.wrap_u8, IntKind.wrap_u64, IntKind.wrap_u16, IntKind.wrap_u32]; omega) | (rw [Int.tmod_eq_emod_of_nonneg (by omega)]) | (rw [Int.tmod_eq_emod_of_nonneg (by omega)]; omega))
      · intro a vs W hX hR he hf K hK
        have e30 : a.eval (.tmp 30) = .bool true := (he 4 30 (by kernel_rfl) rfl).trans (hR 4 (by kernel_rfl))
        refine Eq.mpr (if_pos (by exact (wanted_some rfl rfl e30).trans rfl)) ?_
        have e31 : a.eval (.tmp 31) = .pointer (some ⟨w2.heap.size, 5, none⟩) := (he 5 31 (by kernel_rfl) rfl).trans (hR 5 (by kernel_rfl))
        have hkW := (hkb.drew).grown hX.grown (fun e => hne2 (by injection e with e; exact e.symm))
        have hhW := (hhb.drew).grown hX.grown (fun e => hne3 (by injection e with e; exact e.symm))
        have hc : W.cell? ⟨w2.heap.size, 5, none⟩ = some (.int .i64 h4.off) := hhW.cell 5
        refine wp_value (v := _) ?_ (hK _ _ rfl (Ext1.refl _ _ _ W))
        simp only [execOp, e31]
        try go_simp
      · intro a vs W hX hR he hf K hK
        have e30 : a.eval (.tmp 30) = .bool true := (he 4 30 (by kernel_rfl) rfl).trans (hR 4 (by kernel_rfl))
        refine Eq.mpr (if_pos (by exact (wanted_some rfl rfl e30).trans rfl)) ?_
        have e32 : a.eval (.tmp 32) = .int .i64 h4.off := (he 6 32 (by kernel_rfl) rfl).trans (hR 6 (by kernel_rfl))
        refine wp_value (v := .bool (h4.off == 0)) ?_ (hK _ _ rfl (Ext1.refl _ _ _ W))
        simp only [execOp, e32]
        try go_simp
        try (first | rfl | omega | (simp only [IntKind.wrap_i64, IntKind.wrap_u8, IntKind.wrap_u64, IntKind.wrap_u16, IntKind.wrap_u32]; omega) | (rw [Int.tmod_eq_emod_of_nonneg (by omega)]) | (rw [Int.tmod_eq_emod_of_nonneg (by omega)]; omega))
      · intro a vs W hX hR he hf K hK
        rw [if_pos (wanted_none rfl)]
        have e30 : a.eval (.tmp 30) = .bool true := (he 4 30 (by kernel_rfl) rfl).trans (hR 4 (by kernel_rfl))
        have e33 : a.eval (.tmp 33) = .bool (h4.off == 0) := (he 7 33 (by kernel_rfl) rfl).trans (hR 7 (by kernel_rfl))
        refine wp_value (v := .bool (h4.off == 0)) ?_ (hK _ _ rfl (Ext1.refl _ _ _ W))
        simp only [execOp, e30, e33]
        try go_simp
        try (first | rfl | omega | (simp only [IntKind.wrap_i64, IntKind.wrap_u8, IntKind.wrap_u64, IntKind.wrap_u16, IntKind.wrap_u32]; omega) | (rw [Int.tmod_eq_emod_of_nonneg (by omega)]) | (rw [Int.tmod_eq_emod_of_nonneg (by omega)]; omega))
      · intro a vs W hX hR he hf K hK
        rw [if_pos (wanted_none rfl)]
        have e6 : a.eval (.tmp 6) = .int .i64 er := hf 6 (by kernel_rfl)
        refine wp_value (v := .int .i64 er) ?_ (hK _ _ rfl (Ext1.refl _ _ _ W))
        simp only [execOp, e6]
        try go_simp
        try (first | rfl | omega | (simp only [IntKind.wrap_i64, IntKind.wrap_u8, IntKind.wrap_u64, IntKind.wrap_u16, IntKind.wrap_u32]; omega) | (rw [Int.tmod_eq_emod_of_nonneg (by omega)]) | (rw [Int.tmod_eq_emod_of_nonneg (by omega)]; omega))
      · intro a vs W hX hR he hf K hK
        rw [if_pos (wanted_none rfl)]
        have e2 : a.eval (.tmp 2) = .pointer (some ⟨w.heap.size, 0, none⟩) := hf 2 (by kernel_rfl)
        have e26 : a.eval (.tmp 26) = .agg (Ky.mk false (h4.src ++ z12) (h4.dst ++ z12) h4.pro 0 0).cells.toArray := (he 0 26 (by kernel_rfl) rfl).trans (hR 0 (by kernel_rfl))
        obtain ⟨zs, hz, hbz⟩ := hX.there ⟨_, Ky.cells_same _ _ Ky.zero_ok HK2.out, hzb.drew⟩
        refine wp_store_all 26 _ _ rfl w.heap.size _ e2 e26 26 zs hbz (sizeK _ HK2.out) hz.symm (Ky.one _) ?_
        intro w' hb' hg' hs'
        exact hK _ _ hb' (Ext1.store hg' hb')
      · intro a vs W hX hR he hf K hK
        rw [if_pos (wanted_none rfl)]
        have e34 : a.eval (.tmp 34) = .bool (h4.off == 0) := (he 8 34 (by kernel_rfl) rfl).trans (hR 8 (by kernel_rfl))
        refine wp_value (v := .bool (h4.off == 0)) ?_ (hK _ _ rfl (Ext1.refl _ _ _ W))
        simp only [execOp, e34]
        try go_simp
        try (first | rfl | omega | (simp only [IntKind.wrap_i64, IntKind.wrap_u8, IntKind.wrap_u64, IntKind.wrap_u16, IntKind.wrap_u32]; omega) | (rw [Int.tmod_eq_emod_of_nonneg (by omega)]) | (rw [Int.tmod_eq_emod_of_nonneg (by omega)]; omega))
      · intro a vs W hX hR he hf K hK
        rw [if_pos (wanted_none rfl)]
        have e35 : a.eval (.tmp 35) = .int .i64 er := (he 9 35 (by kernel_rfl) rfl).trans (hR 9 (by kernel_rfl))
        refine wp_value (v := .int .i64 er) ?_ (hK _ _ rfl (Ext1.refl _ _ _ W))
        simp only [execOp, e35]
        try go_simp
        try (first | rfl | omega | (simp only [IntKind.wrap_i64, IntKind.wrap_u8, IntKind.wrap_u64, IntKind.wrap_u16, IntKind.wrap_u32]; omega) | (rw [Int.tmod_eq_emod_of_nonneg (by omega)]) | (rw [Int.tmod_eq_emod_of_nonneg (by omega)]; omega))
      · intro vs w12 hX12 hR
        have q0 := hR 0 (by decide)
        have q1 := hR 1 (by decide)
        have q2 := hR 2 (by decide)
        have q3 := hR 3 (by decide)
        have q4 := hR 4 (by decide)
        have q5 := hR 5 (by decide)
        have q6 := hR 6 (by decide)
        have q7 := hR 7 (by decide)
        have q8 := hR 8 (by decide)
        have q9 := hR 9 (by decide)
        have q10 := hR 10 (by decide)
        have q11 := hR 11 (by decide)
        have q12 := hR 12 (by decide)
        change vs 0 = .agg (Ky.mk false (h4.src ++ z12) (h4.dst ++ z12) h4.pro 0 0).cells.toArray at q0
        change vs 1 = .pointer (some ⟨w2.heap.size, 4, none⟩) at q1
        change vs 2 = .bool false at q2
        change vs 3 = .bool true at q3
        change vs 4 = .bool true at q4
        change vs 5 = .pointer (some ⟨w2.heap.size, 5, none⟩) at q5
        change vs 6 = .int .i64 h4.off at q6
        change vs 7 = .bool (h4.off == 0) at q7
        change vs 8 = .bool (h4.off == 0) at q8
        change vs 9 = .int .i64 er at q9
        change (fun _ W => Blk W w.heap.size 26 (Ky.mk false (h4.src ++ z12) (h4.dst ++ z12) h4.pro 0 0).cells) (vs 10) w12 at q10
        change vs 11 = .bool (h4.off == 0) at q11
        change vs 12 = .int .i64 er at q12
        simp only [putAll, Act.put, List.setIfInBounds_toArray, List.set_cons_zero, List.set_cons_succ, q0, q1, q2, q3, q4, q5, q6, q7, q8, q9, q11, q12]
        clear q0 q1 q2 q3 q4 q5 q6 q7 q8 q9 q11 q12
        clear hR
        have hg := hX12.grown
        go_wp2
        refine bodyPost_ret (results_cell3 rfl _ _ w.heap.size _ _ _ rfl q10 Try.underlying26 rfl (sizeK _ HK2.out)) rfl ?_
        exact ⟨rfl, (below_drewN hBb 1).grown hg hBb.size (fun k hk => by injection hk with hk; omega)⟩

theorem key4_any (A : Option Addr) (n c : Nat) (l : List UInt8) (w : World) (h : Row w w.heap.size 1 A n (bv l)) (hc : n ≤ c) (hcm : c ≤ maxLen) (hn : n ≤ 1099511627776) :
    Calls Try.prog 19 #[.slice A n c] w fun e w' => e = .returned (.tuple #[.agg (key4F l).cells.toArray, .bool (whole4 l), .int .i64 (par4 l).2]) ∧ Below w.heap.size w w' := by
  cases hm : (par4 l).1.more
  · have e : whole4 l = ((par4 l).1.off == 0) := by unfold whole4; rw [hm]; rfl
    rw [e]
    exact key4_false A n c l w h hc hcm hn _ _ rfl hm
  · have e : whole4 l = false := by unfold whole4; rw [hm]; rfl
    rw [e]
    exact key4_true A n c l w h hc hcm hn _ _ rfl hm

/-- the map that the call lays: which protocols have ports -/
def portedD : DataW Unit := ((DataW.map []).put (.int .u8 6) (.lit (.bool true))).put (.int .u8 17) (.lit (.bool true))
theorem keyB (x : Int) (h : (Lit.int .u8 x).wf = true) : keyOf Try.prog 5 (.int .u8 x) = some (.int .u8 x) := Go.Maps.keyOf_int_mk Try.underlying5 h
theorem lawB : Keyed Try.prog 5 := int_keyed Try.underlying5
theorem zeroB (w : World) : (zeroValue 4).run Try.prog w = .ok (.bool false) w := by kernel_rfl
theorem ported_at (p : Int) : portedD.atKey (.int .u8 p) (.lit (.bool false)) = .lit (.bool (decide (p = 6 ∨ p = 17))) := by
  have hm : IsMap (DataW.map [] : DataW Unit) := isMap_empty
  have hm2 := hm.put (.int .u8 6) (.lit (.bool true))
  unfold portedD
  by_cases h17 : p = 17
  · subst h17
    rw [atKey_put_same hm2 (keyLit_int .u8 17)]
    rfl
  · rw [atKey_put_other (by intro e; injection e with _ e; exact h17 e)]
    by_cases h6 : p = 6
    · subst h6
      rw [atKey_put_same hm (keyLit_int .u8 6)]
      rfl
    · rw [atKey_put_other (by intro e; injection e with _ e; exact h6 e)]
      simp [h6, h17]
      rfl
theorem ported_run {w : World} {b n : Nat} (h : w.ownsMap Try.prog 5 (plainElem Try.prog 4) b n portedD) (p : Int) (h0 : 0 ≤ p) (h1 : p ≤ 255) :
    (Instr.lookup 59 (.map (some b)) (.int .u8 p) false).run Try.prog w = .ok (.bool (decide (p = 6 ∨ p = 17))) w := by
  have hwf : (Lit.int .u8 p).wf = true := by simp [Lit.wf, IntKind.min, IntKind.max, IntKind.signed, IntKind.bits]; omega
  obtain ⟨v, ps, hrun, hv⟩ := h.lookup lawB Try.underlying59 (zeroB w) (plainElem_bool Try.underlying4 false) (keyB p hwf)
  rw [ported_at] at hv
  unfold plainElem at hv
  rw [Try.underlying4] at hv
  cases v <;> simp at hv
  rename_i x
  obtain ⟨hx, _⟩ := hv
  rw [hrun, hx]
  simp

theorem par4_pro (l : List UInt8) : 0 ≤ (key4F l).pro ∧ (key4F l).pro ≤ 255 := by
  show 0 ≤ (par4 l).1.pro ∧ (par4 l).1.pro ≤ 255
  unfold par4
  repeat' split
  · simp [H4.zero]
  · simp [H4.zero]
  · simp [H4.zero]
  · simp [H4.zero]
  · exact byte_le _
theorem par6_next (l : List UInt8) : 0 ≤ (key6F l).pro ∧ (key6F l).pro ≤ 255 := by
  show 0 ≤ (par6 l).1.next ∧ (par6 l).1.next ≤ 255
  unfold par6
  repeat' split
  · simp [H6.zero]
  · simp [H6.zero]
  · simp [H6.zero]
  · exact byte_le _
theorem body4_le {w : World} {B : Nat} {A : Option Addr} (l : List UInt8) (n : Nat) (h : Row w B 1 A n (bv l)) : (body4 l).length ≤ n := by
  have hl : l.length = n := by have := h.1; rw [bv_length] at this; omega
  unfold body4
  split
  · simp only [List.length_drop, List.length_take]; omega
  · simp
theorem body6_le {w : World} {B : Nat} {A : Option Addr} (l : List UInt8) (n : Nat) (h : Row w B 1 A n (bv l)) : (body6 l).length ≤ n := by
  have hl : l.length = n := by have := h.1; rw [bv_length] at this; omega
  unfold body6
  split
  · simp only [List.length_drop, List.length_take]; omega
  · simp
/-- a packet's key, if it is one -/
def ofK (l : List UInt8) : Ky × Bool :=
  if (par4 l).2 = 0 then (if whole4 l = true then portsF (key4F l) (body4 l) else key4F l, true)
  else if (par6 l).2 = 0 then (portsF (key6F l) (body6 l), true) else (Ky.zero, false)

set_option maxHeartbeats 4000000 in
theorem of17_any (A : Option Addr) (n c : Nat) (l : List UInt8) (w : World) (h : Row w w.heap.size 1 A n (bv l)) (hc : n ≤ c) (hcm : c ≤ maxLen) (hn : n ≤ 1099511627776) :
    Calls Try.prog 8 #[.slice A n c] w fun e w' => e = .returned (.tuple #[.agg (ofK l).1.cells.toArray, .bool (ofK l).2]) ∧ Below w.heap.size w w' := by
  have HR := Lib.hid h
  clear h
  have hmm := @run_makeMap Try.prog
  go_enter Try.func8, Try.ntmps8
  go_wp2_with (first
    | (refine wpList_alloc_blk rfl 26 rfl Ky.zero.cells zeroK ?_; intro w1 hb1 hB1 hs1; have hM0 := World.ownsMap_made (H := Unit) w1 Try.prog 5 (plainElem Try.prog 4); rw [hs1] at hM0; have HM := Lib.hid hM0; clear hM0)
    | (refine wpList_insert_own _ rfl (.tmp 15) (.const (.int .u8 6)) (.const (.bool true)) 59 rfl 5 4 lawB Try.underlying59 _ _ _ _ rfl HM.out (by decide) _ _ _ rfl rfl (keyB 6 (by decide)) _ [] (plainElem_bool Try.underlying4 true) ?_; intro w2 hm2 hg2)
    | (refine wpList_insert_own _ rfl (.tmp 15) (.const (.int .u8 17)) (.const (.bool true)) 59 rfl 5 4 lawB Try.underlying59 _ _ _ _ rfl hm2 (by decide) _ _ _ rfl rfl (keyB 17 (by decide)) _ [] (plainElem_bool Try.underlying4 true) ?_; intro w3 hm3 hg3))
  obtain ⟨g3, hg3e⟩ : ∃ g3, g3 = w3.heap.size := ⟨_, rfl⟩
  obtain ⟨w4, hw4⟩ : ∃ w4, w4 = w3.alloc (.cells #[.func (.func 19) #[] #[], .func (.func 20) #[] #[], .func (.func 21) #[] #[], .func (.func 22) #[] #[]] 63) := ⟨_, rfl⟩
  have hz3 : Blk w3 w.heap.size 26 Ky.zero.cells := ((hb1.alloc _).grown hg2 (fun e => by injection e; omega)).grown hg3 (fun e => by injection e; omega)
  have hB3 : Below w.heap.size w w3 := (bgrown (hB1.alloc hB1.size _) hg2 (by rw [World.size_alloc]; omega) (by omega)).grown hg3 (by have := hg2.size; rw [World.size_alloc] at this; omega) (fun k hk => by injection hk; omega)
  have HZ4 : Hid (Blk w4 w.heap.size 26 Ky.zero.cells) := Lib.hid (by rw [hw4]; exact hz3.alloc _)
  have HM4 : Hid (w4.ownsMap Try.prog 5 (plainElem Try.prog 4) (w.heap.size + 1) 2 portedD) := Lib.hid (by rw [hw4]; exact hm3.alloc _)
  have HK4 : Hid (Blk w4 g3 63 [.func (.func 19) #[] #[], .func (.func 20) #[] #[], .func (.func 21) #[] #[], .func (.func 22) #[] #[]]) := Lib.hid (by rw [hw4, hg3e]; exact Blk.new w3 _ _)
  have HW4 : Hid (Below w.heap.size w w4) := Lib.hid (by rw [hw4]; exact hB3.alloc hB3.size _)
  rw [← hw4, ← hg3e]
  clear hw4 hz3 hB3 hm3 hm2 hg2 hg3 HM hb1 hB1 hs1 hg3e hmm
  have hok4 := key4F_ok l
  have hok6 := key6F_ok l
  have HOK4 := Lib.hid hok4
  have HOK6 := Lib.hid hok6
  clear hok4 hok6
  go_loopw [21] (fun i wr => ∃ j : Nat, j ≤ 2 ∧ i = .int .i64 (j : Nat) ∧ (1 ≤ j → (par4 l).2 ≠ 0) ∧ (2 ≤ j → (par6 l).2 ≠ 0) ∧ Below w4.heap.size w4 wr) (fun i _ => 2 - (intOf i).toNat)
  case atStart => exact ⟨0, by omega, rfl, by omega, by omega, Below.refl _ _⟩
  case round =>
    obtain ⟨j, hj, rfl, hj1, hj2, hb⟩ := hrel
    have HZ := Lib.hid (HZ4.out.on hb)
    have HM := Lib.hid (HM4.out.kept (below_grow hb none) (by simp))
    have HKD := Lib.hid (HK4.out.on hb)
    have HW := Lib.hid (bthen HW4.out hb)
    have HB := Lib.hid hb
    clear hb
    have hcases : j = 0 ∨ j = 1 ∨ j = 2 := by omega
    rcases hcases with rfl | rfl | rfl
    · clear hj1 hj2
      have f0 : wr.cell? ⟨g3, 0, none⟩ = some (.func (.func 19) #[] #[]) := HKD.out.cell 0
      have f1 : wr.cell? ⟨g3, 1, none⟩ = some (.func (.func 20) #[] #[]) := HKD.out.cell 1
      go_wp2_with (first
        | (refine wpList_alloc_blk rfl 63 rfl [.nilFunc, .nilFunc] (fun _ => by kernel_rfl) ?_; intro wa hba hBa hsa)
        | (refine wpList_store_all rfl 63 _ _ rfl wr.heap.size [.func (.func 19) #[] #[], .func (.func 20) #[] #[]] rfl rfl 63 _ hba (by kernel_rfl) rfl (by simp [Value.oneCell']) ?_; intro we hke hge hse; have k0 : we.cell? ⟨wr.heap.size, 0, none⟩ = some (.func (.func 19) #[] #[]) := hke.cell 0))
      have hae : Below wr.heap.size wr we := bgrown hBa hge (by omega) (by omega)
      clear hba hBa hsa hge hse f0 f1 k0
      refine (key4_any A n c l we ((HR.out.below (bthen HW.out hae)).more (bthen HW.out hae).size) hc hcm hn).mono ?_
      rintro e w5 ⟨rfl, hb5⟩
      have HKE := Lib.hid (hke.on hb5)
      have hall := bthen hae hb5
      replace HZ := Lib.hid (HZ.out.on hall)
      replace HM := Lib.hid (HM.out.kept (below_grow hall none) (by simp))
      replace HW := Lib.hid (bthen HW.out hall)
      have hwk : wr.heap.size < w5.heap.size := HKE.out.lt
      have hzk : w.heap.size < w5.heap.size := HZ.out.lt
      replace HB := Lib.hid (HB.out.trans (hall.mono HB.out.size))
      clear hae hke hb5 hall HKD
      by_cases he : (par4 l).2 = 0
      · rw [he]
        obtain ⟨K0, hK0⟩ : ∃ K0, K0 = key4F l := ⟨_, rfl⟩
        obtain ⟨bd, hbd⟩ : ∃ bd, bd = body4 l := ⟨_, rfl⟩
        have hofk : ofK l = (if whole4 l = true then portsF (key4F l) (body4 l) else key4F l, true) := by unfold ofK; rw [if_pos he]
        rw [← hK0, ← hbd] at hofk
        rw [← hK0]
        have HOK : Hid K0.ok := Lib.hid (by rw [hK0]; exact HOK4.out)
        have HBD := Lib.hid hbd
        have hbdl : bd.length ≤ n := by rw [hbd]; exact body4_le l n HR.out
        have hpr : 0 ≤ K0.pro ∧ K0.pro ≤ 255 := by rw [hK0]; exact par4_pro l
        have HOF := Lib.hid hofk
        clear he hK0 hbd hofk
        go_wp2_with (first
          | (refine wpList_alloc_blk rfl 26 rfl Ky.zero.cells zeroK ?_; intro w6 hbw6 hBw6 hsw6)
          | (refine wpList_store_all rfl 26 _ _ rfl w5.heap.size K0.cells rfl rfl 26 _ hbw6 (sizeK _ HOK.out) (Ky.cells_same _ _ HOK.out Ky.zero_ok) (Ky.one _) ?_; intro w7 hbw7 hgw7 hsw7; have hBw7 : Below w5.heap.size w5 w7 := bgrown hBw6 hgw7 (by omega) (by omega)); have k1 := HKE.out.on hBw7; have f1 : w7.cell? ⟨wr.heap.size, 1, none⟩ = some (.func (.func 20) #[] #[]) := k1.cell 1)
        replace HZ := Lib.hid (HZ.out.on hBw7)
        replace HM := Lib.hid (HM.out.kept (below_grow hBw7 none) (by simp))
        replace HW := Lib.hid (bthen HW.out hBw7)
        have HKY := Lib.hid hbw7
        clear k1 hbw6 hBw6 hsw6 hbw7 hBw7 hgw7 hsw7
        refine (body4_any A n c l w7 ((HR.out.below HW.out).more HW.out.size) hc hcm hn).mono ?_
        rintro e w8 ⟨⟨A8, n8, c8, l8⟩, rfl, hl8, ho8, hb8⟩
        rw [← HBD.out] at hl8
        simp only at hl8
        subst hl8
        simp only [Bs.v]
        have HO8 := Lib.hid ho8
        have hln8 : l8.length = n8 := ho8.len
        have hn8 : n8 ≤ 1099511627776 := by omega
        replace HZ := Lib.hid (HZ.out.on hb8)
        replace HM := Lib.hid (HM.out.kept (below_grow hb8 none) (by simp))
        replace HW := Lib.hid (bthen HW.out hb8)
        replace HKY := Lib.hid (HKY.out.on hb8)
        have hhl : Below w.heap.size w w8 := HW.out
        clear ho8 hb8 f1 hhl
        have c33 : w8.cell? ⟨w5.heap.size, 33, none⟩ = some (.int .u8 K0.pro) := (HKY.out.cell 33).trans (K0.get_tail HOK.out 0)
        have hlk := ported_run HM.out K0.pro hpr.1 hpr.2
        clear hpr
        have hparts : (whole4 l = false) ∨ (whole4 l = true ∧ decide (K0.pro = 6 ∨ K0.pro = 17) = false) ∨ (whole4 l = true ∧ decide (K0.pro = 6 ∨ K0.pro = 17) = true ∧ ¬ (4 : Int) ≤ (n8 : Int)) ∨ (whole4 l = true ∧ decide (K0.pro = 6 ∨ K0.pro = 17) = true ∧ (4 : Int) ≤ (n8 : Int)) := by
          cases whole4 l
          · exact .inl rfl
          · by_cases hd : K0.pro = 6 ∨ K0.pro = 17
            · by_cases hn4 : (4 : Int) ≤ (n8 : Int)
              · exact .inr (.inr (.inr ⟨rfl, decide_eq_true hd, hn4⟩))
              · exact .inr (.inr (.inl ⟨rfl, decide_eq_true hd, hn4⟩))
            · exact .inr (.inl ⟨rfl, decide_eq_false hd⟩)
        rcases hparts with hw | ⟨hw, hd⟩ | ⟨hw, hd, hn4⟩ | ⟨hw, hd, hn4⟩
        · have HWH := Lib.hid hw
          go_wp2_with (first
            | (refine wpList_load_blk rfl 26 _ rfl w5.heap.size rfl 26 _ _ HKY.out Try.underlying26 rfl (sizeK _ HOK.out) ?_)
            | (refine wpList_store_all rfl 26 _ _ rfl w.heap.size _ rfl rfl 26 _ HZ.out (sizeK _ HOK.out) (Ky.cells_same _ _ HOK.out Ky.zero_ok) (Ky.one _) ?_; intro w9 hb9 hg9 hs9))
          refine bodyPost_ret (results_cell2 rfl _ _ w.heap.size _ _ _ rfl hb9 Try.underlying26 rfl (sizeK _ HOK.out)) rfl ?_
          exact ⟨by rw [HOF.out]; rw [if_neg (by rw [HWH.out]; decide)]; rfl, bgrown HW.out hg9 HW.out.size (by omega)⟩
        · have HWH := Lib.hid hw
          rw [hd] at hlk
          have HD := Lib.hid (of_decide_eq_false hd)
          clear hd
          go_wp2_with (first
            | (refine wpList_load_blk rfl 26 _ rfl w5.heap.size rfl 26 _ _ HKY.out Try.underlying26 rfl (sizeK _ HOK.out) ?_)
            | (refine wpList_store_all rfl 26 _ _ rfl w.heap.size _ rfl rfl 26 _ HZ.out (sizeK _ HOK.out) (Ky.cells_same _ _ HOK.out Ky.zero_ok) (Ky.one _) ?_; intro w9 hb9 hg9 hs9))
          refine bodyPost_ret (results_cell2 rfl _ _ w.heap.size _ _ _ rfl hb9 Try.underlying26 rfl (sizeK _ HOK.out)) rfl ?_
          exact ⟨by rw [HOF.out]; rw [if_pos HWH.out]; unfold portsF; rw [if_neg (fun q => HD.out q.1)]; rfl, bgrown HW.out hg9 HW.out.size (by omega)⟩
        · have HWH := Lib.hid hw
          rw [hd] at hlk
          clear hd
          go_wp2_with (first
            | (refine wpList_load_blk rfl 26 _ rfl w5.heap.size rfl 26 _ _ HKY.out Try.underlying26 rfl (sizeK _ HOK.out) ?_)
            | (refine wpList_store_all rfl 26 _ _ rfl w.heap.size _ rfl rfl 26 _ HZ.out (sizeK _ HOK.out) (Ky.cells_same _ _ HOK.out Ky.zero_ok) (Ky.one _) ?_; intro w9 hb9 hg9 hs9))
          refine bodyPost_ret (results_cell2 rfl _ _ w.heap.size _ _ _ rfl hb9 Try.underlying26 rfl (sizeK _ HOK.out)) rfl ?_
          exact ⟨by rw [HOF.out]; rw [if_pos HWH.out]; unfold portsF; rw [if_neg (fun q => by have := q.2; omega)]; rfl, bgrown HW.out hg9 HW.out.size (by omega)⟩
        · have HWH := Lib.hid hw
          rw [hd] at hlk
          have HD := Lib.hid (of_decide_eq_true hd)
          clear hd
          obtain ⟨P, hP⟩ : ∃ P, numF l8 0 2 = P := ⟨_, rfl⟩
          obtain ⟨Q, hQ⟩ : ∃ Q, numF l8 2 2 = Q := ⟨_, rfl⟩
          have bP : P < 256 ^ 2 := by rw [← hP]; exact numF_bd _ _ _
          have bQ : Q < 256 ^ 2 := by rw [← hQ]; exact numF_bd _ _ _
          have HG : ∀ (i : Nat) (x : Nat), numF l8 i 2 = x → i + 2 ≤ n8 → Hid (∀ W, Below w8.heap.size w8 W → Calls Try.prog 23 #[.slice A8 n8 c8, .int .i64 (i : Nat), .int .i64 2] W (fun e w' => e = .returned (.tuple #[.int .u64 (x : Nat), .bool true]) ∧ Below W.heap.size W w')) := fun i x hx hi => Lib.hid fun W hW => by
            have G := get_yes A8 n8 c8 l8 (i : Nat) 2 W (HO8.out.below hW).row HO8.out.le HO8.out.cap hn8 (by omega) (by omega) (by omega) (by omega)
            rw [← hx]
            exact G
          have HG1 := HG 0 P hP (by omega)
          have HG2 := HG 2 Q hQ (by omega)
          have HPQ : Hid (portsF K0 l8 = { K0 with fr := (P : Nat), to := (Q : Nat) }) := Lib.hid (by unfold portsF; rw [if_pos ⟨HD.out, by omega⟩, hP, hQ])
          have HS1 := Lib.hid (K0.set34 HOK.out (P : Nat))
          have hk2 : ({ K0 with fr := (P : Nat) } : Ky).ok := ⟨HOK.out.src, HOK.out.dst⟩
          have HS2 := Lib.hid (({ K0 with fr := (P : Nat) } : Ky).set35 hk2 (Q : Nat))
          have HK3 : Hid (({ K0 with fr := (P : Nat), to := (Q : Nat) } : Ky).ok) := Lib.hid ⟨HOK.out.src, HOK.out.dst⟩
          clear HG hP hQ hk2
          go_wp2_with fail
          refine (HG1.out w8 (Below.refl _ _)).mono ?_
          rintro e w10 ⟨rfl, hb10⟩
          go_wp2_with fail
          refine (HG2.out w10 hb10).mono ?_
          rintro e w11 ⟨rfl, hb11⟩
          have hall := bthen hb10 hb11
          have hky := HKY.out.on hall
          have c34 : w11.cell? ⟨w5.heap.size, 34, none⟩ = some (.int .i64 K0.fr) := (hky.cell 34).trans (K0.get_tail HOK.out 1)
          have c35 : w11.cell? ⟨w5.heap.size, 35, none⟩ = some (.int .i64 K0.to) := (hky.cell 35).trans (K0.get_tail HOK.out 2)
          have r34 := hky.frozen 34
          have r35 := hky.frozen 35
          have hset := (hky.set 34 (.int .i64 (P : Nat))).set 35 (.int .i64 (Q : Nat))
          rw [HS1.out, HS2.out] at hset
          have HSB := Lib.hid hset
          have hzz := ((HZ.out.on hall).far (p := ⟨w5.heap.size, 34, none⟩) (by show w.heap.size ≠ w5.heap.size; omega) (.int .i64 (P : Nat))).far (p := ⟨w5.heap.size, 35, none⟩) (by show w.heap.size ≠ w5.heap.size; omega) (.int .i64 (Q : Nat))
          have HZZ := Lib.hid hzz
          have hB12 := ((bthen HW.out hall).setCell (p := ⟨w5.heap.size, 34, none⟩) (by show w.heap.size ≤ w5.heap.size; omega) (.int .i64 (P : Nat))).setCell (p := ⟨w5.heap.size, 35, none⟩) (by show w.heap.size ≤ w5.heap.size; omega) (.int .i64 (Q : Nat))
          have HB12 := Lib.hid hB12
          clear hset hzz hB12 hky hall hb10 hb11 c33 hlk
          go_wp2_with (first
            | (refine wpList_load_blk rfl 26 _ rfl w5.heap.size rfl 26 _ _ HSB.out Try.underlying26 rfl (sizeK _ HK3.out) ?_)
            | (refine wpList_store_all rfl 26 _ _ rfl w.heap.size _ rfl rfl 26 _ HZZ.out (sizeK _ HK3.out) (Ky.cells_same _ _ HK3.out Ky.zero_ok) (Ky.one _) ?_; intro w9 hb9 hg9 hs9))
          refine bodyPost_ret (results_cell2 rfl _ _ w.heap.size _ _ _ rfl hb9 Try.underlying26 rfl (sizeK _ HK3.out)) rfl ?_
          exact ⟨by rw [HOF.out]; rw [if_pos HWH.out]; rw [HPQ.out]; rfl, bgrown HB12.out hg9 HB12.out.size (by omega)⟩
      · have hne : ((par4 l).2 != 0) = true := by simpa using he
        have HNE := Lib.hid he
        clear he
        go_wp2_with (first
          | (refine wpList_alloc_blk rfl 26 rfl Ky.zero.cells zeroK ?_; intro w6 hbw6 hBw6 hsw6)
          | (refine wpList_store_all rfl 26 _ _ rfl w5.heap.size (key4F l).cells rfl rfl 26 _ hbw6 (sizeK _ HOK4.out) (Ky.cells_same _ _ HOK4.out Ky.zero_ok) (Ky.one _) ?_; intro w7 hbw7 hgw7 hsw7; have hBw7 : Below w5.heap.size w5 w7 := bgrown hBw6 hgw7 (by omega) (by omega)))
        replace HB := Lib.hid (HB.out.trans (hBw7.mono HB.out.size))
        clear hbw6 hBw6 hsw6 hbw7 hBw7 hgw7 hsw7
        go_roundw
        case rel => exact ⟨1, by omega, by go_num, fun _ => HNE.out, by omega, HB.out⟩
        case measure => simp [intOf]
    · have N4 := Lib.hid (hj1 (Nat.le_refl _))
      clear hj1 hj2
      have f0 : wr.cell? ⟨g3, 2, none⟩ = some (.func (.func 21) #[] #[]) := HKD.out.cell 2
      have f1 : wr.cell? ⟨g3, 3, none⟩ = some (.func (.func 22) #[] #[]) := HKD.out.cell 3
      go_wp2_with (first
        | (refine wpList_alloc_blk rfl 63 rfl [.nilFunc, .nilFunc] (fun _ => by kernel_rfl) ?_; intro wa hba hBa hsa)
        | (refine wpList_store_all rfl 63 _ _ rfl wr.heap.size [.func (.func 21) #[] #[], .func (.func 22) #[] #[]] rfl rfl 63 _ hba (by kernel_rfl) rfl (by simp [Value.oneCell']) ?_; intro we hke hge hse; have k0 : we.cell? ⟨wr.heap.size, 0, none⟩ = some (.func (.func 21) #[] #[]) := hke.cell 0))
      have hae : Below wr.heap.size wr we := bgrown hBa hge (by omega) (by omega)
      clear hba hBa hsa hge hse f0 f1 k0
      refine (key6_any A n c l we ((HR.out.below (bthen HW.out hae)).more (bthen HW.out hae).size) hc hcm hn).mono ?_
      rintro e w5 ⟨rfl, hb5⟩
      have HKE := Lib.hid (hke.on hb5)
      have hall := bthen hae hb5
      replace HZ := Lib.hid (HZ.out.on hall)
      replace HM := Lib.hid (HM.out.kept (below_grow hall none) (by simp))
      replace HW := Lib.hid (bthen HW.out hall)
      have hwk : wr.heap.size < w5.heap.size := HKE.out.lt
      have hzk : w.heap.size < w5.heap.size := HZ.out.lt
      replace HB := Lib.hid (HB.out.trans (hall.mono HB.out.size))
      clear hae hke hb5 hall HKD
      by_cases he : (par6 l).2 = 0
      · rw [he]
        obtain ⟨K0, hK0⟩ : ∃ K0, K0 = key6F l := ⟨_, rfl⟩
        obtain ⟨bd, hbd⟩ : ∃ bd, bd = body6 l := ⟨_, rfl⟩
        have hofk : ofK l = (portsF (key6F l) (body6 l), true) := by unfold ofK; rw [if_neg N4.out, if_pos he]
        rw [← hK0, ← hbd] at hofk
        rw [← hK0]
        have HOK : Hid K0.ok := Lib.hid (by rw [hK0]; exact HOK6.out)
        have HBD := Lib.hid hbd
        have hbdl : bd.length ≤ n := by rw [hbd]; exact body6_le l n HR.out
        have hpr : 0 ≤ K0.pro ∧ K0.pro ≤ 255 := by rw [hK0]; exact par6_next l
        have HOF := Lib.hid hofk
        clear he hK0 hbd hofk
        go_wp2_with (first
          | (refine wpList_alloc_blk rfl 26 rfl Ky.zero.cells zeroK ?_; intro w6 hbw6 hBw6 hsw6)
          | (refine wpList_store_all rfl 26 _ _ rfl w5.heap.size K0.cells rfl rfl 26 _ hbw6 (sizeK _ HOK.out) (Ky.cells_same _ _ HOK.out Ky.zero_ok) (Ky.one _) ?_; intro w7 hbw7 hgw7 hsw7; have hBw7 : Below w5.heap.size w5 w7 := bgrown hBw6 hgw7 (by omega) (by omega)); have k1 := HKE.out.on hBw7; have f1 : w7.cell? ⟨wr.heap.size, 1, none⟩ = some (.func (.func 22) #[] #[]) := k1.cell 1)
        replace HZ := Lib.hid (HZ.out.on hBw7)
        replace HM := Lib.hid (HM.out.kept (below_grow hBw7 none) (by simp))
        replace HW := Lib.hid (bthen HW.out hBw7)
        have HKY := Lib.hid hbw7
        clear k1 hbw6 hBw6 hsw6 hbw7 hBw7 hgw7 hsw7
        refine (body6_any A n c l w7 ((HR.out.below HW.out).more HW.out.size) hc hcm hn).mono ?_
        rintro e w8 ⟨⟨A8, n8, c8, l8⟩, rfl, hl8, ho8, hb8⟩
        rw [← HBD.out] at hl8
        simp only at hl8
        subst hl8
        simp only [Bs.v]
        have HO8 := Lib.hid ho8
        have hln8 : l8.length = n8 := ho8.len
        have hn8 : n8 ≤ 1099511627776 := by omega
        replace HZ := Lib.hid (HZ.out.on hb8)
        replace HM := Lib.hid (HM.out.kept (below_grow hb8 none) (by simp))
        replace HW := Lib.hid (bthen HW.out hb8)
        replace HKY := Lib.hid (HKY.out.on hb8)
        have hhl : Below w.heap.size w w8 := HW.out
        clear ho8 hb8 f1 hhl
        have c33 : w8.cell? ⟨w5.heap.size, 33, none⟩ = some (.int .u8 K0.pro) := (HKY.out.cell 33).trans (K0.get_tail HOK.out 0)
        have hlk := ported_run HM.out K0.pro hpr.1 hpr.2
        clear hpr
        have hparts : (decide (K0.pro = 6 ∨ K0.pro = 17) = false) ∨ (decide (K0.pro = 6 ∨ K0.pro = 17) = true ∧ ¬ (4 : Int) ≤ (n8 : Int)) ∨ (decide (K0.pro = 6 ∨ K0.pro = 17) = true ∧ (4 : Int) ≤ (n8 : Int)) := by
          by_cases hd : K0.pro = 6 ∨ K0.pro = 17
          · by_cases hn4 : (4 : Int) ≤ (n8 : Int)
            · exact .inr (.inr ⟨decide_eq_true hd, hn4⟩)
            · exact .inr (.inl ⟨decide_eq_true hd, hn4⟩)
          · exact .inl (decide_eq_false hd)
        rcases hparts with hd | ⟨hd, hn4⟩ | ⟨hd, hn4⟩
        · rw [hd] at hlk
          have HD := Lib.hid (of_decide_eq_false hd)
          clear hd
          go_wp2_with (first
            | (refine wpList_load_blk rfl 26 _ rfl w5.heap.size rfl 26 _ _ HKY.out Try.underlying26 rfl (sizeK _ HOK.out) ?_)
            | (refine wpList_store_all rfl 26 _ _ rfl w.heap.size _ rfl rfl 26 _ HZ.out (sizeK _ HOK.out) (Ky.cells_same _ _ HOK.out Ky.zero_ok) (Ky.one _) ?_; intro w9 hb9 hg9 hs9))
          refine bodyPost_ret (results_cell2 rfl _ _ w.heap.size _ _ _ rfl hb9 Try.underlying26 rfl (sizeK _ HOK.out)) rfl ?_
          exact ⟨by rw [HOF.out]; unfold portsF; rw [if_neg (fun q => HD.out q.1)]; rfl, bgrown HW.out hg9 HW.out.size (by omega)⟩
        · rw [hd] at hlk
          clear hd
          go_wp2_with (first
            | (refine wpList_load_blk rfl 26 _ rfl w5.heap.size rfl 26 _ _ HKY.out Try.underlying26 rfl (sizeK _ HOK.out) ?_)
            | (refine wpList_store_all rfl 26 _ _ rfl w.heap.size _ rfl rfl 26 _ HZ.out (sizeK _ HOK.out) (Ky.cells_same _ _ HOK.out Ky.zero_ok) (Ky.one _) ?_; intro w9 hb9 hg9 hs9))
          refine bodyPost_ret (results_cell2 rfl _ _ w.heap.size _ _ _ rfl hb9 Try.underlying26 rfl (sizeK _ HOK.out)) rfl ?_
          exact ⟨by rw [HOF.out]; unfold portsF; rw [if_neg (fun q => by have := q.2; omega)]; rfl, bgrown HW.out hg9 HW.out.size (by omega)⟩
        · rw [hd] at hlk
          have HD := Lib.hid (of_decide_eq_true hd)
          clear hd
          obtain ⟨P, hP⟩ : ∃ P, numF l8 0 2 = P := ⟨_, rfl⟩
          obtain ⟨Q, hQ⟩ : ∃ Q, numF l8 2 2 = Q := ⟨_, rfl⟩
          have bP : P < 256 ^ 2 := by rw [← hP]; exact numF_bd _ _ _
          have bQ : Q < 256 ^ 2 := by rw [← hQ]; exact numF_bd _ _ _
          have HG : ∀ (i : Nat) (x : Nat), numF l8 i 2 = x → i + 2 ≤ n8 → Hid (∀ W, Below w8.heap.size w8 W → Calls Try.prog 23 #[.slice A8 n8 c8, .int .i64 (i : Nat), .int .i64 2] W (fun e w' => e = .returned (.tuple #[.int .u64 (x : Nat), .bool true]) ∧ Below W.heap.size W w')) := fun i x hx hi => Lib.hid fun W hW => by
            have G := get_yes A8 n8 c8 l8 (i : Nat) 2 W (HO8.out.below hW).row HO8.out.le HO8.out.cap hn8 (by omega) (by omega) (by omega) (by omega)
            rw [← hx]
            exact G
          have HG1 := HG 0 P hP (by omega)
          have HG2 := HG 2 Q hQ (by omega)
          have HPQ : Hid (portsF K0 l8 = { K0 with fr := (P : Nat), to := (Q : Nat) }) := Lib.hid (by unfold portsF; rw [if_pos ⟨HD.out, by omega⟩, hP, hQ])
          have HS1 := Lib.hid (K0.set34 HOK.out (P : Nat))
          have hk2 : ({ K0 with fr := (P : Nat) } : Ky).ok := ⟨HOK.out.src, HOK.out.dst⟩
          have HS2 := Lib.hid (({ K0 with fr := (P : Nat) } : Ky).set35 hk2 (Q : Nat))
          have HK3 : Hid (({ K0 with fr := (P : Nat), to := (Q : Nat) } : Ky).ok) := Lib.hid ⟨HOK.out.src, HOK.out.dst⟩
          clear HG hP hQ hk2
          go_wp2_with fail
          refine (HG1.out w8 (Below.refl _ _)).mono ?_
          rintro e w10 ⟨rfl, hb10⟩
          go_wp2_with fail
          refine (HG2.out w10 hb10).mono ?_
          rintro e w11 ⟨rfl, hb11⟩
          have hall := bthen hb10 hb11
          have hky := HKY.out.on hall
          have c34 : w11.cell? ⟨w5.heap.size, 34, none⟩ = some (.int .i64 K0.fr) := (hky.cell 34).trans (K0.get_tail HOK.out 1)
          have c35 : w11.cell? ⟨w5.heap.size, 35, none⟩ = some (.int .i64 K0.to) := (hky.cell 35).trans (K0.get_tail HOK.out 2)
          have r34 := hky.frozen 34
          have r35 := hky.frozen 35
          have hset := (hky.set 34 (.int .i64 (P : Nat))).set 35 (.int .i64 (Q : Nat))
          rw [HS1.out, HS2.out] at hset
          have HSB := Lib.hid hset
          have hzz := ((HZ.out.on hall).far (p := ⟨w5.heap.size, 34, none⟩) (by show w.heap.size ≠ w5.heap.size; omega) (.int .i64 (P : Nat))).far (p := ⟨w5.heap.size, 35, none⟩) (by show w.heap.size ≠ w5.heap.size; omega) (.int .i64 (Q : Nat))
          have HZZ := Lib.hid hzz
          have hB12 := ((bthen HW.out hall).setCell (p := ⟨w5.heap.size, 34, none⟩) (by show w.heap.size ≤ w5.heap.size; omega) (.int .i64 (P : Nat))).setCell (p := ⟨w5.heap.size, 35, none⟩) (by show w.heap.size ≤ w5.heap.size; omega) (.int .i64 (Q : Nat))
          have HB12 := Lib.hid hB12
          clear hset hzz hB12 hky hall hb10 hb11 c33 hlk
          go_wp2_with (first
            | (refine wpList_load_blk rfl 26 _ rfl w5.heap.size rfl 26 _ _ HSB.out Try.underlying26 rfl (sizeK _ HK3.out) ?_)
            | (refine wpList_store_all rfl 26 _ _ rfl w.heap.size _ rfl rfl 26 _ HZZ.out (sizeK _ HK3.out) (Ky.cells_same _ _ HK3.out Ky.zero_ok) (Ky.one _) ?_; intro w9 hb9 hg9 hs9))
          refine bodyPost_ret (results_cell2 rfl _ _ w.heap.size _ _ _ rfl hb9 Try.underlying26 rfl (sizeK _ HK3.out)) rfl ?_
          exact ⟨by rw [HOF.out]; rw [HPQ.out]; rfl, bgrown HB12.out hg9 HB12.out.size (by omega)⟩
      · have hne : ((par6 l).2 != 0) = true := by simpa using he
        have HNE := Lib.hid he
        clear he
        go_wp2_with (first
          | (refine wpList_alloc_blk rfl 26 rfl Ky.zero.cells zeroK ?_; intro w6 hbw6 hBw6 hsw6)
          | (refine wpList_store_all rfl 26 _ _ rfl w5.heap.size (key6F l).cells rfl rfl 26 _ hbw6 (sizeK _ HOK6.out) (Ky.cells_same _ _ HOK6.out Ky.zero_ok) (Ky.one _) ?_; intro w7 hbw7 hgw7 hsw7; have hBw7 : Below w5.heap.size w5 w7 := bgrown hBw6 hgw7 (by omega) (by omega)))
        replace HB := Lib.hid (HB.out.trans (hBw7.mono HB.out.size))
        clear hbw6 hBw6 hsw6 hbw7 hBw7 hgw7 hsw7
        go_roundw
        case rel => exact ⟨2, by omega, by go_num, fun _ => N4.out, fun _ => HNE.out, HB.out⟩
        case measure => simp [intOf]
    · have N4 := Lib.hid (hj1 (by omega))
      have N6 := Lib.hid (hj2 (by omega))
      clear hj1 hj2
      have HE : Hid (ofK l = (Ky.zero, false)) := Lib.hid (by unfold ofK; rw [if_neg N4.out, if_neg N6.out])
      go_wp2_with (first
        | (refine wpList_value rfl (exec_buildKz rfl) ?_)
        | (refine wpList_store_all rfl 26 _ _ rfl w.heap.size _ rfl rfl 26 _ HZ.out (sizeK _ Ky.zero_ok) rfl (Ky.one _) ?_; intro w6 hb6 hg6 hs6))
      refine bodyPost_ret (results_cell2 rfl _ _ w.heap.size _ _ _ rfl hb6 Try.underlying26 rfl (sizeK _ Ky.zero_ok)) rfl ?_
      exact ⟨by rw [HE.out]; rfl, bgrown HW.out hg6 HW.out.size (by omega)⟩


end Go.Proofs.Ythjjcglheialfaa

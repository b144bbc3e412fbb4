/- What the reference's Put of IPv6 computes. No condition but sizes. -/
import Derived.Test.YtimkgkokidhhpaaIp6c
namespace Go.Proofs.Ytimkgkokidhhpaa
open Go.RowKit
set_option linter.unusedVariables false
set_option maxRecDepth 20000
set_option linter.unusedSimpArgs false

set_option maxHeartbeats 1000000 in
theorem rput6_arg (h : H6) (hf : h.fit) (l : List UInt8) (w : World) (hx : h.flow < 0 ∨ 1048576 ≤ h.flow) :
    Calls Try.prog 17 #[.agg h.cells.toArray, str l] w fun e w' => e = .returned (.tuple #[str [], .int .i64 1]) ∧ Below w.heap.size w w' := by
  rcases hx with hx | hx
  · go_enter Try.func17, Try.ntmps17
    go_wp2_with (refine wpList_box_blk rfl 44 _ rfl h.cells rfl ?_; intro w1 hb1 hB1 hs1; have c1 : w1.cell? ⟨w.heap.size, 1, none⟩ = some (.int .i64 h.flow) := hb1.cell 1)
    go_ret2
    exact ⟨rfl, hB1⟩
  · have hx0 : ¬ h.flow < 0 := by omega
    have hx1 : 1048575 < h.flow := by omega
    clear hx
    go_enter Try.func17, Try.ntmps17
    go_wp2_with (refine wpList_box_blk rfl 44 _ rfl h.cells rfl ?_; intro w1 hb1 hB1 hs1; have c1 : w1.cell? ⟨w.heap.size, 1, none⟩ = some (.int .i64 h.flow) := hb1.cell 1)
    go_ret2
    exact ⟨rfl, hB1⟩

set_option maxHeartbeats 1000000 in
theorem rput6_len (h : H6) (hf : h.fit) (l : List UInt8) (w : World) (hn : l.length ≤ 1099511627776) (hx0 : 0 ≤ h.flow) (hx1 : h.flow < 1048576) (hl : 65495 < l.length) :
    Calls Try.prog 17 #[.agg h.cells.toArray, str l] w fun e w' => e = .returned (.tuple #[str [], .int .i64 13]) ∧ Below w.heap.size w w' := by
  have hl' : (65535 : Int) < (l.length : Int) + 40 := by omega
  have hx2 : ¬ 1048575 < h.flow := by omega
  go_enter Try.func17, Try.ntmps17
  go_wp2_with (refine wpList_box_blk rfl 44 _ rfl h.cells rfl ?_; intro w1 hb1 hB1 hs1; have c1 : w1.cell? ⟨w.heap.size, 1, none⟩ = some (.int .i64 h.flow) := hb1.cell 1)
  go_ret2
  exact ⟨rfl, hB1⟩

set_option maxHeartbeats 1000000 in
theorem rput6_ok (h : H6) (hf : h.fit) (l : List UInt8) (w : World) (hx0 : 0 ≤ h.flow) (hx1 : h.flow < 1048576) (hl : l.length ≤ 65495) :
    Calls Try.prog 17 #[.agg h.cells.toArray, str l] w fun e w' => e = .returned (.tuple #[str (front6 h l.length ++ h.src ++ h.dst ++ l), .int .i64 0]) ∧ Below w.heap.size w w' := by
  have hl' : ¬ (65535 : Int) < (l.length : Int) + 40 := by omega
  have hx2 : ¬ 1048575 < h.flow := by omega
  obtain ⟨k0, k1⟩ := hf.cls
  obtain ⟨n0, n1⟩ := hf.next
  obtain ⟨t0, t1⟩ := hf.ttl
  obtain ⟨Nv, hNv⟩ : ∃ Nv, 1610612736 + h.cls * 1048576 + h.flow = Nv := ⟨_, rfl⟩
  have N0 : 0 ≤ Nv := by omega
  have N1 : Nv < 4294967296 := by omega
  have hw1 : IntKind.u64.wrap Nv = Nv := wrap64_id Nv (by omega) (by omega)
  have HN := Lib.hid hNv
  have HF := Lib.hid hf
  have HS := Lib.hid hf.ok.src
  have HD := Lib.hid hf.ok.dst
  clear hf
  go_enter Try.func17, Try.ntmps17
  go_wp2_with (refine wpList_box_blk rfl 44 _ rfl h.cells rfl ?_; intro w1 hb1 hB1 hs1; have c0 : w1.cell? ⟨w.heap.size, 0, none⟩ = some (.int .u8 h.cls) := hb1.cell 0; have c1 : w1.cell? ⟨w.heap.size, 1, none⟩ = some (.int .i64 h.flow) := hb1.cell 1)
  have HB := Lib.hid hb1
  clear hNv c0 c1 hb1
  refine wp_region_rel (fun A B => A.grownBy B none) (fun A => grown_refl A _) (fun A B C h k => grown_trans h k) (relAt [fun v _ => v = .int .i64 Nv, fun v _ => v = .int .u64 Nv, fun v _ => v = str (toBe 4 Nv.toNat), fun v _ => v = str l, fun v _ => v = .int .i64 (l.length : Int), fun v _ => v = .int .u64 (l.length : Int), fun v _ => v = str (toBe 2 l.length), fun v _ => v = str (toBe 4 Nv.toNat ++ toBe 2 l.length), fun v _ => v = .pointer (some ⟨w.heap.size, 3, none⟩), fun v _ => v = .int .u8 h.next, fun v _ => v = .pointer (some ⟨w.heap.size, 4, none⟩), fun v _ => v = .int .u8 h.ttl, BsR [ub h.next, ub h.ttl], fun v _ => v = str [ub h.next, ub h.ttl], fun v _ => v = str (toBe 4 Nv.toNat ++ toBe 2 l.length ++ [ub h.next, ub h.ttl]), fun v _ => v = .pointer (some ⟨w.heap.size, 5, none⟩), fun v _ => v = .agg (bv h.src).toArray, fun v _ => v = str h.src, fun v _ => v = str (toBe 4 Nv.toNat ++ toBe 2 l.length ++ [ub h.next, ub h.ttl] ++ h.src), fun v _ => v = .pointer (some ⟨w.heap.size, 21, none⟩), fun v _ => v = .agg (bv h.dst).toArray, fun v _ => v = str h.dst, fun v _ => v = str (toBe 4 Nv.toNat ++ toBe 2 l.length ++ [ub h.next, ub h.ttl] ++ h.src ++ h.dst), fun v _ => v = str l, fun v _ => v = str (toBe 4 Nv.toNat ++ toBe 2 l.length ++ [ub h.next, ub h.ttl] ++ h.src ++ h.dst ++ l), fun v _ => v = str (toBe 4 Nv.toNat ++ toBe 2 l.length ++ [ub h.next, ub h.ttl] ++ h.src ++ h.dst ++ l), fun v _ => v = .int .i64 0]) (MonoL.at_ (.cons (mono_val _) (.cons (mono_val _) (.cons (mono_val _) (.cons (mono_val _) (.cons (mono_val _) (.cons (mono_val _) (.cons (mono_val _) (.cons (mono_val _) (.cons (mono_val _) (.cons (mono_val _) (.cons (mono_val _) (.cons (mono_val _) (.cons (mono_bs _) (.cons (mono_val _) (.cons (mono_val _) (.cons (mono_val _) (.cons (mono_val _) (.cons (mono_val _) (.cons (mono_val _) (.cons (mono_val _) (.cons (mono_val _) (.cons (mono_val _) (.cons (mono_val _) (.cons (mono_val _) (.cons (mono_val _) (.cons (mono_val _) (.cons (mono_val _) .nil)))))))))))))))))))))))))))) (by kernel_rfl) (by kernel_rfl) ⟨?_, ?_, ?_, ?_, ?_, ?_, ?_, ?_, ?_, ?_, ?_, ?_, ?_, ?_, ?_, ?_, ?_, ?_, ?_, ?_, ?_, ?_, ?_, ?_, ?_, ?_, ?_, trivial⟩ ?_
  · intro a vs W hX hR he hf K hK
    rw [if_pos (wanted_none rfl)]
    have e6 : a.eval (.tmp 6) = .int .i64 Nv := hf 6 (by kernel_rfl)
    refine wp_value (v := .int .i64 Nv) ?_ (hK _ _ rfl (grown_refl W _))
    simp only [execOp, e6]
    try go_simp
    try (first | rfl | omega | (simp only [IntKind.wrap_i64, IntKind.wrap_u8, IntKind.wrap_u64, IntKind.wrap_u16, IntKind.wrap_u32]; omega) | (rw [Int.tmod_eq_emod_of_nonneg (by omega)]) | (rw [Int.tmod_eq_emod_of_nonneg (by omega)]; omega))
  · intro a vs W hX hR he hf K hK
    rw [if_pos (wanted_none rfl)]
    have e27 : a.eval (.tmp 27) = .int .i64 Nv := (he 0 27 (by kernel_rfl) rfl).trans (hR 0 (by kernel_rfl))
    refine wp_value (v := .int .u64 Nv) ?_ (hK _ _ rfl (grown_refl W _))
    simp only [execOp, e27]
    try go_simp
    try (first | rfl | omega | (simp only [IntKind.wrap_i64, IntKind.wrap_u8, IntKind.wrap_u64, IntKind.wrap_u16, IntKind.wrap_u32]; omega) | (rw [Int.tmod_eq_emod_of_nonneg (by omega)]) | (rw [Int.tmod_eq_emod_of_nonneg (by omega)]; omega))
  · intro a vs W hX hR he hf K hK
    rw [if_pos (wanted_none rfl)]
    have e28 : a.eval (.tmp 28) = .int .u64 Nv := (he 1 28 (by kernel_rfl) rfl).trans (hR 1 (by kernel_rfl))
    refine wp_enter (f := 45) (args := #[.int .u64 Nv, .int .i64 4]) (by simp only [execOp, e28]; go_simp; simpa [Act.eval] using e28) ((bytes_any Nv 4 W (by omega) (by omega) (by omega) (by omega)).mono ?_)
    rintro e w' ⟨rfl, hb⟩
    exact ⟨_, rfl, hK _ _ rfl (below_grow hb _)⟩
  · intro a vs W hX hR he hf K hK
    rw [if_pos (wanted_none rfl)]
    have e1 : a.eval (.tmp 1) = str l := hf 1 (by kernel_rfl)
    refine wp_value (v := str l) ?_ (hK _ _ rfl (grown_refl W _))
    simp only [execOp, e1]
    try go_simp
    try (first | rfl | omega | (simp only [IntKind.wrap_i64, IntKind.wrap_u8, IntKind.wrap_u64, IntKind.wrap_u16, IntKind.wrap_u32]; omega) | (rw [Int.tmod_eq_emod_of_nonneg (by omega)]) | (rw [Int.tmod_eq_emod_of_nonneg (by omega)]; omega))
  · intro a vs W hX hR he hf K hK
    rw [if_pos (wanted_none rfl)]
    have e30 : a.eval (.tmp 30) = str l := (he 3 30 (by kernel_rfl) rfl).trans (hR 3 (by kernel_rfl))
    have f30 := e30
    simp only [Act.eval, Array.getD_eq_getD_getElem?] at f30
    refine wp_value (v := .int .i64 (l.length : Int)) ?_ (hK _ _ rfl (grown_refl W _))
    simp only [execOp, e30]
    try go_simp
    try (first | rfl | omega | (simp only [IntKind.wrap_i64, IntKind.wrap_u8, IntKind.wrap_u64, IntKind.wrap_u16, IntKind.wrap_u32]; omega) | (rw [Int.tmod_eq_emod_of_nonneg (by omega)]) | (rw [Int.tmod_eq_emod_of_nonneg (by omega)]; omega))
  · intro a vs W hX hR he hf K hK
    rw [if_pos (wanted_none rfl)]
    have e31 : a.eval (.tmp 31) = .int .i64 (l.length : Int) := (he 4 31 (by kernel_rfl) rfl).trans (hR 4 (by kernel_rfl))
    refine wp_value (v := .int .u64 (l.length : Int)) ?_ (hK _ _ rfl (grown_refl W _))
    simp only [execOp, e31]
    try go_simp
    try (first | rfl | omega | (simp only [IntKind.wrap_i64, IntKind.wrap_u8, IntKind.wrap_u64, IntKind.wrap_u16, IntKind.wrap_u32]; omega) | (rw [Int.tmod_eq_emod_of_nonneg (by omega)]) | (rw [Int.tmod_eq_emod_of_nonneg (by omega)]; omega))
  · intro a vs W hX hR he hf K hK
    rw [if_pos (wanted_none rfl)]
    have e32 : a.eval (.tmp 32) = .int .u64 (l.length : Int) := (he 5 32 (by kernel_rfl) rfl).trans (hR 5 (by kernel_rfl))
    refine wp_enter (f := 45) (args := #[.int .u64 (l.length : Int), .int .i64 2]) (by simp only [execOp, e32]; go_simp; simpa [Act.eval] using e32) ((bytes_any (l.length : Int) 2 W (by omega) (by omega) (by omega) (by omega)).mono ?_)
    rintro e w' ⟨rfl, hb⟩
    exact ⟨_, rfl, hK _ _ (show str (toBe (2 : Int).toNat (l.length : Int).toNat) = str (toBe 2 l.length) by simp) (below_grow hb _)⟩
  · intro a vs W hX hR he hf K hK
    rw [if_pos (wanted_none rfl)]
    have e29 : a.eval (.tmp 29) = str (toBe 4 Nv.toNat) := (he 2 29 (by kernel_rfl) rfl).trans (hR 2 (by kernel_rfl))
    have e33 : a.eval (.tmp 33) = str (toBe 2 l.length) := (he 6 33 (by kernel_rfl) rfl).trans (hR 6 (by kernel_rfl))
    refine wp_value (v := _) ?_ (hK _ _ rfl (grown_refl W _))
    simp only [execOp, e29, e33]
    go_simp
    simp [ba_append]
    try (simp [toBe_length, HS.out, HD.out] <;> omega)
  · intro a vs W hX hR he hf K hK
    rw [if_pos (wanted_none rfl)]
    have e2 : a.eval (.tmp 2) = .pointer (some ⟨w.heap.size, 0, none⟩) := hf 2 (by kernel_rfl)
    refine wp_value (v := .pointer (some ⟨w.heap.size, 3, none⟩)) ?_ (hK _ _ rfl (grown_refl W _))
    simp only [execOp, e2]
    try go_simp
    try (first | rfl | omega | (simp only [IntKind.wrap_i64, IntKind.wrap_u8, IntKind.wrap_u64, IntKind.wrap_u16, IntKind.wrap_u32]; omega) | (rw [Int.tmod_eq_emod_of_nonneg (by omega)]) | (rw [Int.tmod_eq_emod_of_nonneg (by omega)]; omega))
  · intro a vs W hX hR he hf K hK
    rw [if_pos (wanted_none rfl)]
    have e35 : a.eval (.tmp 35) = .pointer (some ⟨w.heap.size, 3, none⟩) := (he 8 35 (by kernel_rfl) rfl).trans (hR 8 (by kernel_rfl))
    have hbW := HB.out.on (bthen (below_drew _) (grow_below hX))
    have hc : W.cell? ⟨w.heap.size, 3, none⟩ = some (.int .u8 h.next) := hbW.cell 3
    refine wp_value (v := _) ?_ (hK _ _ rfl (grown_refl W _))
    simp only [execOp, e35]
    go_simp
  · intro a vs W hX hR he hf K hK
    rw [if_pos (wanted_none rfl)]
    have e2 : a.eval (.tmp 2) = .pointer (some ⟨w.heap.size, 0, none⟩) := hf 2 (by kernel_rfl)
    refine wp_value (v := .pointer (some ⟨w.heap.size, 4, none⟩)) ?_ (hK _ _ rfl (grown_refl W _))
    simp only [execOp, e2]
    try go_simp
    try (first | rfl | omega | (simp only [IntKind.wrap_i64, IntKind.wrap_u8, IntKind.wrap_u64, IntKind.wrap_u16, IntKind.wrap_u32]; omega) | (rw [Int.tmod_eq_emod_of_nonneg (by omega)]) | (rw [Int.tmod_eq_emod_of_nonneg (by omega)]; omega))
  · intro a vs W hX hR he hf K hK
    rw [if_pos (wanted_none rfl)]
    have e37 : a.eval (.tmp 37) = .pointer (some ⟨w.heap.size, 4, none⟩) := (he 10 37 (by kernel_rfl) rfl).trans (hR 10 (by kernel_rfl))
    have hbW := HB.out.on (bthen (below_drew _) (grow_below hX))
    have hc : W.cell? ⟨w.heap.size, 4, none⟩ = some (.int .u8 h.ttl) := hbW.cell 4
    refine wp_value (v := _) ?_ (hK _ _ rfl (grown_refl W _))
    simp only [execOp, e37]
    go_simp
  · intro a vs W hX hR he hf K hK
    rw [if_pos (wanted_none rfl)]
    have e36 : a.eval (.tmp 36) = .int .u8 h.next := (he 9 36 (by kernel_rfl) rfl).trans (hR 9 (by kernel_rfl))
    have e38 : a.eval (.tmp 38) = .int .u8 h.ttl := (he 11 38 (by kernel_rfl) rfl).trans (hR 11 (by kernel_rfl))
    have f36 := e36
    simp only [Act.eval, Array.getD_eq_getD_getElem?] at f36
    have f38 := e38
    simp only [Act.eval, Array.getD_eq_getD_getElem?] at f38
    refine wp_value (v := .slice (some ⟨W.heap.size, 0, none⟩) 2 2) (w' := W.alloc (.cells #[.int .u8 h.next, .int .u8 h.ttl] 5)) ?_ (hK _ _ ⟨_, _, _, rfl, ⟨by rw [World.size_alloc]; exact row_lit W _ [ub h.next, ub h.ttl] 2 (by simp [bv, ub]; omega) rfl, Nat.le_refl _, by simp [maxLen]⟩⟩ (World.grownBy_alloc _ _ _))
    simp only [execOp]
    go_simp
  · intro a vs W hX hR he hf K hK
    rw [if_pos (wanted_none rfl)]
    have e39 := he 12 39 (by kernel_rfl) rfl
    have p39 := hR 12 (by kernel_rfl)
    obtain ⟨A, n, c, hv, ho⟩ := p39
    rw [hv] at e39
    exact wp_value (exec_str 22 9 5 _ rfl Try.underlying22 Try.underlying5 Try.underlying9 A n c _ e39 ho) (hK _ _ rfl (grown_refl W _))
  · intro a vs W hX hR he hf K hK
    rw [if_pos (wanted_none rfl)]
    have e34 : a.eval (.tmp 34) = str (toBe 4 Nv.toNat ++ toBe 2 l.length) := (he 7 34 (by kernel_rfl) rfl).trans (hR 7 (by kernel_rfl))
    have e40 : a.eval (.tmp 40) = str [ub h.next, ub h.ttl] := (he 13 40 (by kernel_rfl) rfl).trans (hR 13 (by kernel_rfl))
    refine wp_value (v := _) ?_ (hK _ _ rfl (grown_refl W _))
    simp only [execOp, e34, e40]
    go_simp
    simp [ba_append]
    try (simp [toBe_length, HS.out, HD.out] <;> omega)
  · intro a vs W hX hR he hf K hK
    rw [if_pos (wanted_none rfl)]
    have e2 : a.eval (.tmp 2) = .pointer (some ⟨w.heap.size, 0, none⟩) := hf 2 (by kernel_rfl)
    refine wp_value (v := .pointer (some ⟨w.heap.size, 5, none⟩)) ?_ (hK _ _ rfl (grown_refl W _))
    simp only [execOp, e2]
    try go_simp
    try (first | rfl | omega | (simp only [IntKind.wrap_i64, IntKind.wrap_u8, IntKind.wrap_u64, IntKind.wrap_u16, IntKind.wrap_u32]; omega) | (rw [Int.tmod_eq_emod_of_nonneg (by omega)]) | (rw [Int.tmod_eq_emod_of_nonneg (by omega)]; omega))
  · intro a vs W hX hR he hf K hK
    rw [if_pos (wanted_none rfl)]
    have e42 : a.eval (.tmp 42) = .pointer (some ⟨w.heap.size, 5, none⟩) := (he 15 42 (by kernel_rfl) rfl).trans (hR 15 (by kernel_rfl))
    have hbW := HB.out.on (bthen (below_drew _) (grow_below hX))
    have hr := hbW.range 5 16
    rw [h.drop_src HF.out.ok] at hr
    exact wp_value (exec_load_mid 33 _ rfl w.heap.size 5 e42 _ _ hr Try.underlying33 rfl (size24 _ HF.out.ok.src)) (hK _ _ rfl (grown_refl W _))
  · intro a vs W hX hR he hf K hK
    rw [if_pos (wanted_none rfl)]
    have e43 : a.eval (.tmp 43) = .agg (bv h.src).toArray := (he 16 43 (by kernel_rfl) rfl).trans (hR 16 (by kernel_rfl))
    refine wp_enter (f := 51) (args := #[.agg (bv h.src).toArray]) (by simp only [execOp, e43]; go_simp; simpa [Act.eval] using e43) ((text_any h.src W HF.out.ok.src).mono ?_)
    rintro e w' ⟨rfl, hb⟩
    exact ⟨_, rfl, hK _ _ rfl (below_grow hb _)⟩
  · intro a vs W hX hR he hf K hK
    rw [if_pos (wanted_none rfl)]
    have e41 : a.eval (.tmp 41) = str (toBe 4 Nv.toNat ++ toBe 2 l.length ++ [ub h.next, ub h.ttl]) := (he 14 41 (by kernel_rfl) rfl).trans (hR 14 (by kernel_rfl))
    have e44 : a.eval (.tmp 44) = str h.src := (he 17 44 (by kernel_rfl) rfl).trans (hR 17 (by kernel_rfl))
    refine wp_value (v := _) ?_ (hK _ _ rfl (grown_refl W _))
    simp only [execOp, e41, e44]
    go_simp
    simp [ba_append]
    try (simp [toBe_length, HS.out, HD.out] <;> omega)
  · intro a vs W hX hR he hf K hK
    rw [if_pos (wanted_none rfl)]
    have e2 : a.eval (.tmp 2) = .pointer (some ⟨w.heap.size, 0, none⟩) := hf 2 (by kernel_rfl)
    refine wp_value (v := .pointer (some ⟨w.heap.size, 21, none⟩)) ?_ (hK _ _ rfl (grown_refl W _))
    simp only [execOp, e2]
    try go_simp
    try (first | rfl | omega | (simp only [IntKind.wrap_i64, IntKind.wrap_u8, IntKind.wrap_u64, IntKind.wrap_u16, IntKind.wrap_u32]; omega) | (rw [Int.tmod_eq_emod_of_nonneg (by omega)]) | (rw [Int.tmod_eq_emod_of_nonneg (by omega)]; omega))
  · intro a vs W hX hR he hf K hK
    rw [if_pos (wanted_none rfl)]
    have e46 : a.eval (.tmp 46) = .pointer (some ⟨w.heap.size, 21, none⟩) := (he 19 46 (by kernel_rfl) rfl).trans (hR 19 (by kernel_rfl))
    have hbW := HB.out.on (bthen (below_drew _) (grow_below hX))
    have hr := hbW.range 21 16
    rw [h.drop_dst HF.out.ok] at hr
    exact wp_value (exec_load_mid 33 _ rfl w.heap.size 21 e46 _ _ hr Try.underlying33 rfl (size24 _ HF.out.ok.dst)) (hK _ _ rfl (grown_refl W _))
  · intro a vs W hX hR he hf K hK
    rw [if_pos (wanted_none rfl)]
    have e47 : a.eval (.tmp 47) = .agg (bv h.dst).toArray := (he 20 47 (by kernel_rfl) rfl).trans (hR 20 (by kernel_rfl))
    refine wp_enter (f := 51) (args := #[.agg (bv h.dst).toArray]) (by simp only [execOp, e47]; go_simp; simpa [Act.eval] using e47) ((text_any h.dst W HF.out.ok.dst).mono ?_)
    rintro e w' ⟨rfl, hb⟩
    exact ⟨_, rfl, hK _ _ rfl (below_grow hb _)⟩
  · intro a vs W hX hR he hf K hK
    rw [if_pos (wanted_none rfl)]
    have e45 : a.eval (.tmp 45) = str (toBe 4 Nv.toNat ++ toBe 2 l.length ++ [ub h.next, ub h.ttl] ++ h.src) := (he 18 45 (by kernel_rfl) rfl).trans (hR 18 (by kernel_rfl))
    have e48 : a.eval (.tmp 48) = str h.dst := (he 21 48 (by kernel_rfl) rfl).trans (hR 21 (by kernel_rfl))
    refine wp_value (v := _) ?_ (hK _ _ rfl (grown_refl W _))
    simp only [execOp, e45, e48]
    go_simp
    simp [ba_append]
    try (simp [toBe_length, HS.out, HD.out] <;> omega)
  · intro a vs W hX hR he hf K hK
    rw [if_pos (wanted_none rfl)]
    have e1 : a.eval (.tmp 1) = str l := hf 1 (by kernel_rfl)
    refine wp_value (v := str l) ?_ (hK _ _ rfl (grown_refl W _))
    simp only [execOp, e1]
    try go_simp
    try (first | rfl | omega | (simp only [IntKind.wrap_i64, IntKind.wrap_u8, IntKind.wrap_u64, IntKind.wrap_u16, IntKind.wrap_u32]; omega) | (rw [Int.tmod_eq_emod_of_nonneg (by omega)]) | (rw [Int.tmod_eq_emod_of_nonneg (by omega)]; omega))
  · intro a vs W hX hR he hf K hK
    rw [if_pos (wanted_none rfl)]
    have e49 : a.eval (.tmp 49) = str (toBe 4 Nv.toNat ++ toBe 2 l.length ++ [ub h.next, ub h.ttl] ++ h.src ++ h.dst) := (he 22 49 (by kernel_rfl) rfl).trans (hR 22 (by kernel_rfl))
    have e50 : a.eval (.tmp 50) = str l := (he 23 50 (by kernel_rfl) rfl).trans (hR 23 (by kernel_rfl))
    refine wp_value (v := _) ?_ (hK _ _ rfl (grown_refl W _))
    simp only [execOp, e49, e50]
    go_simp
    simp [ba_append]
    try (simp [toBe_length, HS.out, HD.out] <;> omega)
  · intro a vs W hX hR he hf K hK
    rw [if_pos (wanted_none rfl)]
    have e51 : a.eval (.tmp 51) = str (toBe 4 Nv.toNat ++ toBe 2 l.length ++ [ub h.next, ub h.ttl] ++ h.src ++ h.dst ++ l) := (he 24 51 (by kernel_rfl) rfl).trans (hR 24 (by kernel_rfl))
    refine wp_value (v := _) ?_ (hK _ _ rfl (grown_refl W _))
    simp only [execOp, e51]
    try go_simp
  · intro a vs W hX hR he hf K hK
    rw [if_pos (wanted_none rfl)]
    refine wp_value (v := .int .i64 0) ?_ (hK _ _ rfl (grown_refl W _))
    simp only [execOp]
    try go_simp
    try (first | rfl | omega | (simp only [IntKind.wrap_i64, IntKind.wrap_u8, IntKind.wrap_u64, IntKind.wrap_u16, IntKind.wrap_u32]; omega) | (rw [Int.tmod_eq_emod_of_nonneg (by omega)]) | (rw [Int.tmod_eq_emod_of_nonneg (by omega)]; omega))
  · intro vs W hX hR
    have q0 := hR 0 (by decide)
    have q1 := hR 1 (by decide)
    have q2 := hR 2 (by decide)
    have q3 := hR 3 (by decide)
    have q4 := hR 4 (by decide)
    have q5 := hR 5 (by decide)
    have q6 := hR 6 (by decide)
    have q7 := hR 7 (by decide)
    have q8 := hR 8 (by decide)
    have q9 := hR 9 (by decide)
    have q10 := hR 10 (by decide)
    have q11 := hR 11 (by decide)
    have q12 := hR 12 (by decide)
    have q13 := hR 13 (by decide)
    have q14 := hR 14 (by decide)
    have q15 := hR 15 (by decide)
    have q16 := hR 16 (by decide)
    have q17 := hR 17 (by decide)
    have q18 := hR 18 (by decide)
    have q19 := hR 19 (by decide)
    have q20 := hR 20 (by decide)
    have q21 := hR 21 (by decide)
    have q22 := hR 22 (by decide)
    have q23 := hR 23 (by decide)
    have q24 := hR 24 (by decide)
    have q25 := hR 25 (by decide)
    have q26 := hR 26 (by decide)
    change vs 0 = .int .i64 Nv at q0
    change vs 1 = .int .u64 Nv at q1
    change vs 2 = str (toBe 4 Nv.toNat) at q2
    change vs 3 = str l at q3
    change vs 4 = .int .i64 (l.length : Int) at q4
    change vs 5 = .int .u64 (l.length : Int) at q5
    change vs 6 = str (toBe 2 l.length) at q6
    change vs 7 = str (toBe 4 Nv.toNat ++ toBe 2 l.length) at q7
    change vs 8 = .pointer (some ⟨w.heap.size, 3, none⟩) at q8
    change vs 9 = .int .u8 h.next at q9
    change vs 10 = .pointer (some ⟨w.heap.size, 4, none⟩) at q10
    change vs 11 = .int .u8 h.ttl at q11
    change (BsR [ub h.next, ub h.ttl]) (vs 12) W at q12
    change vs 13 = str [ub h.next, ub h.ttl] at q13
    change vs 14 = str (toBe 4 Nv.toNat ++ toBe 2 l.length ++ [ub h.next, ub h.ttl]) at q14
    change vs 15 = .pointer (some ⟨w.heap.size, 5, none⟩) at q15
    change vs 16 = .agg (bv h.src).toArray at q16
    change vs 17 = str h.src at q17
    change vs 18 = str (toBe 4 Nv.toNat ++ toBe 2 l.length ++ [ub h.next, ub h.ttl] ++ h.src) at q18
    change vs 19 = .pointer (some ⟨w.heap.size, 21, none⟩) at q19
    change vs 20 = .agg (bv h.dst).toArray at q20
    change vs 21 = str h.dst at q21
    change vs 22 = str (toBe 4 Nv.toNat ++ toBe 2 l.length ++ [ub h.next, ub h.ttl] ++ h.src ++ h.dst) at q22
    change vs 23 = str l at q23
    change vs 24 = str (toBe 4 Nv.toNat ++ toBe 2 l.length ++ [ub h.next, ub h.ttl] ++ h.src ++ h.dst ++ l) at q24
    change vs 25 = str (toBe 4 Nv.toNat ++ toBe 2 l.length ++ [ub h.next, ub h.ttl] ++ h.src ++ h.dst ++ l) at q25
    change vs 26 = .int .i64 0 at q26
    simp only [putAll, Act.put, List.setIfInBounds_toArray, List.set_cons_zero, List.set_cons_succ, q0, q1, q2, q3, q4, q5, q6, q7, q8, q9, q10, q11, q13, q14, q15, q16, q17, q18, q19, q20, q21, q22, q23, q24, q25, q26]
    clear q0 q1 q2 q3 q4 q5 q6 q7 q8 q9 q10 q11 q13 q14 q15 q16 q17 q18 q19 q20 q21 q22 q23 q24 q25 q26
    clear hR
    go_wp2
    go_ret2
    refine ⟨?_, bthen hB1 (bthen (below_drew _) (grow_below hX))⟩
    unfold front6
    rw [← HN.out]
    rfl

theorem rput6_any (h : H6) (hf : h.fit) (l : List UInt8) (w : World) (hn : l.length ≤ 1099511627776) :
    Calls Try.prog 17 #[.agg h.cells.toArray, str l] w fun e w' => e = .returned (.tuple #[str (put6 h l).1, .int .i64 (put6 h l).2]) ∧ Below w.heap.size w w' := by
  unfold put6
  by_cases hx : h.flow < 0 ∨ 1048576 ≤ h.flow
  · rw [if_pos hx]
    exact rput6_arg h hf l w hx
  · rw [if_neg hx]
    by_cases hl : 65495 < l.length
    · rw [if_pos hl]
      exact rput6_len h hf l w hn (by omega) (by omega) hl
    · rw [if_neg hl]
      exact rput6_ok h hf l w (by omega) (by omega) (by omega)
end Go.Proofs.Ytimkgkokidhhpaa

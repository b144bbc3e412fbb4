/- Texts of this claim put together, in build order: each one's own remark stands ahead of it. -/
import Derived.Test.YtckbleiikldloaaDoorG11
import Derived.Test.YtckbleiikldloaaDoorG03
/- What the program's reading of bytes as a header of IPv4 computes. No condition but sizes. -/
namespace Go.Proofs.YtckbleiikldloaaDoor
open Go.RowKit
set_option linter.unusedVariables false
set_option maxRecDepth 20000
set_option linter.unusedSimpArgs false

theorem run_build4z (w : World) : (Instr.build 56 #[]).run Tryd.prog w = .ok (.agg H4.zero.cells.toArray) w := by kernel_rfl
theorem exec_build4z {w : World} {o : Oper} {a : Act} (ho : o.op = .build 56 #[]) :
    (execOp a.eval o).run Tryd.prog w = .ok (.value (.agg H4.zero.cells.toArray)) w := by
  unfold execOp
  simp only [ho, List.map_toArray, List.map_nil, Sem.run_bind, run_build4z, Result.andThen_ok]
  rfl
theorem run_build4p (x0 x1 x2 x5 x6 x7 : Int) (x3 x4 : Bool) (s : ByteArray) (w : World) :
    (Instr.build 56 #[(0, .int .u8 x0), (1, .int .i64 x1), (2, .int .u16 x2), (3, .bool x3), (4, .bool x4), (5, .int .i64 x5), (6, .int .u8 x6), (7, .int .u8 x7), (10, .string s)]).run Tryd.prog w = .ok (.agg (.int .u8 x0 :: .int .i64 x1 :: .int .u16 x2 :: .bool x3 :: .bool x4 :: .int .i64 x5 :: .int .u8 x6 :: .int .u8 x7 :: (bv z4 ++ (bv z4 ++ [.string s]))).toArray) w := by kernel_rfl
theorem exec_build4p {w : World} {o : Oper} {a : Act} (x0 x1 x2 x3 x4 x5 x6 x7 x10 : Operand) (ho : o.op = .build 56 #[(0, x0), (1, x1), (2, x2), (3, x3), (4, x4), (5, x5), (6, x6), (7, x7), (10, x10)]) (y0 y1 y2 y5 y6 y7 : Int) (y3 y4 : Bool) (s : List UInt8)
    (h0 : a.eval x0 = .int .u8 y0) (h1 : a.eval x1 = .int .i64 y1) (h2 : a.eval x2 = .int .u16 y2) (h3 : a.eval x3 = .bool y3) (h4 : a.eval x4 = .bool y4) (h5 : a.eval x5 = .int .i64 y5) (h6 : a.eval x6 = .int .u8 y6) (h7 : a.eval x7 = .int .u8 y7) (h10 : a.eval x10 = str s) :
    (execOp a.eval o).run Tryd.prog w = .ok (.value (.agg (H4.cells ⟨y0, y1, y2, y3, y4, y5, y6, y7, z4, z4, s⟩).toArray)) w := by
  unfold execOp
  simp only [ho, List.map_toArray, List.map_cons, List.map_nil, h0, h1, h2, h3, h4, h5, h6, h7, h10, Sem.run_bind, run_build4p, Result.andThen_ok]
  rfl

set_option maxHeartbeats 4000000 in
theorem parse4_short (A : Option Addr) (n c : Nat) (w : World) (hn : n < 20) :
    Calls Tryd.prog 36 #[.slice A n c] w fun e w' => e = .returned (.tuple #[.agg H4.zero.cells.toArray, .int .i64 10]) ∧ Below w.heap.size w w' := by
  go_enter Tryd.func36, Tryd.ntmps36
  go_wp2_with (first
    | (refine wpList_alloc_blk rfl 56 rfl H4.zero.cells zero4 ?_; intro w1 hb1 hB1 hs1)
    | (refine wpList_value rfl (exec_build4z rfl) ?_)
    | (refine wpList_store_all rfl 56 _ _ rfl w.heap.size H4.zero.cells rfl rfl 56 _ hb1 (size4 _ H4.zero_ok) rfl H4.zero.one ?_; intro w2 hb2 hg2 hs2))
  refine bodyPost_ret (results_cell2 rfl _ _ w.heap.size _ _ _ rfl hb2 Tryd.underlying56 rfl (size4 _ H4.zero_ok)) rfl ?_
  exact ⟨rfl, bgrown hB1 hg2 (by omega) (by omega)⟩

set_option maxHeartbeats 4000000 in
theorem parse4_ver (A : Option Addr) (n c : Nat) (l : List UInt8) (w : World) (h : Row w w.heap.size 1 A n (bv l)) (hc : n ≤ c) (hcm : c ≤ maxLen) (hn : n ≤ 1099511627776) (h20 : 20 ≤ n) (u0 : UInt8) (hu0 : l[0]? = some u0) (S L : Nat) (hS : u0.toNat % 16 * 4 = S) (hL : numF l 2 2 = L) (hv : u0.toNat / 16 ≠ 4) :
    Calls Tryd.prog 36 #[.slice A n c] w fun e w' => e = .returned (.tuple #[.agg H4.zero.cells.toArray, .int .i64 12]) ∧ Below w.heap.size w w' := by
  obtain ⟨b, o, rfl, hbB, hcell⟩ := h.2 (by omega)
  have hub := u0.toNat_lt
  have hll : l.length = n := by have := h.1; rw [bv_length] at this; omega
  have hLb : L < 256 ^ 2 := by rw [← hL]; exact numF_bd _ _ _
  have hSb : S ≤ 60 := by omega
  have HC : Hid (∀ W : World, Below w.heap.size w W → ∀ j u, l[j]? = some u → W.cell? ⟨b, o + j, none⟩ = some (.int .u8 (u.toNat : Int))) :=
    Lib.hid fun W hW j u hu => (hW.cell (p := ⟨b, o + j, none⟩) hbB).trans (hcell j _ (bv_get l j u hu))
  have HH := Lib.hid h
  have HU0 := Lib.hid hu0
  have HS := Lib.hid hS
  have HL := Lib.hid hL
  have HLL := Lib.hid hll
  have HLOW := Lib.hid (low4 u0.toNat hub)
  have hv1 : ((u0.toNat : Int) / 16 != 4) = true := by rw [bne_iff_ne]; omega
  clear h hcell hu0 hS hL hll
  go_enter Tryd.func36, Tryd.ntmps36
  go_wp2_with (refine wpList_alloc_blk rfl 56 rfl H4.zero.cells zero4 ?_; intro w1 hb1 hB1 hs1)
  refine wp_region_rel (fun A B => A.grownBy B none) (fun A => grown_refl A _) (fun A B C h k => grown_trans h k) (relAt (List.cons (fun v _ => v = .slice (some ⟨b, o, none⟩) n c) (List.cons (fun v _ => v = .pointer (some ⟨b, o, none⟩)) (List.cons (fun v _ => v = .int .u8 (u0.toNat : Int)) (List.cons (fun v _ => v = .int .u8 ((u0.toNat % 16 : Nat) : Int)) (List.cons (fun v _ => v = .int .i64 ((u0.toNat % 16 : Nat) : Int)) (List.cons (fun v _ => v = .int .i64 (S : Int)) (List.cons (fun v _ => v = .slice (some ⟨b, o, none⟩) n c) (List.cons (fun v _ => v = .int .i64 (L : Int)) (List.cons (fun v _ => v = .int .i64 (S : Int)) (List.cons (fun v _ => v = .int .i64 (L : Int)) ([])))))))))))) (MonoL.at_ (.cons (mono_val _) (.cons (mono_val _) (.cons (mono_val _) (.cons (mono_val _) (.cons (mono_val _) (.cons (mono_val _) (.cons (mono_val _) (.cons (mono_val _) (.cons (mono_val _) (.cons (mono_val _) .nil))))))))))) (by kernel_rfl) (by kernel_rfl) ⟨?_, ?_, ?_, ?_, ?_, ?_, ?_, ?_, ?_, ?_, trivial⟩ ?_
  · intro a vs W hX hR he hf K hK
    rw [if_pos (wanted_none rfl)]
    have e0 : a.eval (.tmp 0) = .slice (some ⟨b, o, none⟩) n c := hf 0 (by kernel_rfl)
    refine wp_value (v := .slice (some ⟨b, o, none⟩) n c) ?_ (hK _ _ rfl (grown_refl W _))
    simp only [execOp, e0]
    try go_simp
    try (first | rfl | omega | (simp only [IntKind.wrap_i64, IntKind.wrap_u8, IntKind.wrap_u64, IntKind.wrap_u16, IntKind.wrap_u32]; omega) | (rw [Int.tmod_eq_emod_of_nonneg (by omega)]) | (rw [Int.tmod_eq_emod_of_nonneg (by omega)]; omega))
  · intro a vs W hX hR he hf K hK
    rw [if_pos (wanted_none rfl)]
    have e12 : a.eval (.tmp 12) = .slice (some ⟨b, o, none⟩) n c := (he 0 12 (by kernel_rfl) rfl).trans (hR 0 (by kernel_rfl))
    refine wp_value (v := .pointer (some ⟨b, o, none⟩)) ?_ (hK _ _ rfl (grown_refl W _))
    simp only [execOp, e12]
    try go_simp
    try (first | rfl | omega | (simp only [IntKind.wrap_i64, IntKind.wrap_u8, IntKind.wrap_u64, IntKind.wrap_u16, IntKind.wrap_u32]; omega) | (rw [Int.tmod_eq_emod_of_nonneg (by omega)]) | (rw [Int.tmod_eq_emod_of_nonneg (by omega)]; omega))
  · intro a vs W hX hR he hf K hK
    rw [if_pos (wanted_none rfl)]
    have e13 : a.eval (.tmp 13) = .pointer (some ⟨b, o, none⟩) := (he 1 13 (by kernel_rfl) rfl).trans (hR 1 (by kernel_rfl))
    have hbW := bthen hB1 (bthen (below_drew _) (grow_below hX))
    have hc : W.cell? ⟨b, o, none⟩ = some (.int .u8 (u0.toNat : Int)) := HC.out W hbW 0 u0 HU0.out
    refine wp_value (v := _) ?_ (hK _ _ rfl (grown_refl W _))
    simp only [execOp, e13]
    try go_simp
  · intro a vs W hX hR he hf K hK
    rw [if_pos (wanted_none rfl)]
    have e14 : a.eval (.tmp 14) = .int .u8 (u0.toNat : Int) := (he 2 14 (by kernel_rfl) rfl).trans (hR 2 (by kernel_rfl))
    refine wp_value (v := _) ?_ (hK _ _ rfl (grown_refl W _))
    simp only [execOp, e14]
    have hx := HLOW.out
    go_simp
    try omega
  · intro a vs W hX hR he hf K hK
    rw [if_pos (wanted_none rfl)]
    have e15 : a.eval (.tmp 15) = .int .u8 ((u0.toNat % 16 : Nat) : Int) := (he 3 15 (by kernel_rfl) rfl).trans (hR 3 (by kernel_rfl))
    refine wp_value (v := .int .i64 ((u0.toNat % 16 : Nat) : Int)) ?_ (hK _ _ rfl (grown_refl W _))
    simp only [execOp, e15]
    try go_simp
    try (first | rfl | omega | (simp only [IntKind.wrap_i64, IntKind.wrap_u8, IntKind.wrap_u64, IntKind.wrap_u16, IntKind.wrap_u32]; omega) | (rw [Int.tmod_eq_emod_of_nonneg (by omega)]) | (rw [Int.tmod_eq_emod_of_nonneg (by omega)]; omega))
  · intro a vs W hX hR he hf K hK
    rw [if_pos (wanted_none rfl)]
    have e16 : a.eval (.tmp 16) = .int .i64 ((u0.toNat % 16 : Nat) : Int) := (he 4 16 (by kernel_rfl) rfl).trans (hR 4 (by kernel_rfl))
    refine wp_value (v := _) ?_ (hK _ _ rfl (grown_refl W _))
    simp only [execOp, e16]
    have hx := HS.out
    go_simp
    rw [IntKind.wrap_i64]
    omega
  · intro a vs W hX hR he hf K hK
    rw [if_pos (wanted_none rfl)]
    have e0 : a.eval (.tmp 0) = .slice (some ⟨b, o, none⟩) n c := hf 0 (by kernel_rfl)
    refine wp_value (v := .slice (some ⟨b, o, none⟩) n c) ?_ (hK _ _ rfl (grown_refl W _))
    simp only [execOp, e0]
    try go_simp
    try (first | rfl | omega | (simp only [IntKind.wrap_i64, IntKind.wrap_u8, IntKind.wrap_u64, IntKind.wrap_u16, IntKind.wrap_u32]; omega) | (rw [Int.tmod_eq_emod_of_nonneg (by omega)]) | (rw [Int.tmod_eq_emod_of_nonneg (by omega)]; omega))
  · intro a vs W hX hR he hf K hK
    rw [if_pos (wanted_none rfl)]
    have e18 : a.eval (.tmp 18) = .slice (some ⟨b, o, none⟩) n c := (he 6 18 (by kernel_rfl) rfl).trans (hR 6 (by kernel_rfl))
    have hbW := bthen hB1 (bthen (below_drew _) (grow_below hX))
    refine wp_enter (f := 64) (args := #[.slice (some ⟨b, o, none⟩) n c, .int .i64 2]) (by simp only [execOp, e18]; go_simp; simpa [Act.eval] using e18) ((num4_any 2 _ n c l W ((HH.out.below hbW).more hbW.size) hc hcm hn (by omega)).mono ?_)
    rintro e w' ⟨rfl, hb⟩
    rw [HL.out]
    exact ⟨_, rfl, hK _ _ rfl (below_grow hb _)⟩
  · intro a vs W hX hR he hf K hK
    rw [if_pos (wanted_none rfl)]
    have e17 : a.eval (.tmp 17) = .int .i64 (S : Int) := (he 5 17 (by kernel_rfl) rfl).trans (hR 5 (by kernel_rfl))
    refine wp_value (v := .int .i64 (S : Int)) ?_ (hK _ _ rfl (grown_refl W _))
    simp only [execOp, e17]
    try go_simp
    try (first | rfl | omega | (simp only [IntKind.wrap_i64, IntKind.wrap_u8, IntKind.wrap_u64, IntKind.wrap_u16, IntKind.wrap_u32]; omega) | (rw [Int.tmod_eq_emod_of_nonneg (by omega)]) | (rw [Int.tmod_eq_emod_of_nonneg (by omega)]; omega))
  · intro a vs W hX hR he hf K hK
    rw [if_pos (wanted_none rfl)]
    have e19 : a.eval (.tmp 19) = .int .i64 (L : Int) := (he 7 19 (by kernel_rfl) rfl).trans (hR 7 (by kernel_rfl))
    refine wp_value (v := .int .i64 (L : Int)) ?_ (hK _ _ rfl (grown_refl W _))
    simp only [execOp, e19]
    try go_simp
    try (first | rfl | omega | (simp only [IntKind.wrap_i64, IntKind.wrap_u8, IntKind.wrap_u64, IntKind.wrap_u16, IntKind.wrap_u32]; omega) | (rw [Int.tmod_eq_emod_of_nonneg (by omega)]) | (rw [Int.tmod_eq_emod_of_nonneg (by omega)]; omega))
  · intro vs w3 hX3 hR
    have q0 := hR 0 (by decide)
    have q1 := hR 1 (by decide)
    have q2 := hR 2 (by decide)
    have q3 := hR 3 (by decide)
    have q4 := hR 4 (by decide)
    have q5 := hR 5 (by decide)
    have q6 := hR 6 (by decide)
    have q7 := hR 7 (by decide)
    have q8 := hR 8 (by decide)
    have q9 := hR 9 (by decide)
    change vs 0 = .slice (some ⟨b, o, none⟩) n c at q0
    change vs 1 = .pointer (some ⟨b, o, none⟩) at q1
    change vs 2 = .int .u8 (u0.toNat : Int) at q2
    change vs 3 = .int .u8 ((u0.toNat % 16 : Nat) : Int) at q3
    change vs 4 = .int .i64 ((u0.toNat % 16 : Nat) : Int) at q4
    change vs 5 = .int .i64 (S : Int) at q5
    change vs 6 = .slice (some ⟨b, o, none⟩) n c at q6
    change vs 7 = .int .i64 (L : Int) at q7
    change vs 8 = .int .i64 (S : Int) at q8
    change vs 9 = .int .i64 (L : Int) at q9
    simp only [putAll, Act.put, List.setIfInBounds_toArray, List.set_cons_zero, List.set_cons_succ, q0, q1, q2, q3, q4, q5, q6, q7, q8, q9]
    clear q0 q1 q2 q3 q4 q5 q6 q7 q8 q9
    clear hR
    have hB3 := bthen hB1 (bthen (below_drew _) (grow_below hX3))
    have hb3 := (hb1.on (below_drew _)).on (grow_below hX3)
    have hc3 : w3.cell? ⟨b, o, none⟩ = some (.int .u8 (u0.toNat : Int)) := HC.out w3 hB3 0 u0 HU0.out
    clear hX3 hs1 hb1 hB1
    go_wp2_with (first
      | (refine wpList_value rfl (exec_build4z rfl) ?_)
      | (refine wpList_store_all rfl 56 _ _ rfl w.heap.size H4.zero.cells rfl rfl 56 _ hb3 (size4 _ H4.zero_ok) rfl H4.zero.one ?_; intro w4 hbw4 hgw4 hsw4))
    refine bodyPost_ret (results_cell2 rfl _ _ w.heap.size _ _ _ rfl hbw4 Tryd.underlying56 rfl (size4 _ H4.zero_ok)) rfl ?_
    exact ⟨rfl, bgrown hB3 hgw4 (by have := hB3.size; omega) (by omega)⟩

set_option maxHeartbeats 4000000 in
theorem parse4_len (A : Option Addr) (n c : Nat) (l : List UInt8) (w : World) (h : Row w w.heap.size 1 A n (bv l)) (hc : n ≤ c) (hcm : c ≤ maxLen) (hn : n ≤ 1099511627776) (h20 : 20 ≤ n) (u0 : UInt8) (hu0 : l[0]? = some u0) (S L : Nat) (hS : u0.toNat % 16 * 4 = S) (hL : numF l 2 2 = L) (hv : u0.toNat / 16 = 4) (hx : S < 20 ∨ L < S ∨ n < L) :
    Calls Tryd.prog 36 #[.slice A n c] w fun e w' => e = .returned (.tuple #[.agg H4.zero.cells.toArray, .int .i64 13]) ∧ Below w.heap.size w w' := by
  have hcase : ((S : Int) < 20) ∨ (¬ ((S : Int) < 20) ∧ (L : Int) < S) ∨ (¬ ((S : Int) < 20) ∧ ¬ ((L : Int) < S) ∧ (n : Int) < L) := by omega
  obtain ⟨b, o, rfl, hbB, hcell⟩ := h.2 (by omega)
  have hub := u0.toNat_lt
  have hll : l.length = n := by have := h.1; rw [bv_length] at this; omega
  have hLb : L < 256 ^ 2 := by rw [← hL]; exact numF_bd _ _ _
  have hSb : S ≤ 60 := by omega
  have HC : Hid (∀ W : World, Below w.heap.size w W → ∀ j u, l[j]? = some u → W.cell? ⟨b, o + j, none⟩ = some (.int .u8 (u.toNat : Int))) :=
    Lib.hid fun W hW j u hu => (hW.cell (p := ⟨b, o + j, none⟩) hbB).trans (hcell j _ (bv_get l j u hu))
  have HH := Lib.hid h
  have HU0 := Lib.hid hu0
  have HS := Lib.hid hS
  have HL := Lib.hid hL
  have HLL := Lib.hid hll
  have HLOW := Lib.hid (low4 u0.toNat hub)
  have hv1 : ((u0.toNat : Int) / 16 != 4) = false := by rw [bne_eq_false_iff_eq]; omega
  have HV := Lib.hid hv
  clear hv hx
  clear h hcell hu0 hS hL hll
  go_enter Tryd.func36, Tryd.ntmps36
  go_wp2_with (refine wpList_alloc_blk rfl 56 rfl H4.zero.cells zero4 ?_; intro w1 hb1 hB1 hs1)
  refine wp_region_rel (fun A B => A.grownBy B none) (fun A => grown_refl A _) (fun A B C h k => grown_trans h k) (relAt (List.cons (fun v _ => v = .slice (some ⟨b, o, none⟩) n c) (List.cons (fun v _ => v = .pointer (some ⟨b, o, none⟩)) (List.cons (fun v _ => v = .int .u8 (u0.toNat : Int)) (List.cons (fun v _ => v = .int .u8 ((u0.toNat % 16 : Nat) : Int)) (List.cons (fun v _ => v = .int .i64 ((u0.toNat % 16 : Nat) : Int)) (List.cons (fun v _ => v = .int .i64 (S : Int)) (List.cons (fun v _ => v = .slice (some ⟨b, o, none⟩) n c) (List.cons (fun v _ => v = .int .i64 (L : Int)) (List.cons (fun v _ => v = .int .i64 (S : Int)) (List.cons (fun v _ => v = .int .i64 (L : Int)) ([])))))))))))) (MonoL.at_ (.cons (mono_val _) (.cons (mono_val _) (.cons (mono_val _) (.cons (mono_val _) (.cons (mono_val _) (.cons (mono_val _) (.cons (mono_val _) (.cons (mono_val _) (.cons (mono_val _) (.cons (mono_val _) .nil))))))))))) (by kernel_rfl) (by kernel_rfl) ⟨?_, ?_, ?_, ?_, ?_, ?_, ?_, ?_, ?_, ?_, trivial⟩ ?_
  · intro a vs W hX hR he hf K hK
    rw [if_pos (wanted_none rfl)]
    have e0 : a.eval (.tmp 0) = .slice (some ⟨b, o, none⟩) n c := hf 0 (by kernel_rfl)
    refine wp_value (v := .slice (some ⟨b, o, none⟩) n c) ?_ (hK _ _ rfl (grown_refl W _))
    simp only [execOp, e0]
    try go_simp
    try (first | rfl | omega | (simp only [IntKind.wrap_i64, IntKind.wrap_u8, IntKind.wrap_u64, IntKind.wrap_u16, IntKind.wrap_u32]; omega) | (rw [Int.tmod_eq_emod_of_nonneg (by omega)]) | (rw [Int.tmod_eq_emod_of_nonneg (by omega)]; omega))
  · intro a vs W hX hR he hf K hK
    rw [if_pos (wanted_none rfl)]
    have e12 : a.eval (.tmp 12) = .slice (some ⟨b, o, none⟩) n c := (he 0 12 (by kernel_rfl) rfl).trans (hR 0 (by kernel_rfl))
    refine wp_value (v := .pointer (some ⟨b, o, none⟩)) ?_ (hK _ _ rfl (grown_refl W _))
    simp only [execOp, e12]
    try go_simp
    try (first | rfl | omega | (simp only [IntKind.wrap_i64, IntKind.wrap_u8, IntKind.wrap_u64, IntKind.wrap_u16, IntKind.wrap_u32]; omega) | (rw [Int.tmod_eq_emod_of_nonneg (by omega)]) | (rw [Int.tmod_eq_emod_of_nonneg (by omega)]; omega))
  · intro a vs W hX hR he hf K hK
    rw [if_pos (wanted_none rfl)]
    have e13 : a.eval (.tmp 13) = .pointer (some ⟨b, o, none⟩) := (he 1 13 (by kernel_rfl) rfl).trans (hR 1 (by kernel_rfl))
    have hbW := bthen hB1 (bthen (below_drew _) (grow_below hX))
    have hc : W.cell? ⟨b, o, none⟩ = some (.int .u8 (u0.toNat : Int)) := HC.out W hbW 0 u0 HU0.out
    refine wp_value (v := _) ?_ (hK _ _ rfl (grown_refl W _))
    simp only [execOp, e13]
    try go_simp
  · intro a vs W hX hR he hf K hK
    rw [if_pos (wanted_none rfl)]
    have e14 : a.eval (.tmp 14) = .int .u8 (u0.toNat : Int) := (he 2 14 (by kernel_rfl) rfl).trans (hR 2 (by kernel_rfl))
    refine wp_value (v := _) ?_ (hK _ _ rfl (grown_refl W _))
    simp only [execOp, e14]
    have hx := HLOW.out
    go_simp
    try omega
  · intro a vs W hX hR he hf K hK
    rw [if_pos (wanted_none rfl)]
    have e15 : a.eval (.tmp 15) = .int .u8 ((u0.toNat % 16 : Nat) : Int) := (he 3 15 (by kernel_rfl) rfl).trans (hR 3 (by kernel_rfl))
    refine wp_value (v := .int .i64 ((u0.toNat % 16 : Nat) : Int)) ?_ (hK _ _ rfl (grown_refl W _))
    simp only [execOp, e15]
    try go_simp
    try (first | rfl | omega | (simp only [IntKind.wrap_i64, IntKind.wrap_u8, IntKind.wrap_u64, IntKind.wrap_u16, IntKind.wrap_u32]; omega) | (rw [Int.tmod_eq_emod_of_nonneg (by omega)]) | (rw [Int.tmod_eq_emod_of_nonneg (by omega)]; omega))
  · intro a vs W hX hR he hf K hK
    rw [if_pos (wanted_none rfl)]
    have e16 : a.eval (.tmp 16) = .int .i64 ((u0.toNat % 16 : Nat) : Int) := (he 4 16 (by kernel_rfl) rfl).trans (hR 4 (by kernel_rfl))
    refine wp_value (v := _) ?_ (hK _ _ rfl (grown_refl W _))
    simp only [execOp, e16]
    have hx := HS.out
    go_simp
    rw [IntKind.wrap_i64]
    omega
  · intro a vs W hX hR he hf K hK
    rw [if_pos (wanted_none rfl)]
    have e0 : a.eval (.tmp 0) = .slice (some ⟨b, o, none⟩) n c := hf 0 (by kernel_rfl)
    refine wp_value (v := .slice (some ⟨b, o, none⟩) n c) ?_ (hK _ _ rfl (grown_refl W _))
    simp only [execOp, e0]
    try go_simp
    try (first | rfl | omega | (simp only [IntKind.wrap_i64, IntKind.wrap_u8, IntKind.wrap_u64, IntKind.wrap_u16, IntKind.wrap_u32]; omega) | (rw [Int.tmod_eq_emod_of_nonneg (by omega)]) | (rw [Int.tmod_eq_emod_of_nonneg (by omega)]; omega))
  · intro a vs W hX hR he hf K hK
    rw [if_pos (wanted_none rfl)]
    have e18 : a.eval (.tmp 18) = .slice (some ⟨b, o, none⟩) n c := (he 6 18 (by kernel_rfl) rfl).trans (hR 6 (by kernel_rfl))
    have hbW := bthen hB1 (bthen (below_drew _) (grow_below hX))
    refine wp_enter (f := 64) (args := #[.slice (some ⟨b, o, none⟩) n c, .int .i64 2]) (by simp only [execOp, e18]; go_simp; simpa [Act.eval] using e18) ((num4_any 2 _ n c l W ((HH.out.below hbW).more hbW.size) hc hcm hn (by omega)).mono ?_)
    rintro e w' ⟨rfl, hb⟩
    rw [HL.out]
    exact ⟨_, rfl, hK _ _ rfl (below_grow hb _)⟩
  · intro a vs W hX hR he hf K hK
    rw [if_pos (wanted_none rfl)]
    have e17 : a.eval (.tmp 17) = .int .i64 (S : Int) := (he 5 17 (by kernel_rfl) rfl).trans (hR 5 (by kernel_rfl))
    refine wp_value (v := .int .i64 (S : Int)) ?_ (hK _ _ rfl (grown_refl W _))
    simp only [execOp, e17]
    try go_simp
    try (first | rfl | omega | (simp only [IntKind.wrap_i64, IntKind.wrap_u8, IntKind.wrap_u64, IntKind.wrap_u16, IntKind.wrap_u32]; omega) | (rw [Int.tmod_eq_emod_of_nonneg (by omega)]) | (rw [Int.tmod_eq_emod_of_nonneg (by omega)]; omega))
  · intro a vs W hX hR he hf K hK
    rw [if_pos (wanted_none rfl)]
    have e19 : a.eval (.tmp 19) = .int .i64 (L : Int) := (he 7 19 (by kernel_rfl) rfl).trans (hR 7 (by kernel_rfl))
    refine wp_value (v := .int .i64 (L : Int)) ?_ (hK _ _ rfl (grown_refl W _))
    simp only [execOp, e19]
    try go_simp
    try (first | rfl | omega | (simp only [IntKind.wrap_i64, IntKind.wrap_u8, IntKind.wrap_u64, IntKind.wrap_u16, IntKind.wrap_u32]; omega) | (rw [Int.tmod_eq_emod_of_nonneg (by omega)]) | (rw [Int.tmod_eq_emod_of_nonneg (by omega)]; omega))
  · intro vs w3 hX3 hR
    have q0 := hR 0 (by decide)
    have q1 := hR 1 (by decide)
    have q2 := hR 2 (by decide)
    have q3 := hR 3 (by decide)
    have q4 := hR 4 (by decide)
    have q5 := hR 5 (by decide)
    have q6 := hR 6 (by decide)
    have q7 := hR 7 (by decide)
    have q8 := hR 8 (by decide)
    have q9 := hR 9 (by decide)
    change vs 0 = .slice (some ⟨b, o, none⟩) n c at q0
    change vs 1 = .pointer (some ⟨b, o, none⟩) at q1
    change vs 2 = .int .u8 (u0.toNat : Int) at q2
    change vs 3 = .int .u8 ((u0.toNat % 16 : Nat) : Int) at q3
    change vs 4 = .int .i64 ((u0.toNat % 16 : Nat) : Int) at q4
    change vs 5 = .int .i64 (S : Int) at q5
    change vs 6 = .slice (some ⟨b, o, none⟩) n c at q6
    change vs 7 = .int .i64 (L : Int) at q7
    change vs 8 = .int .i64 (S : Int) at q8
    change vs 9 = .int .i64 (L : Int) at q9
    simp only [putAll, Act.put, List.setIfInBounds_toArray, List.set_cons_zero, List.set_cons_succ, q0, q1, q2, q3, q4, q5, q6, q7, q8, q9]
    clear q0 q1 q2 q3 q4 q5 q6 q7 q8 q9
    clear hR
    have hB3 := bthen hB1 (bthen (below_drew _) (grow_below hX3))
    have hb3 := (hb1.on (below_drew _)).on (grow_below hX3)
    have hc3 : w3.cell? ⟨b, o, none⟩ = some (.int .u8 (u0.toNat : Int)) := HC.out w3 hB3 0 u0 HU0.out
    clear hX3 hs1 hb1 hB1
    rcases hcase with k1 | ⟨k1, k2⟩ | ⟨k1, k2, k3⟩
    all_goals
      go_wp2_with (first
      | (refine wpList_value rfl (exec_build4z rfl) ?_)
      | (refine wpList_store_all rfl 56 _ _ rfl w.heap.size H4.zero.cells rfl rfl 56 _ hb3 (size4 _ H4.zero_ok) rfl H4.zero.one ?_; intro w4 hbw4 hgw4 hsw4))
      refine bodyPost_ret (results_cell2 rfl _ _ w.heap.size _ _ _ rfl hbw4 Tryd.underlying56 rfl (size4 _ H4.zero_ok)) rfl ?_
      exact ⟨rfl, bgrown hB3 hgw4 (by have := hB3.size; omega) (by omega)⟩

set_option maxHeartbeats 4000000 in
theorem parse4_sum (A : Option Addr) (n c : Nat) (l : List UInt8) (w : World) (h : Row w w.heap.size 1 A n (bv l)) (hc : n ≤ c) (hcm : c ≤ maxLen) (hn : n ≤ 1099511627776) (h20 : 20 ≤ n) (u0 : UInt8) (hu0 : l[0]? = some u0) (S L : Nat) (hS : u0.toNat % 16 * 4 = S) (hL : numF l 2 2 = L) (hv : u0.toNat / 16 = 4) (h1 : 20 ≤ S) (h2 : S ≤ L) (h3 : L ≤ n) (h4 : rawN (l.take S) ≠ 65535) :
    Calls Tryd.prog 36 #[.slice A n c] w fun e w' => e = .returned (.tuple #[.agg H4.zero.cells.toArray, .int .i64 14]) ∧ Below w.heap.size w w' := by
  obtain ⟨b, o, rfl, hbB, hcell⟩ := h.2 (by omega)
  have hub := u0.toNat_lt
  have hll : l.length = n := by have := h.1; rw [bv_length] at this; omega
  have hLb : L < 256 ^ 2 := by rw [← hL]; exact numF_bd _ _ _
  have hSb : S ≤ 60 := by omega
  have HC : Hid (∀ W : World, Below w.heap.size w W → ∀ j u, l[j]? = some u → W.cell? ⟨b, o + j, none⟩ = some (.int .u8 (u.toNat : Int))) :=
    Lib.hid fun W hW j u hu => (hW.cell (p := ⟨b, o + j, none⟩) hbB).trans (hcell j _ (bv_get l j u hu))
  have HH := Lib.hid h
  have HU0 := Lib.hid hu0
  have HS := Lib.hid hS
  have HL := Lib.hid hL
  have HLL := Lib.hid hll
  have HLOW := Lib.hid (low4 u0.toNat hub)
  have hv1 : ((u0.toNat : Int) / 16 != 4) = false := by rw [bne_eq_false_iff_eq]; omega
  have k1 : ¬ ((S : Int) < 20) := by omega
  have k2 : ¬ ((L : Int) < S) := by omega
  have k3 : ¬ ((n : Int) < L) := by omega
  have HV := Lib.hid hv
  clear hv
  have H4' := Lib.hid h4
  clear h4
  clear h hcell hu0 hS hL hll
  go_enter Tryd.func36, Tryd.ntmps36
  go_wp2_with (refine wpList_alloc_blk rfl 56 rfl H4.zero.cells zero4 ?_; intro w1 hb1 hB1 hs1)
  refine wp_region_rel (fun A B => A.grownBy B none) (fun A => grown_refl A _) (fun A B C h k => grown_trans h k) (relAt (List.cons (fun v _ => v = .slice (some ⟨b, o, none⟩) n c) (List.cons (fun v _ => v = .pointer (some ⟨b, o, none⟩)) (List.cons (fun v _ => v = .int .u8 (u0.toNat : Int)) (List.cons (fun v _ => v = .int .u8 ((u0.toNat % 16 : Nat) : Int)) (List.cons (fun v _ => v = .int .i64 ((u0.toNat % 16 : Nat) : Int)) (List.cons (fun v _ => v = .int .i64 (S : Int)) (List.cons (fun v _ => v = .slice (some ⟨b, o, none⟩) n c) (List.cons (fun v _ => v = .int .i64 (L : Int)) (List.cons (fun v _ => v = .int .i64 (S : Int)) (List.cons (fun v _ => v = .int .i64 (L : Int)) ([])))))))))))) (MonoL.at_ (.cons (mono_val _) (.cons (mono_val _) (.cons (mono_val _) (.cons (mono_val _) (.cons (mono_val _) (.cons (mono_val _) (.cons (mono_val _) (.cons (mono_val _) (.cons (mono_val _) (.cons (mono_val _) .nil))))))))))) (by kernel_rfl) (by kernel_rfl) ⟨?_, ?_, ?_, ?_, ?_, ?_, ?_, ?_, ?_, ?_, trivial⟩ ?_
  · intro a vs W hX hR he hf K hK
    rw [if_pos (wanted_none rfl)]
    have e0 : a.eval (.tmp 0) = .slice (some ⟨b, o, none⟩) n c := hf 0 (by kernel_rfl)
    refine wp_value (v := .slice (some ⟨b, o, none⟩) n c) ?_ (hK _ _ rfl (grown_refl W _))
    simp only [execOp, e0]
    try go_simp
    try (first | rfl | omega | (simp only [IntKind.wrap_i64, IntKind.wrap_u8, IntKind.wrap_u64, IntKind.wrap_u16, IntKind.wrap_u32]; omega) | (rw [Int.tmod_eq_emod_of_nonneg (by omega)]) | (rw [Int.tmod_eq_emod_of_nonneg (by omega)]; omega))
  · intro a vs W hX hR he hf K hK
    rw [if_pos (wanted_none rfl)]
    have e12 : a.eval (.tmp 12) = .slice (some ⟨b, o, none⟩) n c := (he 0 12 (by kernel_rfl) rfl).trans (hR 0 (by kernel_rfl))
    refine wp_value (v := .pointer (some ⟨b, o, none⟩)) ?_ (hK _ _ rfl (grown_refl W _))
    simp only [execOp, e12]
    try go_simp
    try (first | rfl | omega | (simp only [IntKind.wrap_i64, IntKind.wrap_u8, IntKind.wrap_u64, IntKind.wrap_u16, IntKind.wrap_u32]; omega) | (rw [Int.tmod_eq_emod_of_nonneg (by omega)]) | (rw [Int.tmod_eq_emod_of_nonneg (by omega)]; omega))
  · intro a vs W hX hR he hf K hK
    rw [if_pos (wanted_none rfl)]
    have e13 : a.eval (.tmp 13) = .pointer (some ⟨b, o, none⟩) := (he 1 13 (by kernel_rfl) rfl).trans (hR 1 (by kernel_rfl))
    have hbW := bthen hB1 (bthen (below_drew _) (grow_below hX))
    have hc : W.cell? ⟨b, o, none⟩ = some (.int .u8 (u0.toNat : Int)) := HC.out W hbW 0 u0 HU0.out
    refine wp_value (v := _) ?_ (hK _ _ rfl (grown_refl W _))
    simp only [execOp, e13]
    try go_simp
  · intro a vs W hX hR he hf K hK
    rw [if_pos (wanted_none rfl)]
    have e14 : a.eval (.tmp 14) = .int .u8 (u0.toNat : Int) := (he 2 14 (by kernel_rfl) rfl).trans (hR 2 (by kernel_rfl))
    refine wp_value (v := _) ?_ (hK _ _ rfl (grown_refl W _))
    simp only [execOp, e14]
    have hx := HLOW.out
    go_simp
    try omega
  · intro a vs W hX hR he hf K hK
    rw [if_pos (wanted_none rfl)]
    have e15 : a.eval (.tmp 15) = .int .u8 ((u0.toNat % 16 : Nat) : Int) := (he 3 15 (by kernel_rfl) rfl).trans (hR 3 (by kernel_rfl))
    refine wp_value (v := .int .i64 ((u0.toNat % 16 : Nat) : Int)) ?_ (hK _ _ rfl (grown_refl W _))
    simp only [execOp, e15]
    try go_simp
    try (first | rfl | omega | (simp only [IntKind.wrap_i64, IntKind.wrap_u8, IntKind.wrap_u64, IntKind.wrap_u16, IntKind.wrap_u32]; omega) | (rw [Int.tmod_eq_emod_of_nonneg (by omega)]) | (rw [Int.tmod_eq_emod_of_nonneg (by omega)]; omega))
  · intro a vs W hX hR he hf K hK
    rw [if_pos (wanted_none rfl)]
    have e16 : a.eval (.tmp 16) = .int .i64 ((u0.toNat % 16 : Nat) : Int) := (he 4 16 (by kernel_rfl) rfl).trans (hR 4 (by kernel_rfl))
    refine wp_value (v := _) ?_ (hK _ _ rfl (grown_refl W _))
    simp only [execOp, e16]
    have hx := HS.out
    go_simp
    rw [IntKind.wrap_i64]
    omega
  · intro a vs W hX hR he hf K hK
    rw [if_pos (wanted_none rfl)]
    have e0 : a.eval (.tmp 0) = .slice (some ⟨b, o, none⟩) n c := hf 0 (by kernel_rfl)
    refine wp_value (v := .slice (some ⟨b, o, none⟩) n c) ?_ (hK _ _ rfl (grown_refl W _))
    simp only [execOp, e0]
    try go_simp
    try (first | rfl | omega | (simp only [IntKind.wrap_i64, IntKind.wrap_u8, IntKind.wrap_u64, IntKind.wrap_u16, IntKind.wrap_u32]; omega) | (rw [Int.tmod_eq_emod_of_nonneg (by omega)]) | (rw [Int.tmod_eq_emod_of_nonneg (by omega)]; omega))
  · intro a vs W hX hR he hf K hK
    rw [if_pos (wanted_none rfl)]
    have e18 : a.eval (.tmp 18) = .slice (some ⟨b, o, none⟩) n c := (he 6 18 (by kernel_rfl) rfl).trans (hR 6 (by kernel_rfl))
    have hbW := bthen hB1 (bthen (below_drew _) (grow_below hX))
    refine wp_enter (f := 64) (args := #[.slice (some ⟨b, o, none⟩) n c, .int .i64 2]) (by simp only [execOp, e18]; go_simp; simpa [Act.eval] using e18) ((num4_any 2 _ n c l W ((HH.out.below hbW).more hbW.size) hc hcm hn (by omega)).mono ?_)
    rintro e w' ⟨rfl, hb⟩
    rw [HL.out]
    exact ⟨_, rfl, hK _ _ rfl (below_grow hb _)⟩
  · intro a vs W hX hR he hf K hK
    rw [if_pos (wanted_none rfl)]
    have e17 : a.eval (.tmp 17) = .int .i64 (S : Int) := (he 5 17 (by kernel_rfl) rfl).trans (hR 5 (by kernel_rfl))
    refine wp_value (v := .int .i64 (S : Int)) ?_ (hK _ _ rfl (grown_refl W _))
    simp only [execOp, e17]
    try go_simp
    try (first | rfl | omega | (simp only [IntKind.wrap_i64, IntKind.wrap_u8, IntKind.wrap_u64, IntKind.wrap_u16, IntKind.wrap_u32]; omega) | (rw [Int.tmod_eq_emod_of_nonneg (by omega)]) | (rw [Int.tmod_eq_emod_of_nonneg (by omega)]; omega))
  · intro a vs W hX hR he hf K hK
    rw [if_pos (wanted_none rfl)]
    have e19 : a.eval (.tmp 19) = .int .i64 (L : Int) := (he 7 19 (by kernel_rfl) rfl).trans (hR 7 (by kernel_rfl))
    refine wp_value (v := .int .i64 (L : Int)) ?_ (hK _ _ rfl (grown_refl W _))
    simp only [execOp, e19]
    try go_simp
    try (first | rfl | omega | (simp only [IntKind.wrap_i64, IntKind.wrap_u8, IntKind.wrap_u64, IntKind.wrap_u16, IntKind.wrap_u32]; omega) | (rw [Int.tmod_eq_emod_of_nonneg (by omega)]) | (rw [Int.tmod_eq_emod_of_nonneg (by omega)]; omega))
  · intro vs w3 hX3 hR
    have q0 := hR 0 (by decide)
    have q1 := hR 1 (by decide)
    have q2 := hR 2 (by decide)
    have q3 := hR 3 (by decide)
    have q4 := hR 4 (by decide)
    have q5 := hR 5 (by decide)
    have q6 := hR 6 (by decide)
    have q7 := hR 7 (by decide)
    have q8 := hR 8 (by decide)
    have q9 := hR 9 (by decide)
    change vs 0 = .slice (some ⟨b, o, none⟩) n c at q0
    change vs 1 = .pointer (some ⟨b, o, none⟩) at q1
    change vs 2 = .int .u8 (u0.toNat : Int) at q2
    change vs 3 = .int .u8 ((u0.toNat % 16 : Nat) : Int) at q3
    change vs 4 = .int .i64 ((u0.toNat % 16 : Nat) : Int) at q4
    change vs 5 = .int .i64 (S : Int) at q5
    change vs 6 = .slice (some ⟨b, o, none⟩) n c at q6
    change vs 7 = .int .i64 (L : Int) at q7
    change vs 8 = .int .i64 (S : Int) at q8
    change vs 9 = .int .i64 (L : Int) at q9
    simp only [putAll, Act.put, List.setIfInBounds_toArray, List.set_cons_zero, List.set_cons_succ, q0, q1, q2, q3, q4, q5, q6, q7, q8, q9]
    clear q0 q1 q2 q3 q4 q5 q6 q7 q8 q9
    clear hR
    have hB3 := bthen hB1 (bthen (below_drew _) (grow_below hX3))
    have hb3 := (hb1.on (below_drew _)).on (grow_below hX3)
    have hc3 : w3.cell? ⟨b, o, none⟩ = some (.int .u8 (u0.toNat : Int)) := HC.out w3 hB3 0 u0 HU0.out
    clear hX3 hs1 hb1 hB1
    go_wp2_with fail
    have hrs : (Bs.mk (some ⟨b, o, none⟩) S c (l.take S)).ok w3 := Bs.ok.take (A := some ⟨b, o, none⟩) (n := n) ⟨(HH.out.below hB3).more hB3.size, hc, hcm⟩ (by omega)
    refine (check_lit _ [⟨some ⟨b, o, none⟩, S, c, l.take S⟩] 1 1 w3 rfl rfl (by omega) (oks1 hrs) (by rw [flat_one, List.length_take]; omega) _ rfl).mono ?_
    rintro e w5 ⟨rfl, hb5⟩
    rw [flat_one]
    have hd : decide (rawN (l.take S) = 65535) = false := by simpa using H4'.out
    rw [hd]
    clear hd
    have hB5 := bthen hB3 hb5
    have hbz5 := hb3.on hb5
    clear hrs hb5 hc3 hb3 hB3
    go_wp2_with (first
      | (refine wpList_value rfl (exec_build4z rfl) ?_)
      | (refine wpList_store_all rfl 56 _ _ rfl w.heap.size H4.zero.cells rfl rfl 56 _ hbz5 (size4 _ H4.zero_ok) rfl H4.zero.one ?_; intro w6 hbw6 hgw6 hsw6))
    refine bodyPost_ret (results_cell2 rfl _ _ w.heap.size _ _ _ rfl hbw6 Tryd.underlying56 rfl (size4 _ H4.zero_ok)) rfl ?_
    exact ⟨rfl, bgrown hB5 hgw6 (by have := hB5.size; omega) (by omega)⟩

set_option maxHeartbeats 4000000 in
theorem parse4_ok (A : Option Addr) (n c : Nat) (l : List UInt8) (w : World) (h : Row w w.heap.size 1 A n (bv l)) (hc : n ≤ c) (hcm : c ≤ maxLen) (hn : n ≤ 1099511627776) (h20 : 20 ≤ n) (u0 : UInt8) (hu0 : l[0]? = some u0) (S L : Nat) (hS : u0.toNat % 16 * 4 = S) (hL : numF l 2 2 = L) (hv : u0.toNat / 16 = 4) (h1 : 20 ≤ S) (h2 : S ≤ L) (h3 : L ≤ n) (h4 : rawN (l.take S) = 65535) (F I : Nat) (hF : numF l 6 2 = F) (hI : numF l 4 2 = I) (u1 u8 u9 : UInt8) (hu1 : l[1]? = some u1) (hu8 : l[8]? = some u8) (hu9 : l[9]? = some u9) :
    Calls Tryd.prog 36 #[.slice A n c] w fun e w' => e = .returned (.tuple #[.agg (H4.mk (u1.toNat : Nat) (L : Nat) (I : Nat) (decide (F / 16384 % 2 = 1)) (decide (F / 8192 % 2 = 1)) (F % 8192 : Nat) (u8.toNat : Nat) (u9.toNat : Nat) ((l.drop 12).take 4) ((l.drop 16).take 4) ((l.take S).drop 20)).cells.toArray, .int .i64 0]) ∧ Below w.heap.size w w' := by
  obtain ⟨b, o, rfl, hbB, hcell⟩ := h.2 (by omega)
  have hub := u0.toNat_lt
  have hll : l.length = n := by have := h.1; rw [bv_length] at this; omega
  have hLb : L < 256 ^ 2 := by rw [← hL]; exact numF_bd _ _ _
  have hSb : S ≤ 60 := by omega
  have HC : Hid (∀ W : World, Below w.heap.size w W → ∀ j u, l[j]? = some u → W.cell? ⟨b, o + j, none⟩ = some (.int .u8 (u.toNat : Int))) :=
    Lib.hid fun W hW j u hu => (hW.cell (p := ⟨b, o + j, none⟩) hbB).trans (hcell j _ (bv_get l j u hu))
  have HH := Lib.hid h
  have HU0 := Lib.hid hu0
  have HS := Lib.hid hS
  have HL := Lib.hid hL
  have HLL := Lib.hid hll
  have HLOW := Lib.hid (low4 u0.toNat hub)
  have hv1 : ((u0.toNat : Int) / 16 != 4) = false := by rw [bne_eq_false_iff_eq]; omega
  have k1 : ¬ ((S : Int) < 20) := by omega
  have k2 : ¬ ((L : Int) < S) := by omega
  have k3 : ¬ ((n : Int) < L) := by omega
  have HV := Lib.hid hv
  clear hv
  have hFb : F < 256 ^ 2 := by rw [← hF]; exact numF_bd _ _ _
  have hIb : I < 256 ^ 2 := by rw [← hI]; exact numF_bd _ _ _
  have HF := Lib.hid hF
  have HI := Lib.hid hI
  have H4' := Lib.hid h4
  have HU1 := Lib.hid hu1
  have HU8 := Lib.hid hu8
  have HU9 := Lib.hid hu9
  have hFi : F < 65536 := by omega
  have HKEEP := Lib.hid (keep4 F hFi)
  have HMORE := Lib.hid (more4 F hFi)
  have HOFF := Lib.hid (off4 F hFi)
  have HS12 := Lib.hid (show ((l.drop 12).take 4).length = 4 by rw [List.length_take, List.length_drop]; omega)
  have HS16 := Lib.hid (show ((l.drop 16).take 4).length = 4 by rw [List.length_take, List.length_drop]; omega)
  have hR := fun (W : World) (hW : Below w.heap.size w W) => (h.below hW).more hW.size
  have HOPT : Hid (∀ W : World, Below w.heap.size w W → ∀ A cc, S - 20 ≤ cc → cc ≤ maxLen → (A = some ⟨b, o + 20, none⟩ ∨ S = 20) → (Bs.mk A (S - 20) cc ((l.take S).drop 20)).ok W) := Lib.hid fun W hW A cc h1 h2 h3 => by
    rcases h3 with rfl | h3
    · have hr := (hR W hW).sub1 (i := 20) (k := S - 20) (by omega)
      rw [← bv_drop, ← bv_take] at hr
      refine ⟨?_, h1, h2⟩
      rw [List.drop_take]
      exact hr
    · refine ⟨?_, h1, h2⟩
      have e : (l.take S).drop 20 = [] := List.drop_of_length_le (by rw [List.length_take]; omega)
      show Row W W.heap.size 1 A (S - 20) (bv ((l.take S).drop 20))
      rw [e, show S - 20 = 0 by omega]
      exact Row.nil _ _ _ _
  have HC20 : Hid (¬ c = 20 ∨ c = 20 ∧ S = 20) := Lib.hid (by omega)
  have HR12 : Hid (∀ W : World, Below w.heap.size w W → W.rangeAt b (o + 12) (bv ((l.drop 12).take 4))) := Lib.hid fun W hW j v hv => by
    rw [bv_take, List.getElem?_take] at hv
    split at hv
    · rw [bv_drop, List.getElem?_drop] at hv
      rw [Nat.add_assoc]
      exact (hW.cell (p := ⟨b, o + (12 + j), none⟩) hbB).trans (hcell _ v hv)
    · cases hv
  have HR16 : Hid (∀ W : World, Below w.heap.size w W → W.rangeAt b (o + 16) (bv ((l.drop 16).take 4))) := Lib.hid fun W hW j v hv => by
    rw [bv_take, List.getElem?_take] at hv
    split at hv
    · rw [bv_drop, List.getElem?_drop] at hv
      rw [Nat.add_assoc]
      exact (hW.cell (p := ⟨b, o + (16 + j), none⟩) hbB).trans (hcell _ v hv)
    · cases hv
  have c12 : ¬ c = 12 := by omega
  have c16 : ¬ c = 16 := by omega
  have i1 : (1 : Int) < n := by omega
  have i8 : (8 : Int) < n := by omega
  have i9 : (9 : Int) < n := by omega
  have i20 : (20 : Int) ≤ S := by omega
  have hSc : (S : Int) ≤ c := by omega
  clear hF hI h4 hu1 hu8 hu9 hR
  clear h hcell hu0 hS hL hll
  go_enter Tryd.func36, Tryd.ntmps36
  go_wp2_with (refine wpList_alloc_blk rfl 56 rfl H4.zero.cells zero4 ?_; intro w1 hb1 hB1 hs1)
  refine wp_region_rel (fun A B => A.grownBy B none) (fun A => grown_refl A _) (fun A B C h k => grown_trans h k) (relAt (List.cons (fun v _ => v = .slice (some ⟨b, o, none⟩) n c) (List.cons (fun v _ => v = .pointer (some ⟨b, o, none⟩)) (List.cons (fun v _ => v = .int .u8 (u0.toNat : Int)) (List.cons (fun v _ => v = .int .u8 ((u0.toNat % 16 : Nat) : Int)) (List.cons (fun v _ => v = .int .i64 ((u0.toNat % 16 : Nat) : Int)) (List.cons (fun v _ => v = .int .i64 (S : Int)) (List.cons (fun v _ => v = .slice (some ⟨b, o, none⟩) n c) (List.cons (fun v _ => v = .int .i64 (L : Int)) (List.cons (fun v _ => v = .int .i64 (S : Int)) (List.cons (fun v _ => v = .int .i64 (L : Int)) ([])))))))))))) (MonoL.at_ (.cons (mono_val _) (.cons (mono_val _) (.cons (mono_val _) (.cons (mono_val _) (.cons (mono_val _) (.cons (mono_val _) (.cons (mono_val _) (.cons (mono_val _) (.cons (mono_val _) (.cons (mono_val _) .nil))))))))))) (by kernel_rfl) (by kernel_rfl) ⟨?_, ?_, ?_, ?_, ?_, ?_, ?_, ?_, ?_, ?_, trivial⟩ ?_
  · intro a vs W hX hR he hf K hK
    rw [if_pos (wanted_none rfl)]
    have e0 : a.eval (.tmp 0) = .slice (some ⟨b, o, none⟩) n c := hf 0 (by kernel_rfl)
    refine wp_value (v := .slice (some ⟨b, o, none⟩) n c) ?_ (hK _ _ rfl (grown_refl W _))
    simp only [execOp, e0]
    try go_simp
    try (first | rfl | omega | (simp only [IntKind.wrap_i64, IntKind.wrap_u8, IntKind.wrap_u64, IntKind.wrap_u16, IntKind.wrap_u32]; omega) | (rw [Int.tmod_eq_emod_of_nonneg (by omega)]) | (rw [Int.tmod_eq_emod_of_nonneg (by omega)]; omega))
  · intro a vs W hX hR he hf K hK
    rw [if_pos (wanted_none rfl)]
    have e12 : a.eval (.tmp 12) = .slice (some ⟨b, o, none⟩) n c := (he 0 12 (by kernel_rfl) rfl).trans (hR 0 (by kernel_rfl))
    refine wp_value (v := .pointer (some ⟨b, o, none⟩)) ?_ (hK _ _ rfl (grown_refl W _))
    simp only [execOp, e12]
    try go_simp
    try (first | rfl | omega | (simp only [IntKind.wrap_i64, IntKind.wrap_u8, IntKind.wrap_u64, IntKind.wrap_u16, IntKind.wrap_u32]; omega) | (rw [Int.tmod_eq_emod_of_nonneg (by omega)]) | (rw [Int.tmod_eq_emod_of_nonneg (by omega)]; omega))
  · intro a vs W hX hR he hf K hK
    rw [if_pos (wanted_none rfl)]
    have e13 : a.eval (.tmp 13) = .pointer (some ⟨b, o, none⟩) := (he 1 13 (by kernel_rfl) rfl).trans (hR 1 (by kernel_rfl))
    have hbW := bthen hB1 (bthen (below_drew _) (grow_below hX))
    have hc : W.cell? ⟨b, o, none⟩ = some (.int .u8 (u0.toNat : Int)) := HC.out W hbW 0 u0 HU0.out
    refine wp_value (v := _) ?_ (hK _ _ rfl (grown_refl W _))
    simp only [execOp, e13]
    try go_simp
  · intro a vs W hX hR he hf K hK
    rw [if_pos (wanted_none rfl)]
    have e14 : a.eval (.tmp 14) = .int .u8 (u0.toNat : Int) := (he 2 14 (by kernel_rfl) rfl).trans (hR 2 (by kernel_rfl))
    refine wp_value (v := _) ?_ (hK _ _ rfl (grown_refl W _))
    simp only [execOp, e14]
    have hx := HLOW.out
    go_simp
    try omega
  · intro a vs W hX hR he hf K hK
    rw [if_pos (wanted_none rfl)]
    have e15 : a.eval (.tmp 15) = .int .u8 ((u0.toNat % 16 : Nat) : Int) := (he 3 15 (by kernel_rfl) rfl).trans (hR 3 (by kernel_rfl))
    refine wp_value (v := .int .i64 ((u0.toNat % 16 : Nat) : Int)) ?_ (hK _ _ rfl (grown_refl W _))
    simp only [execOp, e15]
    try go_simp
    try (first | rfl | omega | (simp only [IntKind.wrap_i64, IntKind.wrap_u8, IntKind.wrap_u64, IntKind.wrap_u16, IntKind.wrap_u32]; omega) | (rw [Int.tmod_eq_emod_of_nonneg (by omega)]) | (rw [Int.tmod_eq_emod_of_nonneg (by omega)]; omega))
  · intro a vs W hX hR he hf K hK
    rw [if_pos (wanted_none rfl)]
    have e16 : a.eval (.tmp 16) = .int .i64 ((u0.toNat % 16 : Nat) : Int) := (he 4 16 (by kernel_rfl) rfl).trans (hR 4 (by kernel_rfl))
    refine wp_value (v := _) ?_ (hK _ _ rfl (grown_refl W _))
    simp only [execOp, e16]
    have hx := HS.out
    go_simp
    rw [IntKind.wrap_i64]
    omega
  · intro a vs W hX hR he hf K hK
    rw [if_pos (wanted_none rfl)]
    have e0 : a.eval (.tmp 0) = .slice (some ⟨b, o, none⟩) n c := hf 0 (by kernel_rfl)
    refine wp_value (v := .slice (some ⟨b, o, none⟩) n c) ?_ (hK _ _ rfl (grown_refl W _))
    simp only [execOp, e0]
    try go_simp
    try (first | rfl | omega | (simp only [IntKind.wrap_i64, IntKind.wrap_u8, IntKind.wrap_u64, IntKind.wrap_u16, IntKind.wrap_u32]; omega) | (rw [Int.tmod_eq_emod_of_nonneg (by omega)]) | (rw [Int.tmod_eq_emod_of_nonneg (by omega)]; omega))
  · intro a vs W hX hR he hf K hK
    rw [if_pos (wanted_none rfl)]
    have e18 : a.eval (.tmp 18) = .slice (some ⟨b, o, none⟩) n c := (he 6 18 (by kernel_rfl) rfl).trans (hR 6 (by kernel_rfl))
    have hbW := bthen hB1 (bthen (below_drew _) (grow_below hX))
    refine wp_enter (f := 64) (args := #[.slice (some ⟨b, o, none⟩) n c, .int .i64 2]) (by simp only [execOp, e18]; go_simp; simpa [Act.eval] using e18) ((num4_any 2 _ n c l W ((HH.out.below hbW).more hbW.size) hc hcm hn (by omega)).mono ?_)
    rintro e w' ⟨rfl, hb⟩
    rw [HL.out]
    exact ⟨_, rfl, hK _ _ rfl (below_grow hb _)⟩
  · intro a vs W hX hR he hf K hK
    rw [if_pos (wanted_none rfl)]
    have e17 : a.eval (.tmp 17) = .int .i64 (S : Int) := (he 5 17 (by kernel_rfl) rfl).trans (hR 5 (by kernel_rfl))
    refine wp_value (v := .int .i64 (S : Int)) ?_ (hK _ _ rfl (grown_refl W _))
    simp only [execOp, e17]
    try go_simp
    try (first | rfl | omega | (simp only [IntKind.wrap_i64, IntKind.wrap_u8, IntKind.wrap_u64, IntKind.wrap_u16, IntKind.wrap_u32]; omega) | (rw [Int.tmod_eq_emod_of_nonneg (by omega)]) | (rw [Int.tmod_eq_emod_of_nonneg (by omega)]; omega))
  · intro a vs W hX hR he hf K hK
    rw [if_pos (wanted_none rfl)]
    have e19 : a.eval (.tmp 19) = .int .i64 (L : Int) := (he 7 19 (by kernel_rfl) rfl).trans (hR 7 (by kernel_rfl))
    refine wp_value (v := .int .i64 (L : Int)) ?_ (hK _ _ rfl (grown_refl W _))
    simp only [execOp, e19]
    try go_simp
    try (first | rfl | omega | (simp only [IntKind.wrap_i64, IntKind.wrap_u8, IntKind.wrap_u64, IntKind.wrap_u16, IntKind.wrap_u32]; omega) | (rw [Int.tmod_eq_emod_of_nonneg (by omega)]) | (rw [Int.tmod_eq_emod_of_nonneg (by omega)]; omega))
  · intro vs w3 hX3 hR
    have q0 := hR 0 (by decide)
    have q1 := hR 1 (by decide)
    have q2 := hR 2 (by decide)
    have q3 := hR 3 (by decide)
    have q4 := hR 4 (by decide)
    have q5 := hR 5 (by decide)
    have q6 := hR 6 (by decide)
    have q7 := hR 7 (by decide)
    have q8 := hR 8 (by decide)
    have q9 := hR 9 (by decide)
    change vs 0 = .slice (some ⟨b, o, none⟩) n c at q0
    change vs 1 = .pointer (some ⟨b, o, none⟩) at q1
    change vs 2 = .int .u8 (u0.toNat : Int) at q2
    change vs 3 = .int .u8 ((u0.toNat % 16 : Nat) : Int) at q3
    change vs 4 = .int .i64 ((u0.toNat % 16 : Nat) : Int) at q4
    change vs 5 = .int .i64 (S : Int) at q5
    change vs 6 = .slice (some ⟨b, o, none⟩) n c at q6
    change vs 7 = .int .i64 (L : Int) at q7
    change vs 8 = .int .i64 (S : Int) at q8
    change vs 9 = .int .i64 (L : Int) at q9
    simp only [putAll, Act.put, List.setIfInBounds_toArray, List.set_cons_zero, List.set_cons_succ, q0, q1, q2, q3, q4, q5, q6, q7, q8, q9]
    clear q0 q1 q2 q3 q4 q5 q6 q7 q8 q9
    clear hR
    have hB3 := bthen hB1 (bthen (below_drew _) (grow_below hX3))
    have hb3 := (hb1.on (below_drew _)).on (grow_below hX3)
    have hc3 : w3.cell? ⟨b, o, none⟩ = some (.int .u8 (u0.toNat : Int)) := HC.out w3 hB3 0 u0 HU0.out
    clear hX3 hs1 hb1 hB1
    go_wp2_with fail
    have hrs : (Bs.mk (some ⟨b, o, none⟩) S c (l.take S)).ok w3 := Bs.ok.take (A := some ⟨b, o, none⟩) (n := n) ⟨(HH.out.below hB3).more hB3.size, hc, hcm⟩ (by omega)
    refine (check_lit _ [⟨some ⟨b, o, none⟩, S, c, l.take S⟩] 1 1 w3 rfl rfl (by omega) (oks1 hrs) (by rw [flat_one, List.length_take]; omega) _ rfl).mono ?_
    rintro e w5 ⟨rfl, hb5⟩
    rw [flat_one]
    have hd : decide (rawN (l.take S) = 65535) = true := by simpa using H4'.out
    rw [hd]
    clear hd
    have hB5 := bthen hB3 hb5
    have hbz5 := hb3.on hb5
    clear hrs hb5 hc3 hb3 hB3
    go_wp2_with fail
    refine (num4_any 6 _ n c l w5 ((HH.out.below hB5).more hB5.size) hc hcm hn (by omega)).mono ?_
    rintro e w7 ⟨rfl, hb7⟩
    rw [HF.out]
    have hB7 := bthen hB5 hb7
    have hbz7 := hbz5.on hb7
    clear hbz5 hB5 hb7
    go_wp2_with fail
    refine wp_region_rel2 (ExtN w7.heap.size 56 (H4.mk (u1.toNat : Nat) (L : Nat) (I : Nat) (decide (F / 16384 % 2 = 1)) (decide (F / 8192 % 2 = 1)) (F % 8192 : Nat) (u8.toNat : Nat) (u9.toNat : Nat) z4 z4 ((l.take S).drop 20)).cells) (ExtN.refl w7.heap.size 56 (H4.mk (u1.toNat : Nat) (L : Nat) (I : Nat) (decide (F / 16384 % 2 = 1)) (decide (F / 8192 % 2 = 1)) (F % 8192 : Nat) (u8.toNat : Nat) (u9.toNat : Nat) z4 z4 ((l.take S).drop 20)).cells) (fun A B C h k => h.trans k) (List.cons (.one (fun v _ => v = .slice (some ⟨b, o, none⟩) n c)) (List.cons (.one (fun v _ => v = .pointer (some ⟨b, o + 1, none⟩))) (List.cons (.one (fun v _ => v = .int .u8 (u1.toNat : Int))) (List.cons (.one (fun v _ => v = .int .i64 (L : Int))) (List.cons (.one (fun v _ => v = .slice (some ⟨b, o, none⟩) n c)) (List.cons (.one (fun v _ => v = .int .i64 (I : Int))) (List.cons (.one (fun v _ => v = .int .u16 (I : Int))) (List.cons (.one (fun v _ => v = .int .i64 (F : Int))) (List.cons (.one (fun v _ => v = .int .i64 (bits .and .i64 (F : Int) 16384))) (List.cons (.one (fun v _ => v = .bool (decide (F / 16384 % 2 = 1)))) (List.cons (.one (fun v _ => v = .int .i64 (F : Int))) (List.cons (.one (fun v _ => v = .int .i64 (bits .and .i64 (F : Int) 8192))) (List.cons (.one (fun v _ => v = .bool (decide (F / 8192 % 2 = 1)))) (List.cons (.one (fun v _ => v = .int .i64 (F : Int))) (List.cons (.one (fun v _ => v = .int .i64 ((F % 8192 : Nat) : Int))) (List.cons (.one (fun v _ => v = .slice (some ⟨b, o, none⟩) n c)) (List.cons (.one (fun v _ => v = .pointer (some ⟨b, o + 8, none⟩))) (List.cons (.one (fun v _ => v = .int .u8 (u8.toNat : Int))) (List.cons (.one (fun v _ => v = .slice (some ⟨b, o, none⟩) n c)) (List.cons (.one (fun v _ => v = .pointer (some ⟨b, o + 9, none⟩))) (List.cons (.one (fun v _ => v = .int .u8 (u9.toNat : Int))) (List.cons (.one (fun v _ => v = .slice (some ⟨b, o, none⟩) n c)) (List.cons (.one (fun v _ => v = .int .i64 (S : Int))) (List.cons (.one (fun v _ => ∃ A cc, v = .slice A (S - 20) cc ∧ ∀ W' : World, Below w.heap.size w W' → (Bs.mk A (S - 20) cc ((l.take S).drop 20)).ok W')) (List.cons (.one (fun v _ => v = str ((l.take S).drop 20))) (List.cons (.one (fun v _ => v = .agg (H4.mk (u1.toNat : Nat) (L : Nat) (I : Nat) (decide (F / 16384 % 2 = 1)) (decide (F / 8192 % 2 = 1)) (F % 8192 : Nat) (u8.toNat : Nat) (u9.toNat : Nat) z4 z4 ((l.take S).drop 20)).cells.toArray)) (List.cons (.one (fun v W => ∃ g, v = .pointer (some ⟨g, 0, none⟩) ∧ w7.heap.size ≤ g ∧ ∃ zs : List Value, zs.length = (H4.mk (u1.toNat : Nat) (L : Nat) (I : Nat) (decide (F / 16384 % 2 = 1)) (decide (F / 8192 % 2 = 1)) (F % 8192 : Nat) (u8.toNat : Nat) (u9.toNat : Nat) z4 z4 ((l.take S).drop 20)).cells.length ∧ Blk W g 56 zs)) (List.cons (.two 26 (fun u _ W => ∃ g, u = .pointer (some ⟨g, 0, none⟩) ∧ w7.heap.size ≤ g ∧ Blk W g 56 (H4.mk (u1.toNat : Nat) (L : Nat) (I : Nat) (decide (F / 16384 % 2 = 1)) (decide (F / 8192 % 2 = 1)) (F % 8192 : Nat) (u8.toNat : Nat) (u9.toNat : Nat) z4 z4 ((l.take S).drop 20)).cells)) ([]))))))))))))))))))))))))))))) ((.cons (fun _ _ _ h _ => h) (.cons (fun _ _ _ h _ => h) (.cons (fun _ _ _ h _ => h) (.cons (fun _ _ _ h _ => h) (.cons (fun _ _ _ h _ => h) (.cons (fun _ _ _ h _ => h) (.cons (fun _ _ _ h _ => h) (.cons (fun _ _ _ h _ => h) (.cons (fun _ _ _ h _ => h) (.cons (fun _ _ _ h _ => h) (.cons (fun _ _ _ h _ => h) (.cons (fun _ _ _ h _ => h) (.cons (fun _ _ _ h _ => h) (.cons (fun _ _ _ h _ => h) (.cons (fun _ _ _ h _ => h) (.cons (fun _ _ _ h _ => h) (.cons (fun _ _ _ h _ => h) (.cons (fun _ _ _ h _ => h) (.cons (fun _ _ _ h _ => h) (.cons (fun _ _ _ h _ => h) (.cons (fun _ _ _ h _ => h) (.cons (fun _ _ _ h _ => h) (.cons (fun _ _ _ h _ => h) (.cons (fun _ _ _ h _ => h) (.cons (fun _ _ _ h _ => h) (.cons (fun _ _ _ h _ => h) (.cons (fun _ _ _ ⟨g, hv, hg, hz⟩ hx => ⟨g, hv, hg, hx.there g hz⟩) (.cons (fun _ _ _ _ ⟨g, hv, hg, hz⟩ hx => ⟨g, hv, hg, hx.stays g hz⟩) .nil))))))))))))))))))))))))))))) (by kernel_rfl) (by kernel_rfl) (by kernel_rfl) ⟨?_, ?_, ?_, ?_, ?_, ?_, ?_, ?_, ?_, ?_, ?_, ?_, ?_, ?_, ?_, ?_, ?_, ?_, ?_, ?_, ?_, ?_, ?_, ?_, ?_, ?_, ?_, ?_, trivial⟩ ?_
    · intro a vs W hX hR he hf K hK
      rw [if_pos (wanted_none rfl)]
      have e0 : a.eval (.tmp 0) = .slice (some ⟨b, o, none⟩) n c := hf 0 (by kernel_rfl)
      refine wp_value (v := .slice (some ⟨b, o, none⟩) n c) ?_ (hK _ _ rfl (ExtN.refl _ _ _ W))
      simp only [execOp, e0]
      try go_simp
      try (first | rfl | omega | (simp only [IntKind.wrap_i64, IntKind.wrap_u8, IntKind.wrap_u64, IntKind.wrap_u16, IntKind.wrap_u32]; omega) | (rw [Int.tmod_eq_emod_of_nonneg (by omega)]) | (rw [Int.tmod_eq_emod_of_nonneg (by omega)]; omega))
    · intro a vs W hX hR he hf K hK
      rw [if_pos (wanted_none rfl)]
      have e52 : a.eval (.tmp 52) = .slice (some ⟨b, o, none⟩) n c := (he 0 52 (by kernel_rfl) rfl).trans (hR 0 (by kernel_rfl))
      refine wp_value (v := .pointer (some ⟨b, o + 1, none⟩)) ?_ (hK _ _ rfl (ExtN.refl _ _ _ W))
      simp only [execOp, e52]
      try go_simp
      try (first | rfl | omega | (simp only [IntKind.wrap_i64, IntKind.wrap_u8, IntKind.wrap_u64, IntKind.wrap_u16, IntKind.wrap_u32]; omega) | (rw [Int.tmod_eq_emod_of_nonneg (by omega)]) | (rw [Int.tmod_eq_emod_of_nonneg (by omega)]; omega))
    · intro a vs W hX hR he hf K hK
      rw [if_pos (wanted_none rfl)]
      have e53 : a.eval (.tmp 53) = .pointer (some ⟨b, o + 1, none⟩) := (he 1 53 (by kernel_rfl) rfl).trans (hR 1 (by kernel_rfl))
      have hbW := bthen hB7 (bthen (below_drew _) (hX.below))
      have hc : W.cell? ⟨b, o + 1, none⟩ = some (.int .u8 (u1.toNat : Int)) := HC.out W hbW 1 u1 HU1.out
      refine wp_value (v := _) ?_ (hK _ _ rfl (ExtN.refl _ _ _ W))
      simp only [execOp, e53]
      try go_simp
    · intro a vs W hX hR he hf K hK
      rw [if_pos (wanted_none rfl)]
      have e5 : a.eval (.tmp 5) = .int .i64 (L : Int) := hf 5 (by kernel_rfl)
      refine wp_value (v := .int .i64 (L : Int)) ?_ (hK _ _ rfl (ExtN.refl _ _ _ W))
      simp only [execOp, e5]
      try go_simp
      try (first | rfl | omega | (simp only [IntKind.wrap_i64, IntKind.wrap_u8, IntKind.wrap_u64, IntKind.wrap_u16, IntKind.wrap_u32]; omega) | (rw [Int.tmod_eq_emod_of_nonneg (by omega)]) | (rw [Int.tmod_eq_emod_of_nonneg (by omega)]; omega))
    · intro a vs W hX hR he hf K hK
      rw [if_pos (wanted_none rfl)]
      have e0 : a.eval (.tmp 0) = .slice (some ⟨b, o, none⟩) n c := hf 0 (by kernel_rfl)
      refine wp_value (v := .slice (some ⟨b, o, none⟩) n c) ?_ (hK _ _ rfl (ExtN.refl _ _ _ W))
      simp only [execOp, e0]
      try go_simp
      try (first | rfl | omega | (simp only [IntKind.wrap_i64, IntKind.wrap_u8, IntKind.wrap_u64, IntKind.wrap_u16, IntKind.wrap_u32]; omega) | (rw [Int.tmod_eq_emod_of_nonneg (by omega)]) | (rw [Int.tmod_eq_emod_of_nonneg (by omega)]; omega))
    · intro a vs W hX hR he hf K hK
      rw [if_pos (wanted_none rfl)]
      have e56 : a.eval (.tmp 56) = .slice (some ⟨b, o, none⟩) n c := (he 4 56 (by kernel_rfl) rfl).trans (hR 4 (by kernel_rfl))
      have hbW := bthen hB7 (bthen (below_drew _) (hX.below))
      refine wp_enter (f := 64) (args := #[.slice (some ⟨b, o, none⟩) n c, .int .i64 4]) (by simp only [execOp, e56]; go_simp; simpa [Act.eval] using e56) ((num4_any 4 _ n c l W ((HH.out.below hbW).more hbW.size) hc hcm hn (by omega)).mono ?_)
      rintro e w' ⟨rfl, hb⟩
      rw [HI.out]
      exact ⟨_, rfl, hK _ _ rfl (ExtN.of hX.size hb)⟩
    · intro a vs W hX hR he hf K hK
      rw [if_pos (wanted_none rfl)]
      have e57 : a.eval (.tmp 57) = .int .i64 (I : Int) := (he 5 57 (by kernel_rfl) rfl).trans (hR 5 (by kernel_rfl))
      refine wp_value (v := .int .u16 (I : Int)) ?_ (hK _ _ rfl (ExtN.refl _ _ _ W))
      simp only [execOp, e57]
      try go_simp
      try (first | rfl | omega | (simp only [IntKind.wrap_i64, IntKind.wrap_u8, IntKind.wrap_u64, IntKind.wrap_u16, IntKind.wrap_u32]; omega) | (rw [Int.tmod_eq_emod_of_nonneg (by omega)]) | (rw [Int.tmod_eq_emod_of_nonneg (by omega)]; omega))
    · intro a vs W hX hR he hf K hK
      rw [if_pos (wanted_none rfl)]
      have e6 : a.eval (.tmp 6) = .int .i64 (F : Int) := hf 6 (by kernel_rfl)
      refine wp_value (v := .int .i64 (F : Int)) ?_ (hK _ _ rfl (ExtN.refl _ _ _ W))
      simp only [execOp, e6]
      try go_simp
      try (first | rfl | omega | (simp only [IntKind.wrap_i64, IntKind.wrap_u8, IntKind.wrap_u64, IntKind.wrap_u16, IntKind.wrap_u32]; omega) | (rw [Int.tmod_eq_emod_of_nonneg (by omega)]) | (rw [Int.tmod_eq_emod_of_nonneg (by omega)]; omega))
    · intro a vs W hX hR he hf K hK
      rw [if_pos (wanted_none rfl)]
      have e59 : a.eval (.tmp 59) = .int .i64 (F : Int) := (he 7 59 (by kernel_rfl) rfl).trans (hR 7 (by kernel_rfl))
      refine wp_value (v := .int .i64 (bits .and .i64 (F : Int) 16384)) ?_ (hK _ _ rfl (ExtN.refl _ _ _ W))
      simp only [execOp, e59]
      try go_simp
      try (first | rfl | omega | (simp only [IntKind.wrap_i64, IntKind.wrap_u8, IntKind.wrap_u64, IntKind.wrap_u16, IntKind.wrap_u32]; omega) | (rw [Int.tmod_eq_emod_of_nonneg (by omega)]) | (rw [Int.tmod_eq_emod_of_nonneg (by omega)]; omega))
    · intro a vs W hX hR he hf K hK
      rw [if_pos (wanted_none rfl)]
      have e60 : a.eval (.tmp 60) = .int .i64 (bits .and .i64 (F : Int) 16384) := (he 8 60 (by kernel_rfl) rfl).trans (hR 8 (by kernel_rfl))
      refine wp_value (v := .bool (bits .and .i64 (F : Int) 16384 != 0)) ?_ (hK _ _ (congrArg Value.bool HKEEP.out) (ExtN.refl _ _ _ W))
      simp only [execOp, e60]
      try go_simp
    · intro a vs W hX hR he hf K hK
      rw [if_pos (wanted_none rfl)]
      have e6 : a.eval (.tmp 6) = .int .i64 (F : Int) := hf 6 (by kernel_rfl)
      refine wp_value (v := .int .i64 (F : Int)) ?_ (hK _ _ rfl (ExtN.refl _ _ _ W))
      simp only [execOp, e6]
      try go_simp
      try (first | rfl | omega | (simp only [IntKind.wrap_i64, IntKind.wrap_u8, IntKind.wrap_u64, IntKind.wrap_u16, IntKind.wrap_u32]; omega) | (rw [Int.tmod_eq_emod_of_nonneg (by omega)]) | (rw [Int.tmod_eq_emod_of_nonneg (by omega)]; omega))
    · intro a vs W hX hR he hf K hK
      rw [if_pos (wanted_none rfl)]
      have e62 : a.eval (.tmp 62) = .int .i64 (F : Int) := (he 10 62 (by kernel_rfl) rfl).trans (hR 10 (by kernel_rfl))
      refine wp_value (v := .int .i64 (bits .and .i64 (F : Int) 8192)) ?_ (hK _ _ rfl (ExtN.refl _ _ _ W))
      simp only [execOp, e62]
      try go_simp
      try (first | rfl | omega | (simp only [IntKind.wrap_i64, IntKind.wrap_u8, IntKind.wrap_u64, IntKind.wrap_u16, IntKind.wrap_u32]; omega) | (rw [Int.tmod_eq_emod_of_nonneg (by omega)]) | (rw [Int.tmod_eq_emod_of_nonneg (by omega)]; omega))
    · intro a vs W hX hR he hf K hK
      rw [if_pos (wanted_none rfl)]
      have e63 : a.eval (.tmp 63) = .int .i64 (bits .and .i64 (F : Int) 8192) := (he 11 63 (by kernel_rfl) rfl).trans (hR 11 (by kernel_rfl))
      refine wp_value (v := .bool (bits .and .i64 (F : Int) 8192 != 0)) ?_ (hK _ _ (congrArg Value.bool HMORE.out) (ExtN.refl _ _ _ W))
      simp only [execOp, e63]
      try go_simp
    · intro a vs W hX hR he hf K hK
      rw [if_pos (wanted_none rfl)]
      have e6 : a.eval (.tmp 6) = .int .i64 (F : Int) := hf 6 (by kernel_rfl)
      refine wp_value (v := .int .i64 (F : Int)) ?_ (hK _ _ rfl (ExtN.refl _ _ _ W))
      simp only [execOp, e6]
      try go_simp
      try (first | rfl | omega | (simp only [IntKind.wrap_i64, IntKind.wrap_u8, IntKind.wrap_u64, IntKind.wrap_u16, IntKind.wrap_u32]; omega) | (rw [Int.tmod_eq_emod_of_nonneg (by omega)]) | (rw [Int.tmod_eq_emod_of_nonneg (by omega)]; omega))
    · intro a vs W hX hR he hf K hK
      rw [if_pos (wanted_none rfl)]
      have e65 : a.eval (.tmp 65) = .int .i64 (F : Int) := (he 13 65 (by kernel_rfl) rfl).trans (hR 13 (by kernel_rfl))
      refine wp_value (v := _) ?_ (hK _ _ rfl (ExtN.refl _ _ _ W))
      simp only [execOp, e65]
      have hx := HOFF.out
      go_simp
      try omega
    · intro a vs W hX hR he hf K hK
      rw [if_pos (wanted_none rfl)]
      have e0 : a.eval (.tmp 0) = .slice (some ⟨b, o, none⟩) n c := hf 0 (by kernel_rfl)
      refine wp_value (v := .slice (some ⟨b, o, none⟩) n c) ?_ (hK _ _ rfl (ExtN.refl _ _ _ W))
      simp only [execOp, e0]
      try go_simp
      try (first | rfl | omega | (simp only [IntKind.wrap_i64, IntKind.wrap_u8, IntKind.wrap_u64, IntKind.wrap_u16, IntKind.wrap_u32]; omega) | (rw [Int.tmod_eq_emod_of_nonneg (by omega)]) | (rw [Int.tmod_eq_emod_of_nonneg (by omega)]; omega))
    · intro a vs W hX hR he hf K hK
      rw [if_pos (wanted_none rfl)]
      have e67 : a.eval (.tmp 67) = .slice (some ⟨b, o, none⟩) n c := (he 15 67 (by kernel_rfl) rfl).trans (hR 15 (by kernel_rfl))
      refine wp_value (v := .pointer (some ⟨b, o + 8, none⟩)) ?_ (hK _ _ rfl (ExtN.refl _ _ _ W))
      simp only [execOp, e67]
      try go_simp
      try (first | rfl | omega | (simp only [IntKind.wrap_i64, IntKind.wrap_u8, IntKind.wrap_u64, IntKind.wrap_u16, IntKind.wrap_u32]; omega) | (rw [Int.tmod_eq_emod_of_nonneg (by omega)]) | (rw [Int.tmod_eq_emod_of_nonneg (by omega)]; omega))
    · intro a vs W hX hR he hf K hK
      rw [if_pos (wanted_none rfl)]
      have e68 : a.eval (.tmp 68) = .pointer (some ⟨b, o + 8, none⟩) := (he 16 68 (by kernel_rfl) rfl).trans (hR 16 (by kernel_rfl))
      have hbW := bthen hB7 (bthen (below_drew _) (hX.below))
      have hc : W.cell? ⟨b, o + 8, none⟩ = some (.int .u8 (u8.toNat : Int)) := HC.out W hbW 8 u8 HU8.out
      refine wp_value (v := _) ?_ (hK _ _ rfl (ExtN.refl _ _ _ W))
      simp only [execOp, e68]
      try go_simp
    · intro a vs W hX hR he hf K hK
      rw [if_pos (wanted_none rfl)]
      have e0 : a.eval (.tmp 0) = .slice (some ⟨b, o, none⟩) n c := hf 0 (by kernel_rfl)
      refine wp_value (v := .slice (some ⟨b, o, none⟩) n c) ?_ (hK _ _ rfl (ExtN.refl _ _ _ W))
      simp only [execOp, e0]
      try go_simp
      try (first | rfl | omega | (simp only [IntKind.wrap_i64, IntKind.wrap_u8, IntKind.wrap_u64, IntKind.wrap_u16, IntKind.wrap_u32]; omega) | (rw [Int.tmod_eq_emod_of_nonneg (by omega)]) | (rw [Int.tmod_eq_emod_of_nonneg (by omega)]; omega))
    · intro a vs W hX hR he hf K hK
      rw [if_pos (wanted_none rfl)]
      have e70 : a.eval (.tmp 70) = .slice (some ⟨b, o, none⟩) n c := (he 18 70 (by kernel_rfl) rfl).trans (hR 18 (by kernel_rfl))
      refine wp_value (v := .pointer (some ⟨b, o + 9, none⟩)) ?_ (hK _ _ rfl (ExtN.refl _ _ _ W))
      simp only [execOp, e70]
      try go_simp
      try (first | rfl | omega | (simp only [IntKind.wrap_i64, IntKind.wrap_u8, IntKind.wrap_u64, IntKind.wrap_u16, IntKind.wrap_u32]; omega) | (rw [Int.tmod_eq_emod_of_nonneg (by omega)]) | (rw [Int.tmod_eq_emod_of_nonneg (by omega)]; omega))
    · intro a vs W hX hR he hf K hK
      rw [if_pos (wanted_none rfl)]
      have e71 : a.eval (.tmp 71) = .pointer (some ⟨b, o + 9, none⟩) := (he 19 71 (by kernel_rfl) rfl).trans (hR 19 (by kernel_rfl))
      have hbW := bthen hB7 (bthen (below_drew _) (hX.below))
      have hc : W.cell? ⟨b, o + 9, none⟩ = some (.int .u8 (u9.toNat : Int)) := HC.out W hbW 9 u9 HU9.out
      refine wp_value (v := _) ?_ (hK _ _ rfl (ExtN.refl _ _ _ W))
      simp only [execOp, e71]
      try go_simp
    · intro a vs W hX hR he hf K hK
      rw [if_pos (wanted_none rfl)]
      have e0 : a.eval (.tmp 0) = .slice (some ⟨b, o, none⟩) n c := hf 0 (by kernel_rfl)
      refine wp_value (v := .slice (some ⟨b, o, none⟩) n c) ?_ (hK _ _ rfl (ExtN.refl _ _ _ W))
      simp only [execOp, e0]
      try go_simp
      try (first | rfl | omega | (simp only [IntKind.wrap_i64, IntKind.wrap_u8, IntKind.wrap_u64, IntKind.wrap_u16, IntKind.wrap_u32]; omega) | (rw [Int.tmod_eq_emod_of_nonneg (by omega)]) | (rw [Int.tmod_eq_emod_of_nonneg (by omega)]; omega))
    · intro a vs W hX hR he hf K hK
      rw [if_pos (wanted_none rfl)]
      have e4 : a.eval (.tmp 4) = .int .i64 (S : Int) := hf 4 (by kernel_rfl)
      refine wp_value (v := .int .i64 (S : Int)) ?_ (hK _ _ rfl (ExtN.refl _ _ _ W))
      simp only [execOp, e4]
      try go_simp
      try (first | rfl | omega | (simp only [IntKind.wrap_i64, IntKind.wrap_u8, IntKind.wrap_u64, IntKind.wrap_u16, IntKind.wrap_u32]; omega) | (rw [Int.tmod_eq_emod_of_nonneg (by omega)]) | (rw [Int.tmod_eq_emod_of_nonneg (by omega)]; omega))
    · intro a vs W hX hR he hf K hK
      rw [if_pos (wanted_none rfl)]
      have e73 : a.eval (.tmp 73) = .slice (some ⟨b, o, none⟩) n c := (he 21 73 (by kernel_rfl) rfl).trans (hR 21 (by kernel_rfl))
      have e74 : a.eval (.tmp 74) = .int .i64 (S : Int) := (he 22 74 (by kernel_rfl) rfl).trans (hR 22 (by kernel_rfl))
      have f73 := e73
      simp only [Act.eval, Array.getD_eq_getD_getElem?] at f73
      have f74 := e74
      simp only [Act.eval, Array.getD_eq_getD_getElem?] at f74
      rcases HC20.out with hcS | ⟨hcS, hS20⟩
      · refine wp_value (v := .slice (some ⟨b, o + 20, none⟩) (S - 20) (c - 20)) ?_ (hK _ _ ⟨_, _, rfl, fun W' hW' => HOPT.out W' hW' _ _ (by omega) (by omega) (.inl rfl)⟩ (ExtN.refl _ _ _ W))
        simp only [execOp, e73]
        go_simp
      · refine wp_value (v := .slice (some ⟨b, o, none⟩) (S - 20) 0) ?_ (hK _ _ ⟨_, _, rfl, fun W' hW' => HOPT.out W' hW' _ _ (by omega) (by omega) (.inr hS20)⟩ (ExtN.refl _ _ _ W))
        subst hcS
        simp only [execOp, e73]
        go_simp
        try rw [if_pos (by omega)]
    · intro a vs W hX hR he hf K hK
      rw [if_pos (wanted_none rfl)]
      have e75 := he 23 75 (by kernel_rfl) rfl
      have p75 := hR 23 (by kernel_rfl)
      change (fun v _ => ∃ A cc, v = .slice A (S - 20) cc ∧ ∀ W' : World, Below w.heap.size w W' → (Bs.mk A (S - 20) cc ((l.take S).drop 20)).ok W') (vs 23) W at p75
      have hbW := bthen hB7 (bthen (below_drew _) (hX.below))
      obtain ⟨A, cc, hv, ho⟩ := p75
      rw [hv] at e75
      exact wp_value (exec_str 22 9 5 _ rfl Tryd.underlying22 Tryd.underlying5 Tryd.underlying9 A (S - 20) cc _ e75 (ho W hbW)) (hK _ _ rfl (ExtN.refl _ _ _ W))
    · intro a vs W hX hR he hf K hK
      rw [if_pos (wanted_none rfl)]
      have e54 : a.eval (.tmp 54) = .int .u8 (u1.toNat : Int) := (he 2 54 (by kernel_rfl) rfl).trans (hR 2 (by kernel_rfl))
      have e55 : a.eval (.tmp 55) = .int .i64 (L : Int) := (he 3 55 (by kernel_rfl) rfl).trans (hR 3 (by kernel_rfl))
      have e58 : a.eval (.tmp 58) = .int .u16 (I : Int) := (he 6 58 (by kernel_rfl) rfl).trans (hR 6 (by kernel_rfl))
      have e61 : a.eval (.tmp 61) = .bool (decide (F / 16384 % 2 = 1)) := (he 9 61 (by kernel_rfl) rfl).trans (hR 9 (by kernel_rfl))
      have e64 : a.eval (.tmp 64) = .bool (decide (F / 8192 % 2 = 1)) := (he 12 64 (by kernel_rfl) rfl).trans (hR 12 (by kernel_rfl))
      have e66 : a.eval (.tmp 66) = .int .i64 ((F % 8192 : Nat) : Int) := (he 14 66 (by kernel_rfl) rfl).trans (hR 14 (by kernel_rfl))
      have e69 : a.eval (.tmp 69) = .int .u8 (u8.toNat : Int) := (he 17 69 (by kernel_rfl) rfl).trans (hR 17 (by kernel_rfl))
      have e72 : a.eval (.tmp 72) = .int .u8 (u9.toNat : Int) := (he 20 72 (by kernel_rfl) rfl).trans (hR 20 (by kernel_rfl))
      have e76 : a.eval (.tmp 76) = str ((l.take S).drop 20) := (he 24 76 (by kernel_rfl) rfl).trans (hR 24 (by kernel_rfl))
      have f54 := e54
      simp only [Act.eval, Array.getD_eq_getD_getElem?] at f54
      have f55 := e55
      simp only [Act.eval, Array.getD_eq_getD_getElem?] at f55
      have f58 := e58
      simp only [Act.eval, Array.getD_eq_getD_getElem?] at f58
      have f61 := e61
      simp only [Act.eval, Array.getD_eq_getD_getElem?] at f61
      have f64 := e64
      simp only [Act.eval, Array.getD_eq_getD_getElem?] at f64
      have f66 := e66
      simp only [Act.eval, Array.getD_eq_getD_getElem?] at f66
      have f69 := e69
      simp only [Act.eval, Array.getD_eq_getD_getElem?] at f69
      have f72 := e72
      simp only [Act.eval, Array.getD_eq_getD_getElem?] at f72
      have f76 := e76
      simp only [Act.eval, Array.getD_eq_getD_getElem?] at f76
      exact wp_value (exec_build4p _ _ _ _ _ _ _ _ _ rfl _ _ _ _ _ _ _ _ _ e54 e55 e58 e61 e64 e66 e69 e72 e76) (hK _ _ rfl (ExtN.refl _ _ _ W))
    · intro a vs W hX hR he hf K hK
      rw [if_pos (wanted_none rfl)]
      refine wp_alloc_blk 56 rfl H4.zero.cells zero4 ?_
      intro g w4 hbg hb4' hs4 hgs
      exact hK _ _ ⟨g, rfl, by have := hX.size; show w7.drew.heap.size ≤ g; omega, _, H4.cells_same _ _ H4.zero_ok ⟨rfl, rfl⟩, hbg⟩ (ExtN.of hX.size hb4')
    · intro a vs W hX hR he hf K hK
      rw [if_pos (wanted_none rfl)]
      have e7 := he 26 7 (by kernel_rfl) rfl
      have p7 := hR 26 (by kernel_rfl)
      change (fun v W => ∃ g, v = .pointer (some ⟨g, 0, none⟩) ∧ w7.heap.size ≤ g ∧ ∃ zs : List Value, zs.length = (H4.mk (u1.toNat : Nat) (L : Nat) (I : Nat) (decide (F / 16384 % 2 = 1)) (decide (F / 8192 % 2 = 1)) (F % 8192 : Nat) (u8.toNat : Nat) (u9.toNat : Nat) z4 z4 ((l.take S).drop 20)).cells.length ∧ Blk W g 56 zs) (vs 26) W at p7
      have e77 : a.eval (.tmp 77) = .agg (H4.mk (u1.toNat : Nat) (L : Nat) (I : Nat) (decide (F / 16384 % 2 = 1)) (decide (F / 8192 % 2 = 1)) (F % 8192 : Nat) (u8.toNat : Nat) (u9.toNat : Nat) z4 z4 ((l.take S).drop 20)).cells.toArray := (he 25 77 (by kernel_rfl) rfl).trans (hR 25 (by kernel_rfl))
      obtain ⟨g, hv, hg, zs, hz, hbz⟩ := p7
      rw [hv] at e7
      refine wp_store_all 56 _ _ rfl g _ e7 e77 56 zs hbz (size4 _ ⟨rfl, rfl⟩) hz.symm (H4.one _) ?_
      intro w' hb' hg' hs'
      exact hK _ _ ⟨g, hv, hg, hb'⟩ (ExtN.store hX.size hg hg' hb')
    · intro vs w8 hX8 hR
      have q0 := hR 0 (by decide)
      have q1 := hR 1 (by decide)
      have q2 := hR 2 (by decide)
      have q3 := hR 3 (by decide)
      have q4 := hR 4 (by decide)
      have q5 := hR 5 (by decide)
      have q6 := hR 6 (by decide)
      have q7 := hR 7 (by decide)
      have q8 := hR 8 (by decide)
      have q9 := hR 9 (by decide)
      have q10 := hR 10 (by decide)
      have q11 := hR 11 (by decide)
      have q12 := hR 12 (by decide)
      have q13 := hR 13 (by decide)
      have q14 := hR 14 (by decide)
      have q15 := hR 15 (by decide)
      have q16 := hR 16 (by decide)
      have q17 := hR 17 (by decide)
      have q18 := hR 18 (by decide)
      have q19 := hR 19 (by decide)
      have q20 := hR 20 (by decide)
      have q21 := hR 21 (by decide)
      have q22 := hR 22 (by decide)
      have q23 := hR 23 (by decide)
      have q24 := hR 24 (by decide)
      have q25 := hR 25 (by decide)
      have q26 := hR 26 (by decide)
      have q27 := hR 27 (by decide)
      change vs 0 = .slice (some ⟨b, o, none⟩) n c at q0
      change vs 1 = .pointer (some ⟨b, o + 1, none⟩) at q1
      change vs 2 = .int .u8 (u1.toNat : Int) at q2
      change vs 3 = .int .i64 (L : Int) at q3
      change vs 4 = .slice (some ⟨b, o, none⟩) n c at q4
      change vs 5 = .int .i64 (I : Int) at q5
      change vs 6 = .int .u16 (I : Int) at q6
      change vs 7 = .int .i64 (F : Int) at q7
      change vs 8 = .int .i64 (bits .and .i64 (F : Int) 16384) at q8
      change vs 9 = .bool (decide (F / 16384 % 2 = 1)) at q9
      change vs 10 = .int .i64 (F : Int) at q10
      change vs 11 = .int .i64 (bits .and .i64 (F : Int) 8192) at q11
      change vs 12 = .bool (decide (F / 8192 % 2 = 1)) at q12
      change vs 13 = .int .i64 (F : Int) at q13
      change vs 14 = .int .i64 ((F % 8192 : Nat) : Int) at q14
      change vs 15 = .slice (some ⟨b, o, none⟩) n c at q15
      change vs 16 = .pointer (some ⟨b, o + 8, none⟩) at q16
      change vs 17 = .int .u8 (u8.toNat : Int) at q17
      change vs 18 = .slice (some ⟨b, o, none⟩) n c at q18
      change vs 19 = .pointer (some ⟨b, o + 9, none⟩) at q19
      change vs 20 = .int .u8 (u9.toNat : Int) at q20
      change vs 21 = .slice (some ⟨b, o, none⟩) n c at q21
      change vs 22 = .int .i64 (S : Int) at q22
      change (fun v _ => ∃ A cc, v = .slice A (S - 20) cc ∧ ∀ W' : World, Below w.heap.size w W' → (Bs.mk A (S - 20) cc ((l.take S).drop 20)).ok W') (vs 23) w8 at q23
      change vs 24 = str ((l.take S).drop 20) at q24
      change vs 25 = .agg (H4.mk (u1.toNat : Nat) (L : Nat) (I : Nat) (decide (F / 16384 % 2 = 1)) (decide (F / 8192 % 2 = 1)) (F % 8192 : Nat) (u8.toNat : Nat) (u9.toNat : Nat) z4 z4 ((l.take S).drop 20)).cells.toArray at q25
      change (fun v W => ∃ g, v = .pointer (some ⟨g, 0, none⟩) ∧ w7.heap.size ≤ g ∧ ∃ zs : List Value, zs.length = (H4.mk (u1.toNat : Nat) (L : Nat) (I : Nat) (decide (F / 16384 % 2 = 1)) (decide (F / 8192 % 2 = 1)) (F % 8192 : Nat) (u8.toNat : Nat) (u9.toNat : Nat) z4 z4 ((l.take S).drop 20)).cells.length ∧ Blk W g 56 zs) (vs 26) w8 at q26
      change (fun u _ W => ∃ g, u = .pointer (some ⟨g, 0, none⟩) ∧ w7.heap.size ≤ g ∧ Blk W g 56 (H4.mk (u1.toNat : Nat) (L : Nat) (I : Nat) (decide (F / 16384 % 2 = 1)) (decide (F / 8192 % 2 = 1)) (F % 8192 : Nat) (u8.toNat : Nat) (u9.toNat : Nat) z4 z4 ((l.take S).drop 20)).cells) (vs 26) (vs 27) w8 at q27
      simp only [putAll, Act.put, List.setIfInBounds_toArray, List.set_cons_zero, List.set_cons_succ, q0, q1, q2, q3, q4, q5, q6, q7, q8, q9, q10, q11, q12, q13, q14, q15, q16, q17, q18, q19, q20, q21, q22, q24, q25]
      clear q0 q1 q2 q3 q4 q5 q6 q7 q8 q9 q10 q11 q12 q13 q14 q15 q16 q17 q18 q19 q20 q21 q22 q24 q25
      clear hR
      obtain ⟨g, hv, hg, hbg8⟩ := q27
      rw [hv]
      have hB8 := bthen hB7 (bthen (below_drew _) hX8.below)
      have hbz8 := (hbz7.on (below_drew _)).on hX8.below
      have hne : w.heap.size ≠ g := by have := hbz7.lt; omega
      clear hv q26 hX8 hB7
      have hr12 := HR12.out w8 hB8
      have ha12 := run_arrayAt (P := Tryd.prog) 26 5 4 Tryd.underlying26 ⟨b, o + 12, none⟩ (n - 12) (c - 12) (by omega)
      have ha16 := run_arrayAt (P := Tryd.prog) 26 5 4 Tryd.underlying26 ⟨b, o + 16, none⟩ (n - 16) (c - 16) (by omega)
      have HR12' := Lib.hid hr12
      clear hr12
      have hgB : w.heap.size ≤ g := by have := hbz8.lt; have := hbz7.lt; omega
      go_wp2_with (first
        | (refine wpList_store_all rfl 56 _ _ rfl w.heap.size _ rfl rfl 56 _ hbz10 (size4 _ ⟨HS12.out, HS16.out⟩) (H4.cells_same _ _ ⟨HS12.out, HS16.out⟩ H4.zero_ok) (H4.one _) ?_; intro w11 hb11 hg11 hs11)
        | (refine wpList_load_blk rfl 56 _ rfl g rfl 56 _ _ hbg10 Tryd.underlying56 rfl (size4 _ ⟨HS12.out, HS16.out⟩) ?_)
        | (refine wpList_store_blk rfl 26 (.tmp 87) (.tmp 86) rfl g 12 (bv ((l.drop 16).take 4)) rfl rfl 56 _ hbg9 (sizeA4 _ HS16.out) (by rw [H4.cells_length _ ⟨HS12.out, rfl⟩, bv_length, HS16.out]; omega) (bv_one _) ?_; intro w10 hbg10 hg10 hs10; rw [H4.put_dst _ ⟨HS12.out, rfl⟩ _ HS16.out] at hbg10; have hB10 : Below w.heap.size w w10 := bgrown hB9 hg10 hB9.size hgB; have hbz10 := hbz9.grown hg10 (fun e => hne (by injection e)))
        | (refine wpList_store_blk rfl 26 (.tmp 82) (.tmp 81) rfl g 8 (bv ((l.drop 12).take 4)) rfl rfl 56 _ hbg8 (sizeA4 _ HS12.out) (by rw [H4.cells_length _ ⟨rfl, rfl⟩, bv_length, HS12.out]; omega) (bv_one _) ?_; intro w9 hbg9 hg9 hs9; rw [H4.put_src _ ⟨rfl, rfl⟩ _ HS12.out] at hbg9; have hB9 : Below w.heap.size w w9 := bgrown hB8 hg9 hB8.size hgB; have hbz9 := hbz8.grown hg9 (fun e => hne (by injection e)); have HR16' := Lib.hid (HR16.out w9 hB9))
        | (refine wpList_load_midB rfl 26 (.tmp 85) rfl b (o + 16) rfl _ _ HR16'.out Tryd.underlying26 rfl (sizeA4 _ HS16.out) ?_)
        | (refine wpList_load_midB rfl 26 (.tmp 80) rfl b (o + 12) rfl _ _ HR12'.out Tryd.underlying26 rfl (sizeA4 _ HS12.out) ?_))
      refine bodyPost_ret (results_cell2 rfl _ _ w.heap.size _ _ _ rfl hb11 Tryd.underlying56 rfl (size4 _ ⟨HS12.out, HS16.out⟩)) rfl ?_
      exact ⟨rfl, bgrown hB10 hg11 hB10.size (by omega)⟩

theorem parse4_any (A : Option Addr) (n c : Nat) (l : List UInt8) (w : World) (h : Row w w.heap.size 1 A n (bv l)) (hc : n ≤ c) (hcm : c ≤ maxLen) (hn : n ≤ 1099511627776) :
    Calls Tryd.prog 36 #[.slice A n c] w fun e w' => e = .returned (.tuple #[.agg (par4 l).1.cells.toArray, .int .i64 (par4 l).2]) ∧ Below w.heap.size w w' := by
  have hll : l.length = n := by have := h.1; rw [bv_length] at this; omega
  by_cases h20 : n < 20
  · have e : par4 l = (H4.zero, 10) := by unfold par4; rw [if_pos (by omega)]
    rw [e]
    exact parse4_short A n c w h20
  obtain ⟨u0, hu0⟩ := get_ex l (k := 0) (by omega)
  have g0 : l.getD 0 0 = u0 := by rw [List.getD_eq_getElem?_getD, hu0]; rfl
  by_cases hv : u0.toNat / 16 = 4
  · by_cases hL : size4n l < 20 ∨ numF l 2 2 < size4n l ∨ l.length < numF l 2 2
    · have e : par4 l = (H4.zero, 13) := by unfold par4; rw [if_neg (by omega), g0, if_neg (by omega), if_pos hL]
      rw [e]
      rw [hll] at hL
      refine parse4_len A n c l w h hc hcm hn (by omega) u0 hu0 (size4n l) _ ?_ rfl hv hL
      unfold size4n
      rw [g0]
    · have hS : u0.toNat % 16 * 4 = size4n l := by unfold size4n; rw [g0]
      by_cases h4 : rawN (l.take (size4n l)) = 65535
      · obtain ⟨u1, hu1⟩ := get_ex l (k := 1) (by omega)
        obtain ⟨u8, hu8⟩ := get_ex l (k := 8) (by omega)
        obtain ⟨u9, hu9⟩ := get_ex l (k := 9) (by omega)
        have e : par4 l = (⟨(u1.toNat : Nat), (numF l 2 2 : Nat), (numF l 4 2 : Nat), decide (numF l 6 2 / 16384 % 2 = 1), decide (numF l 6 2 / 8192 % 2 = 1), (numF l 6 2 % 8192 : Nat), (u8.toNat : Nat), (u9.toNat : Nat), (l.drop 12).take 4, (l.drop 16).take 4, (l.take (size4n l)).drop 20⟩, 0) := by
          unfold par4
          rw [if_neg (by omega), g0, if_neg (by omega), if_neg hL, if_neg (by simpa using h4)]
          rw [show l.getD 1 0 = u1 by rw [List.getD_eq_getElem?_getD, hu1]; rfl, show l.getD 8 0 = u8 by rw [List.getD_eq_getElem?_getD, hu8]; rfl, show l.getD 9 0 = u9 by rw [List.getD_eq_getElem?_getD, hu9]; rfl]
        rw [e]
        exact parse4_ok A n c l w h hc hcm hn (by omega) u0 hu0 (size4n l) _ hS rfl hv (by omega) (by omega) (by omega) h4 _ _ rfl rfl u1 u8 u9 hu1 hu8 hu9
      · have e : par4 l = (H4.zero, 14) := by unfold par4; rw [if_neg (by omega), g0, if_neg (by omega), if_neg hL, if_pos h4]
        rw [e]
        exact parse4_sum A n c l w h hc hcm hn (by omega) u0 hu0 (size4n l) _ hS rfl hv (by omega) (by omega) (by omega) h4
  · have e : par4 l = (H4.zero, 12) := by unfold par4; rw [if_neg (by omega), g0, if_pos hv]
    rw [e]
    exact parse4_ver A n c l w h hc hcm hn (by omega) u0 hu0 _ _ rfl rfl hv
end Go.Proofs.YtckbleiikldloaaDoor


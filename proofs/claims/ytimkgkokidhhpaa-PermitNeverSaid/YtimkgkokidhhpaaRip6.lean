/- What the reference's reading of bytes as a header of IPv6 computes. No condition but sizes. -/
import Derived.Test.YtimkgkokidhhpaaAddr6
namespace Go.Proofs.Ytimkgkokidhhpaa
open Go.RowKit
set_option linter.unusedVariables false
set_option maxRecDepth 20000
set_option linter.unusedSimpArgs false

set_option maxHeartbeats 1000000 in
theorem rparse6_short (l : List UInt8) (w : World) (hn : l.length < 40) :
    Calls Try.prog 21 #[str l] w fun e w' => e = .returned (.tuple #[.agg H6.zero.cells.toArray, .int .i64 10]) ∧ Below w.heap.size w w' := by
  have hn' : (l.length : Int) < 40 := by omega
  go_enter Try.func21, Try.ntmps21
  go_wp2_with (first
    | (refine wpList_alloc_blk rfl 44 rfl H6.zero.cells zero6 ?_; intro w1 hb1 hB1 hs1)
    | (refine wpList_value rfl (exec_build6z rfl) ?_)
    | (refine wpList_store_all rfl 44 _ _ rfl w.heap.size H6.zero.cells rfl rfl 44 _ hb1 (size6 _ H6.zero_ok) rfl H6.zero.one ?_; intro w2 hb2 hg2 hs2))
  refine bodyPost_ret (results_cell2 rfl _ _ w.heap.size _ _ _ rfl hb2 Try.underlying44 rfl (size6 _ H6.zero_ok)) rfl ?_
  exact ⟨rfl, bgrown hB1 hg2 (by omega) (by omega)⟩

set_option maxHeartbeats 1000000 in
theorem rparse6_ver (l : List UInt8) (w : World) (hn : l.length ≤ 1099511627776) (h40 : 40 ≤ l.length) (F L : Nat) (hF : numF l 0 4 = F) (hL : numF l 4 2 = L) (hv : F / 268435456 ≠ 6) :
    Calls Try.prog 21 #[str l] w fun e w' => e = .returned (.tuple #[.agg H6.zero.cells.toArray, .int .i64 12]) ∧ Below w.heap.size w w' := by
  have hn' : ¬ (l.length : Int) < 40 := by omega
  have hFb : F < 256 ^ 4 := by rw [← hF]; exact numF_bd _ _ _
  have hLb : L < 256 ^ 2 := by rw [← hL]; exact numF_bd _ _ _
  have HF := Lib.hid hF
  have HL := Lib.hid hL
  have hv1 : ((F : Int) / 268435456 != 6) = true := by rw [bne_iff_ne]; omega
  clear hv
  clear hF hL
  go_enter Try.func21, Try.ntmps21
  go_wp2_with (refine wpList_alloc_blk rfl 44 rfl H6.zero.cells zero6 ?_; intro w1 hb1 hB1 hs1)
  refine (rnum6_any 0 4 l _ hn (by omega) (by omega) (by omega)).mono ?_
  rintro e w' ⟨rfl, rfl⟩
  rw [HF.out]
  go_wp2_with (first
    | (refine wpList_value rfl (exec_build6z rfl) ?_)
    | (refine wpList_store_all rfl 44 _ _ rfl w.heap.size H6.zero.cells rfl rfl 44 _ hb1 (size6 _ H6.zero_ok) rfl H6.zero.one ?_; intro w2 hb2 hg2 hs2))
  refine bodyPost_ret (results_cell2 rfl _ _ w.heap.size _ _ _ rfl hb2 Try.underlying44 rfl (size6 _ H6.zero_ok)) rfl ?_
  exact ⟨rfl, bgrown hB1 hg2 (by omega) (by omega)⟩

set_option maxHeartbeats 1000000 in
theorem rparse6_len (l : List UInt8) (w : World) (hn : l.length ≤ 1099511627776) (h40 : 40 ≤ l.length) (F L : Nat) (hF : numF l 0 4 = F) (hL : numF l 4 2 = L) (hv : F / 268435456 = 6) (hlt : l.length < L + 40) :
    Calls Try.prog 21 #[str l] w fun e w' => e = .returned (.tuple #[.agg H6.zero.cells.toArray, .int .i64 13]) ∧ Below w.heap.size w w' := by
  have hn' : ¬ (l.length : Int) < 40 := by omega
  have hFb : F < 256 ^ 4 := by rw [← hF]; exact numF_bd _ _ _
  have hLb : L < 256 ^ 2 := by rw [← hL]; exact numF_bd _ _ _
  have HF := Lib.hid hF
  have HL := Lib.hid hL
  have hv1 : ((F : Int) / 268435456 != 6) = false := by rw [bne_eq_false_iff_eq]; omega
  have hl1 : (l.length : Int) < (L : Int) + 40 := by omega
  have HV := Lib.hid hv
  clear hv
  clear hF hL
  go_enter Try.func21, Try.ntmps21
  go_wp2_with (refine wpList_alloc_blk rfl 44 rfl H6.zero.cells zero6 ?_; intro w1 hb1 hB1 hs1)
  refine (rnum6_any 0 4 l _ hn (by omega) (by omega) (by omega)).mono ?_
  rintro e w' ⟨rfl, rfl⟩
  rw [HF.out]
  go_wp2_with fail
  refine (rnum6_any 4 2 l _ hn (by omega) (by omega) (by omega)).mono ?_
  rintro e w' ⟨rfl, rfl⟩
  rw [HL.out]
  go_wp2_with (first
    | (refine wpList_value rfl (exec_build6z rfl) ?_)
    | (refine wpList_store_all rfl 44 _ _ rfl w.heap.size H6.zero.cells rfl rfl 44 _ hb1 (size6 _ H6.zero_ok) rfl H6.zero.one ?_; intro w2 hb2 hg2 hs2))
  refine bodyPost_ret (results_cell2 rfl _ _ w.heap.size _ _ _ rfl hb2 Try.underlying44 rfl (size6 _ H6.zero_ok)) rfl ?_
  exact ⟨rfl, bgrown hB1 hg2 (by omega) (by omega)⟩

set_option maxHeartbeats 4000000 in
theorem rparse6_ok (l : List UInt8) (w : World) (hn : l.length ≤ 1099511627776) (h40 : 40 ≤ l.length) (F L : Nat) (hF : numF l 0 4 = F) (hL : numF l 4 2 = L) (hv : F / 268435456 = 6) (hlt : L + 40 ≤ l.length) (u6 u7 : UInt8) (hu6 : l[6]? = some u6) (hu7 : l[7]? = some u7) :
    Calls Try.prog 21 #[str l] w fun e w' => e = .returned (.tuple #[.agg (H6.mk (F / 1048576 % 256 : Nat) (F % 1048576 : Nat) (L : Nat) (u6.toNat : Nat) (u7.toNat : Nat) ((l.drop 8).take 16) ((l.drop 24).take 16)).cells.toArray, .int .i64 0]) ∧ Below w.heap.size w w' := by
  have hn' : ¬ (l.length : Int) < 40 := by omega
  have hFb : F < 256 ^ 4 := by rw [← hF]; exact numF_bd _ _ _
  have hLb : L < 256 ^ 2 := by rw [← hL]; exact numF_bd _ _ _
  have HF := Lib.hid hF
  have HL := Lib.hid hL
  have hv1 : ((F : Int) / 268435456 != 6) = false := by rw [bne_eq_false_iff_eq]; omega
  have hl1 : (L : Int) + 40 ≤ (l.length : Int) := by omega
  have i6 : (6 : Int) < (l.length : Int) := by omega
  have i7 : (7 : Int) < (l.length : Int) := by omega
  have i8 : (8 : Int) ≤ (l.length : Int) := by omega
  have i24 : (24 : Int) ≤ (l.length : Int) := by omega
  have HV := Lib.hid hv
  have HG6 := Lib.hid (ba_get l 6 u6 hu6)
  have HG7 := Lib.hid (ba_get l 7 u7 hu7)
  have HD8 := Lib.hid (str_drop l 8)
  have HD24 := Lib.hid (str_drop l 24)
  have HS8 := Lib.hid (show ((l.drop 8).take 16).length = 16 by rw [List.length_take, List.length_drop]; omega)
  have HS24 := Lib.hid (show ((l.drop 24).take 16).length = 16 by rw [List.length_take, List.length_drop]; omega)
  clear hF hL hv hu6 hu7
  go_enter Try.func21, Try.ntmps21
  go_wp2_with (refine wpList_alloc_blk rfl 44 rfl H6.zero.cells zero6 ?_; intro w1 hb1 hB1 hs1)
  refine (rnum6_any 0 4 l _ hn (by omega) (by omega) (by omega)).mono ?_
  rintro e w' ⟨rfl, rfl⟩
  rw [HF.out]
  go_wp2_with fail
  refine (rnum6_any 4 2 l _ hn (by omega) (by omega) (by omega)).mono ?_
  rintro e w' ⟨rfl, rfl⟩
  rw [HL.out]
  go_wp2_with fail
  refine wp_region_rel (Ext1 w.heap.size 44 (H6.mk (F / 1048576 % 256 : Nat) (F % 1048576 : Nat) (L : Nat) (u6.toNat : Nat) (u7.toNat : Nat) ((l.drop 8).take 16) ((l.drop 24).take 16)).cells) (Ext1.refl w.heap.size 44 (H6.mk (F / 1048576 % 256 : Nat) (F % 1048576 : Nat) (L : Nat) (u6.toNat : Nat) (u7.toNat : Nat) ((l.drop 8).take 16) ((l.drop 24).take 16)).cells) (fun A B C h k => h.trans k) (relAt [fun v _ => v = .int .i64 (F : Int), fun v _ => v = .int .i64 ((F / 1048576 : Nat) : Int), fun v _ => v = .int .i64 ((F / 1048576 % 256 : Nat) : Int), fun v _ => v = .int .u8 ((F / 1048576 % 256 : Nat) : Int), fun v _ => v = .int .i64 (F : Int), fun v _ => v = .int .i64 ((F % 1048576 : Nat) : Int), fun v _ => v = .int .i64 (L : Int), fun v _ => v = str l, fun v _ => v = .int .u8 (u6.toNat : Int), fun v _ => v = str l, fun v _ => v = .int .u8 (u7.toNat : Int), fun v _ => v = str l, fun v _ => v = str (l.drop 8), fun v _ => v = .agg (bv ((l.drop 8).take 16)).toArray, fun v _ => v = str l, fun v _ => v = str (l.drop 24), fun v _ => v = .agg (bv ((l.drop 24).take 16)).toArray, fun v _ => v = .agg (H6.mk (F / 1048576 % 256 : Nat) (F % 1048576 : Nat) (L : Nat) (u6.toNat : Nat) (u7.toNat : Nat) ((l.drop 8).take 16) ((l.drop 24).take 16)).cells.toArray, fun _ W => Blk W w.heap.size 44 (H6.mk (F / 1048576 % 256 : Nat) (F % 1048576 : Nat) (L : Nat) (u6.toNat : Nat) (u7.toNat : Nat) ((l.drop 8).take 16) ((l.drop 24).take 16)).cells, fun v _ => v = .int .i64 0]) (MonoL.at_ (.cons (mono_val _) (.cons (mono_val _) (.cons (mono_val _) (.cons (mono_val _) (.cons (mono_val _) (.cons (mono_val _) (.cons (mono_val _) (.cons (mono_val _) (.cons (mono_val _) (.cons (mono_val _) (.cons (mono_val _) (.cons (mono_val _) (.cons (mono_val _) (.cons (mono_val _) (.cons (mono_val _) (.cons (mono_val _) (.cons (mono_val _) (.cons (mono_val _) (.cons (fun _ A B h hx => hx.stays h) (.cons (mono_val _) .nil))))))))))))))))))))) (by kernel_rfl) (by kernel_rfl) ⟨?_, ?_, ?_, ?_, ?_, ?_, ?_, ?_, ?_, ?_, ?_, ?_, ?_, ?_, ?_, ?_, ?_, ?_, ?_, ?_, trivial⟩ ?_
  · intro a vs W hX hR he hf K hK
    rw [if_pos (wanted_none rfl)]
    have e4 : a.eval (.tmp 4) = .int .i64 (F : Int) := hf 4 (by kernel_rfl)
    refine wp_value (v := .int .i64 (F : Int)) ?_ (hK _ _ rfl (Ext1.refl _ _ _ W))
    simp only [execOp, e4]
    try go_simp
    try (first | rfl | omega | (simp only [IntKind.wrap_i64, IntKind.wrap_u8, IntKind.wrap_u64, IntKind.wrap_u16, IntKind.wrap_u32]; omega) | (rw [Int.tmod_eq_emod_of_nonneg (by omega)]) | (rw [Int.tmod_eq_emod_of_nonneg (by omega)]; omega))
  · intro a vs W hX hR he hf K hK
    rw [if_pos (wanted_none rfl)]
    have e24 : a.eval (.tmp 24) = .int .i64 (F : Int) := (he 0 24 (by kernel_rfl) rfl).trans (hR 0 (by kernel_rfl))
    refine wp_value (v := .int .i64 ((F / 1048576 : Nat) : Int)) ?_ (hK _ _ rfl (Ext1.refl _ _ _ W))
    simp only [execOp, e24]
    try go_simp
    try (first | rfl | omega | (simp only [IntKind.wrap_i64, IntKind.wrap_u8, IntKind.wrap_u64, IntKind.wrap_u16, IntKind.wrap_u32]; omega) | (rw [Int.tmod_eq_emod_of_nonneg (by omega)]) | (rw [Int.tmod_eq_emod_of_nonneg (by omega)]; omega))
  · intro a vs W hX hR he hf K hK
    rw [if_pos (wanted_none rfl)]
    have e25 : a.eval (.tmp 25) = .int .i64 ((F / 1048576 : Nat) : Int) := (he 1 25 (by kernel_rfl) rfl).trans (hR 1 (by kernel_rfl))
    refine wp_value (v := .int .i64 ((F / 1048576 % 256 : Nat) : Int)) ?_ (hK _ _ rfl (Ext1.refl _ _ _ W))
    simp only [execOp, e25]
    try go_simp
    try (first | rfl | omega | (simp only [IntKind.wrap_i64, IntKind.wrap_u8, IntKind.wrap_u64, IntKind.wrap_u16, IntKind.wrap_u32]; omega) | (rw [Int.tmod_eq_emod_of_nonneg (by omega)]) | (rw [Int.tmod_eq_emod_of_nonneg (by omega)]; omega))
  · intro a vs W hX hR he hf K hK
    rw [if_pos (wanted_none rfl)]
    have e26 : a.eval (.tmp 26) = .int .i64 ((F / 1048576 % 256 : Nat) : Int) := (he 2 26 (by kernel_rfl) rfl).trans (hR 2 (by kernel_rfl))
    refine wp_value (v := .int .u8 ((F / 1048576 % 256 : Nat) : Int)) ?_ (hK _ _ rfl (Ext1.refl _ _ _ W))
    simp only [execOp, e26]
    try go_simp
    try (first | rfl | omega | (simp only [IntKind.wrap_i64, IntKind.wrap_u8, IntKind.wrap_u64, IntKind.wrap_u16, IntKind.wrap_u32]; omega) | (rw [Int.tmod_eq_emod_of_nonneg (by omega)]) | (rw [Int.tmod_eq_emod_of_nonneg (by omega)]; omega))
  · intro a vs W hX hR he hf K hK
    rw [if_pos (wanted_none rfl)]
    have e4 : a.eval (.tmp 4) = .int .i64 (F : Int) := hf 4 (by kernel_rfl)
    refine wp_value (v := .int .i64 (F : Int)) ?_ (hK _ _ rfl (Ext1.refl _ _ _ W))
    simp only [execOp, e4]
    try go_simp
    try (first | rfl | omega | (simp only [IntKind.wrap_i64, IntKind.wrap_u8, IntKind.wrap_u64, IntKind.wrap_u16, IntKind.wrap_u32]; omega) | (rw [Int.tmod_eq_emod_of_nonneg (by omega)]) | (rw [Int.tmod_eq_emod_of_nonneg (by omega)]; omega))
  · intro a vs W hX hR he hf K hK
    rw [if_pos (wanted_none rfl)]
    have e28 : a.eval (.tmp 28) = .int .i64 (F : Int) := (he 4 28 (by kernel_rfl) rfl).trans (hR 4 (by kernel_rfl))
    refine wp_value (v := .int .i64 ((F % 1048576 : Nat) : Int)) ?_ (hK _ _ rfl (Ext1.refl _ _ _ W))
    simp only [execOp, e28]
    try go_simp
    try (first | rfl | omega | (simp only [IntKind.wrap_i64, IntKind.wrap_u8, IntKind.wrap_u64, IntKind.wrap_u16, IntKind.wrap_u32]; omega) | (rw [Int.tmod_eq_emod_of_nonneg (by omega)]) | (rw [Int.tmod_eq_emod_of_nonneg (by omega)]; omega))
  · intro a vs W hX hR he hf K hK
    rw [if_pos (wanted_none rfl)]
    have e5 : a.eval (.tmp 5) = .int .i64 (L : Int) := hf 5 (by kernel_rfl)
    refine wp_value (v := .int .i64 (L : Int)) ?_ (hK _ _ rfl (Ext1.refl _ _ _ W))
    simp only [execOp, e5]
    try go_simp
    try (first | rfl | omega | (simp only [IntKind.wrap_i64, IntKind.wrap_u8, IntKind.wrap_u64, IntKind.wrap_u16, IntKind.wrap_u32]; omega) | (rw [Int.tmod_eq_emod_of_nonneg (by omega)]) | (rw [Int.tmod_eq_emod_of_nonneg (by omega)]; omega))
  · intro a vs W hX hR he hf K hK
    rw [if_pos (wanted_none rfl)]
    have e0 : a.eval (.tmp 0) = str l := hf 0 (by kernel_rfl)
    refine wp_value (v := str l) ?_ (hK _ _ rfl (Ext1.refl _ _ _ W))
    simp only [execOp, e0]
    try go_simp
    try (first | rfl | omega | (simp only [IntKind.wrap_i64, IntKind.wrap_u8, IntKind.wrap_u64, IntKind.wrap_u16, IntKind.wrap_u32]; omega) | (rw [Int.tmod_eq_emod_of_nonneg (by omega)]) | (rw [Int.tmod_eq_emod_of_nonneg (by omega)]; omega))
  · intro a vs W hX hR he hf K hK
    rw [if_pos (wanted_none rfl)]
    have e31 : a.eval (.tmp 31) = str l := (he 7 31 (by kernel_rfl) rfl).trans (hR 7 (by kernel_rfl))
    refine wp_value (v := _) ?_ (hK _ _ rfl (Ext1.refl _ _ _ W))
    simp only [execOp, e31]
    go_simp
    rw [HG6.out]
  · intro a vs W hX hR he hf K hK
    rw [if_pos (wanted_none rfl)]
    have e0 : a.eval (.tmp 0) = str l := hf 0 (by kernel_rfl)
    refine wp_value (v := str l) ?_ (hK _ _ rfl (Ext1.refl _ _ _ W))
    simp only [execOp, e0]
    try go_simp
    try (first | rfl | omega | (simp only [IntKind.wrap_i64, IntKind.wrap_u8, IntKind.wrap_u64, IntKind.wrap_u16, IntKind.wrap_u32]; omega) | (rw [Int.tmod_eq_emod_of_nonneg (by omega)]) | (rw [Int.tmod_eq_emod_of_nonneg (by omega)]; omega))
  · intro a vs W hX hR he hf K hK
    rw [if_pos (wanted_none rfl)]
    have e33 : a.eval (.tmp 33) = str l := (he 9 33 (by kernel_rfl) rfl).trans (hR 9 (by kernel_rfl))
    refine wp_value (v := _) ?_ (hK _ _ rfl (Ext1.refl _ _ _ W))
    simp only [execOp, e33]
    go_simp
    rw [HG7.out]
  · intro a vs W hX hR he hf K hK
    rw [if_pos (wanted_none rfl)]
    have e0 : a.eval (.tmp 0) = str l := hf 0 (by kernel_rfl)
    refine wp_value (v := str l) ?_ (hK _ _ rfl (Ext1.refl _ _ _ W))
    simp only [execOp, e0]
    try go_simp
    try (first | rfl | omega | (simp only [IntKind.wrap_i64, IntKind.wrap_u8, IntKind.wrap_u64, IntKind.wrap_u16, IntKind.wrap_u32]; omega) | (rw [Int.tmod_eq_emod_of_nonneg (by omega)]) | (rw [Int.tmod_eq_emod_of_nonneg (by omega)]; omega))
  · intro a vs W hX hR he hf K hK
    rw [if_pos (wanted_none rfl)]
    have e35 : a.eval (.tmp 35) = str l := (he 11 35 (by kernel_rfl) rfl).trans (hR 11 (by kernel_rfl))
    refine wp_value (v := str (l.drop 8)) ?_ (hK _ _ rfl (Ext1.refl _ _ _ W))
    simp only [execOp, e35]
    go_simp
    exact Value.string.inj HD8.out
  · intro a vs W hX hR he hf K hK
    rw [if_pos (wanted_none rfl)]
    have e36 : a.eval (.tmp 36) = str (l.drop 8) := (he 12 36 (by kernel_rfl) rfl).trans (hR 12 (by kernel_rfl))
    refine wp_enter (f := 62) (args := #[str (l.drop 8)]) (by simp only [execOp, e36]; go_simp; simpa [Act.eval] using e36) ((address_any (l.drop 8) W (by rw [List.length_drop]; omega) (by rw [List.length_drop]; omega)).mono ?_)
    rintro e w' ⟨rfl, hb⟩
    exact ⟨_, rfl, hK _ _ rfl (Ext1.below hb)⟩
  · intro a vs W hX hR he hf K hK
    rw [if_pos (wanted_none rfl)]
    have e0 : a.eval (.tmp 0) = str l := hf 0 (by kernel_rfl)
    refine wp_value (v := str l) ?_ (hK _ _ rfl (Ext1.refl _ _ _ W))
    simp only [execOp, e0]
    try go_simp
    try (first | rfl | omega | (simp only [IntKind.wrap_i64, IntKind.wrap_u8, IntKind.wrap_u64, IntKind.wrap_u16, IntKind.wrap_u32]; omega) | (rw [Int.tmod_eq_emod_of_nonneg (by omega)]) | (rw [Int.tmod_eq_emod_of_nonneg (by omega)]; omega))
  · intro a vs W hX hR he hf K hK
    rw [if_pos (wanted_none rfl)]
    have e38 : a.eval (.tmp 38) = str l := (he 14 38 (by kernel_rfl) rfl).trans (hR 14 (by kernel_rfl))
    refine wp_value (v := str (l.drop 24)) ?_ (hK _ _ rfl (Ext1.refl _ _ _ W))
    simp only [execOp, e38]
    go_simp
    exact Value.string.inj HD24.out
  · intro a vs W hX hR he hf K hK
    rw [if_pos (wanted_none rfl)]
    have e39 : a.eval (.tmp 39) = str (l.drop 24) := (he 15 39 (by kernel_rfl) rfl).trans (hR 15 (by kernel_rfl))
    refine wp_enter (f := 62) (args := #[str (l.drop 24)]) (by simp only [execOp, e39]; go_simp; simpa [Act.eval] using e39) ((address_any (l.drop 24) W (by rw [List.length_drop]; omega) (by rw [List.length_drop]; omega)).mono ?_)
    rintro e w' ⟨rfl, hb⟩
    exact ⟨_, rfl, hK _ _ rfl (Ext1.below hb)⟩
  · intro a vs W hX hR he hf K hK
    rw [if_pos (wanted_none rfl)]
    have e27 : a.eval (.tmp 27) = .int .u8 ((F / 1048576 % 256 : Nat) : Int) := (he 3 27 (by kernel_rfl) rfl).trans (hR 3 (by kernel_rfl))
    have e29 : a.eval (.tmp 29) = .int .i64 ((F % 1048576 : Nat) : Int) := (he 5 29 (by kernel_rfl) rfl).trans (hR 5 (by kernel_rfl))
    have e30 : a.eval (.tmp 30) = .int .i64 (L : Int) := (he 6 30 (by kernel_rfl) rfl).trans (hR 6 (by kernel_rfl))
    have e32 : a.eval (.tmp 32) = .int .u8 (u6.toNat : Int) := (he 8 32 (by kernel_rfl) rfl).trans (hR 8 (by kernel_rfl))
    have e34 : a.eval (.tmp 34) = .int .u8 (u7.toNat : Int) := (he 10 34 (by kernel_rfl) rfl).trans (hR 10 (by kernel_rfl))
    have e37 : a.eval (.tmp 37) = .agg (bv ((l.drop 8).take 16)).toArray := (he 13 37 (by kernel_rfl) rfl).trans (hR 13 (by kernel_rfl))
    have e40 : a.eval (.tmp 40) = .agg (bv ((l.drop 24).take 16)).toArray := (he 16 40 (by kernel_rfl) rfl).trans (hR 16 (by kernel_rfl))
    exact wp_value (exec_build6f _ _ _ _ _ _ _ rfl _ _ _ _ _ _ _ HS8.out HS24.out e27 e29 e30 e32 e34 e37 e40) (hK _ _ rfl (Ext1.refl _ _ _ W))
  · intro a vs W hX hR he hf K hK
    rw [if_pos (wanted_none rfl)]
    have e2 : a.eval (.tmp 2) = .pointer (some ⟨w.heap.size, 0, none⟩) := hf 2 (by kernel_rfl)
    have e41 : a.eval (.tmp 41) = .agg (H6.mk (F / 1048576 % 256 : Nat) (F % 1048576 : Nat) (L : Nat) (u6.toNat : Nat) (u7.toNat : Nat) ((l.drop 8).take 16) ((l.drop 24).take 16)).cells.toArray := (he 17 41 (by kernel_rfl) rfl).trans (hR 17 (by kernel_rfl))
    obtain ⟨zs, hz, hbz⟩ := hX.there ⟨_, H6.cells_same _ _ H6.zero_ok ⟨HS8.out, HS24.out⟩, hb1⟩
    refine wp_store_all 44 _ _ rfl w.heap.size _ e2 e41 44 zs hbz (size6 _ ⟨HS8.out, HS24.out⟩) hz.symm (H6.one _) ?_
    intro w' hb' hg' hs'
    exact hK _ _ hb' (Ext1.store hg' hb')
  · intro a vs W hX hR he hf K hK
    rw [if_pos (wanted_none rfl)]
    refine wp_value (v := .int .i64 0) ?_ (hK _ _ rfl (Ext1.refl _ _ _ W))
    simp only [execOp]
    try go_simp
    try (first | rfl | omega | (simp only [IntKind.wrap_i64, IntKind.wrap_u8, IntKind.wrap_u64, IntKind.wrap_u16, IntKind.wrap_u32]; omega) | (rw [Int.tmod_eq_emod_of_nonneg (by omega)]) | (rw [Int.tmod_eq_emod_of_nonneg (by omega)]; omega))
  · intro vs W hX hR
    have q0 := hR 0 (by decide)
    have q1 := hR 1 (by decide)
    have q2 := hR 2 (by decide)
    have q3 := hR 3 (by decide)
    have q4 := hR 4 (by decide)
    have q5 := hR 5 (by decide)
    have q6 := hR 6 (by decide)
    have q7 := hR 7 (by decide)
    have q8 := hR 8 (by decide)
    have q9 := hR 9 (by decide)
    have q10 := hR 10 (by decide)
    have q11 := hR 11 (by decide)
    have q12 := hR 12 (by decide)
    have q13 := hR 13 (by decide)
    have q14 := hR 14 (by decide)
    have q15 := hR 15 (by decide)
    have q16 := hR 16 (by decide)
    have q17 := hR 17 (by decide)
    have q18 := hR 18 (by decide)
    have q19 := hR 19 (by decide)
    change vs 0 = .int .i64 (F : Int) at q0
    change vs 1 = .int .i64 ((F / 1048576 : Nat) : Int) at q1
    change vs 2 = .int .i64 ((F / 1048576 % 256 : Nat) : Int) at q2
    change vs 3 = .int .u8 ((F / 1048576 % 256 : Nat) : Int) at q3
    change vs 4 = .int .i64 (F : Int) at q4
    change vs 5 = .int .i64 ((F % 1048576 : Nat) : Int) at q5
    change vs 6 = .int .i64 (L : Int) at q6
    change vs 7 = str l at q7
    change vs 8 = .int .u8 (u6.toNat : Int) at q8
    change vs 9 = str l at q9
    change vs 10 = .int .u8 (u7.toNat : Int) at q10
    change vs 11 = str l at q11
    change vs 12 = str (l.drop 8) at q12
    change vs 13 = .agg (bv ((l.drop 8).take 16)).toArray at q13
    change vs 14 = str l at q14
    change vs 15 = str (l.drop 24) at q15
    change vs 16 = .agg (bv ((l.drop 24).take 16)).toArray at q16
    change vs 17 = .agg (H6.mk (F / 1048576 % 256 : Nat) (F % 1048576 : Nat) (L : Nat) (u6.toNat : Nat) (u7.toNat : Nat) ((l.drop 8).take 16) ((l.drop 24).take 16)).cells.toArray at q17
    change (fun _ W => Blk W w.heap.size 44 (H6.mk (F / 1048576 % 256 : Nat) (F % 1048576 : Nat) (L : Nat) (u6.toNat : Nat) (u7.toNat : Nat) ((l.drop 8).take 16) ((l.drop 24).take 16)).cells) (vs 18) W at q18
    change vs 19 = .int .i64 0 at q19
    simp only [putAll, Act.put, List.setIfInBounds_toArray, List.set_cons_zero, List.set_cons_succ, q0, q1, q2, q3, q4, q5, q6, q7, q8, q9, q10, q11, q12, q13, q14, q15, q16, q17, q19]
    clear q0 q1 q2 q3 q4 q5 q6 q7 q8 q9 q10 q11 q12 q13 q14 q15 q16 q17 q19
    clear hR
    have hg := hX.grown
    go_wp2
    refine bodyPost_ret (results_cell2 rfl _ _ w.heap.size _ _ _ rfl q18 Try.underlying44 rfl (size6 _ ⟨HS8.out, HS24.out⟩)) rfl ?_
    exact ⟨rfl, (below_drewN hB1 1).grown hg hB1.size (fun k hk => by injection hk with hk; omega)⟩
theorem rparse6_any (l : List UInt8) (w : World) (hn : l.length ≤ 1099511627776) :
    Calls Try.prog 21 #[str l] w fun e w' => e = .returned (.tuple #[.agg (par6 l).1.cells.toArray, .int .i64 (par6 l).2]) ∧ Below w.heap.size w w' := by
  by_cases h40 : l.length < 40
  · have e : par6 l = (H6.zero, 10) := by unfold par6; rw [if_pos (by omega)]
    rw [e]
    exact rparse6_short l w h40
  · obtain ⟨u6, hu6⟩ := get_ex l (k := 6) (by omega)
    obtain ⟨u7, hu7⟩ := get_ex l (k := 7) (by omega)
    by_cases hv : numF l 0 4 / 268435456 = 6
    · by_cases hL : l.length < numF l 4 2 + 40
      · have e : par6 l = (H6.zero, 13) := by unfold par6; rw [if_neg (by omega), if_neg (by omega), if_pos (by omega)]
        rw [e]
        exact rparse6_len l w hn (by omega) _ _ rfl rfl hv hL
      · have e : par6 l = (⟨(numF l 0 4 / 1048576 % 256 : Nat), (numF l 0 4 % 1048576 : Nat), (numF l 4 2 : Nat), (u6.toNat : Nat), (u7.toNat : Nat), (l.drop 8).take 16, (l.drop 24).take 16⟩, 0) := by
          unfold par6
          rw [if_neg (by omega), if_neg (by omega), if_neg (by omega), List.getD_eq_getElem?_getD, List.getD_eq_getElem?_getD, hu6, hu7]
          rfl
        rw [e]
        exact rparse6_ok l w hn (by omega) _ _ rfl rfl hv (by omega) u6 u7 hu6 hu7
    · have e : par6 l = (H6.zero, 12) := by unfold par6; rw [if_neg (by omega), if_pos hv]
      rw [e]
      exact rparse6_ver l w hn (by omega) _ _ rfl rfl hv
end Go.Proofs.Ytimkgkokidhhpaa

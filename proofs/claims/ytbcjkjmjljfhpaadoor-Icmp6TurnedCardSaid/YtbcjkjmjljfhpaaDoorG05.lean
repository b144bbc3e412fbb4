/- Texts of this claim put together, in build order: each one's own remark stands ahead of it. -/
import Derived.Test.YtbcjkjmjljfhpaaDoorG04
import Derived.Test.YtbcjkjmjljfhpaaDoorG03
import Derived.Test.YtbcjkjmjljfhpaaDoorG01
import Derived.Lib.AppendZeros
/- What the reference's Address and Text of sixteen bytes compute. No condition but sizes. -/
namespace Go.Proofs.YtbcjkjmjljfhpaaDoor
open Go.RowKit
set_option linter.unusedVariables false
set_option maxRecDepth 20000
set_option linter.unusedSimpArgs false

theorem zero24 (w : World) : (zeroValue 26).run Tryd.prog w = .ok (.agg (bv z16).toArray) w := by kernel_rfl
theorem fill_step (l : List UInt8) (k : Nat) (u : UInt8) (hu : l[k]? = some u) (hk : k < 16) : (bv (l.take k ++ z16.drop k)).set k (.int .u8 (u.toNat : Int)) = bv (l.take (k + 1) ++ z16.drop (k + 1)) := by
  have hkl : k < l.length := (List.getElem?_eq_some_iff.1 hu).1
  obtain ⟨z, hz⟩ := get_ex z16 (k := k) hk
  have hd : z16.drop k = z :: z16.drop (k + 1) := by
    obtain ⟨h1, rfl⟩ := List.getElem?_eq_some_iff.1 hz
    exact List.drop_eq_getElem_cons h1
  rw [hd, take_snoc l k u hu]
  simp only [bv, List.map_append, List.map_cons, List.map_nil, List.append_assoc, List.cons_append, List.nil_append]
  exact set_mid _ _ _ _ _ (by simp; omega)

set_option maxHeartbeats 2000000 in
theorem address_any (l : List UInt8) (w : World) (hl : 16 ≤ l.length) (hm : l.length ≤ 1099511627776) :
    Calls Tryd.prog 58 #[str l] w fun e w' => e = .returned (.agg (bv (l.take 16)).toArray) ∧ Below w.heap.size w w' := by
  go_enter Tryd.func58, Tryd.ntmps58
  go_wp2_with (first
    | (refine wpList_alloc_blk rfl 26 rfl (bv z16) zero24 ?_; intro w2 hb2 hB2 hs2; have hb12 := hb1.on hB2; have hB12 := bthen hB1 hB2; rw [hs1] at hb2 hs2; rw [hs1]; clear hb1 hB1 hB2 hs1)
    | (refine wpList_alloc_blk rfl 26 rfl (bv z16) zero24 ?_; intro w1 hb1 hB1 hs1))
  go_loopw [4] (fun i wr => ∃ k : Nat, k ≤ 16 ∧ i = .int .i64 k ∧ Blk wr (w.heap.size + 1) 26 (bv (l.take k ++ z16.drop k)) ∧ Blk wr w.heap.size 26 (bv z16) ∧ Below w.heap.size w wr) (fun i _ => 16 - (intOf i).toNat)
  case atStart => exact ⟨0, by omega, rfl, by simpa using hb2, hb12, hB12⟩
  case round =>
    obtain ⟨k, hk, rfl, hb, hb0, hB⟩ := hrel
    have HB := Lib.hid hb
    have HB0 := Lib.hid hb0
    clear hb hb0 hb2 hb12 hB12
    by_cases hlt : k < 16
    · obtain ⟨u, hu⟩ := get_ex l (k := k) (by omega)
      have hg := ba_get l k u hu
      have HG := Lib.hid hg
      have hF := Lib.hid (fill_step l k u hu hlt)
      have hfr := HB.out.frozen k
      have hkl : k < l.length := by omega
      have hc : (wr.cell? ⟨w.heap.size + 1, k, none⟩).isSome = true := by
        rw [HB.out.cell, List.getElem?_eq_getElem (by simp [bv_length, z16]; omega)]
        rfl
      obtain ⟨y, hy⟩ := Option.isSome_iff_exists.1 hc
      clear hg hu hc
      go_wp2
      rw [HG.out]
      go_roundw
      case rel =>
        refine ⟨k + 1, by omega, by simp, ?_, HB0.out.far (by simp) _, hB.setCell (by simp) _⟩
        rw [← hF.out]
        exact HB.out.set k _
      case measure => simp [intOf]; omega
    · obtain rfl : k = 16 := by omega
      have hb3 := HB.out
      rw [show z16.drop 16 = [] from rfl, List.append_nil] at hb3
      have hl16 : (l.take 16).length = 16 := by rw [List.length_take]; omega
      have HL := Lib.hid hl16
      clear hl16
      go_wp2_with (first
        | (refine wpList_load_blk rfl 26 _ rfl (w.heap.size + 1) rfl 26 _ _ hb3 Tryd.underlying26 rfl (size24 _ HL.out) ?_)
        | (refine wpList_store_all rfl 26 _ _ rfl w.heap.size _ rfl rfl 26 _ HB0.out (size24 _ HL.out) (by rw [bv_length, bv_length, HL.out]; rfl) (bv_one _) ?_; intro w5 hb5 hg5 hs5))
      refine bodyPost_ret (results_cell1 rfl _ _ w.heap.size _ _ _ rfl hb5 Tryd.underlying26 rfl (size24 _ HL.out)) rfl ?_
      exact ⟨rfl, bgrown hB hg5 hB.size (by omega)⟩

set_option maxHeartbeats 2000000 in
theorem text_any (l : List UInt8) (w : World) (hl : l.length = 16) :
    Calls Tryd.prog 26 #[.agg (bv l).toArray] w fun e w' => e = .returned (str l) ∧ Below w.heap.size w w' := by
  go_enter Tryd.func26, Tryd.ntmps26
  go_wp2_with (refine wpList_box_blk rfl 26 _ rfl (bv l) rfl ?_; intro w1 hb1 hB1 hs1)
  go_loopw [3, 4] (fun t i wr => ∃ k : Nat, k ≤ 16 ∧ i = .int .i64 k ∧ t = str (l.take k) ∧ Blk wr w.heap.size 26 (bv l) ∧ Below w.heap.size w wr) (fun _ i _ => 16 - (intOf i).toNat)
  case atStart => exact ⟨0, by omega, rfl, rfl, hb1, hB1⟩
  case round =>
    obtain ⟨k, hk, rfl, rfl, hb, hB⟩ := hrel
    have HB := Lib.hid hb
    clear hb hb1 hB1
    by_cases hlt : k < 16
    · obtain ⟨u, hu⟩ := get_ex l (k := k) (by omega)
      have hcu : wr.cell? ⟨w.heap.size, k, none⟩ = some (.int .u8 (u.toNat : Int)) := by rw [HB.out.cell]; exact bv_get l k u hu
      have HS := Lib.hid (take_snoc l k u hu)
      have hub := byte_le u
      have H5 := Lib.hid (fun W : World => row_lit (e := 5) W #[.int .u8 (u.toNat : Int)] [u] 1 (by simp [bv]) rfl)
      clear hu
      go_wp2_with (refine wpList_str rfl _ 22 9 5 rfl Tryd.underlying22 Tryd.underlying5 Tryd.underlying9 _ _ _ _ [u] rfl (H5.out _) ?_)
      go_roundw
      case rel =>
        refine ⟨k + 1, by omega, by simp, ?_, HB.out.alloc _, hB.alloc hB.size _⟩
        rw [HS.out]
        exact str_cat _ _
      case measure => simp [intOf]; omega
    · obtain rfl : k = 16 := by omega
      have ht : l.take 16 = l := List.take_of_length_le (by omega)
      rw [ht]
      clear ht
      go_wp2
      go_ret
      exact ⟨rfl, hB⟩
end Go.Proofs.YtbcjkjmjljfhpaaDoor

/- What the reference's reading of bytes as a header of IPv6 computes. No condition but sizes. -/
namespace Go.Proofs.YtbcjkjmjljfhpaaDoor
open Go.RowKit
set_option linter.unusedVariables false
set_option maxRecDepth 20000
set_option linter.unusedSimpArgs false

set_option maxHeartbeats 1000000 in
theorem rparse6_short (l : List UInt8) (w : World) (hn : l.length < 40) :
    Calls Tryd.prog 33 #[str l] w fun e w' => e = .returned (.tuple #[.agg H6.zero.cells.toArray, .int .i64 10]) ∧ Below w.heap.size w w' := by
  have hn' : (l.length : Int) < 40 := by omega
  go_enter Tryd.func33, Tryd.ntmps33
  go_wp2_with (first
    | (refine wpList_alloc_blk rfl 58 rfl H6.zero.cells zero6 ?_; intro w1 hb1 hB1 hs1)
    | (refine wpList_value rfl (exec_build6z rfl) ?_)
    | (refine wpList_store_all rfl 58 _ _ rfl w.heap.size H6.zero.cells rfl rfl 58 _ hb1 (size6 _ H6.zero_ok) rfl H6.zero.one ?_; intro w2 hb2 hg2 hs2))
  refine bodyPost_ret (results_cell2 rfl _ _ w.heap.size _ _ _ rfl hb2 Tryd.underlying58 rfl (size6 _ H6.zero_ok)) rfl ?_
  exact ⟨rfl, bgrown hB1 hg2 (by omega) (by omega)⟩

set_option maxHeartbeats 1000000 in
theorem rparse6_ver (l : List UInt8) (w : World) (hn : l.length ≤ 1099511627776) (h40 : 40 ≤ l.length) (F L : Nat) (hF : numF l 0 4 = F) (hL : numF l 4 2 = L) (hv : F / 268435456 ≠ 6) :
    Calls Tryd.prog 33 #[str l] w fun e w' => e = .returned (.tuple #[.agg H6.zero.cells.toArray, .int .i64 12]) ∧ Below w.heap.size w w' := by
  have hn' : ¬ (l.length : Int) < 40 := by omega
  have hFb : F < 256 ^ 4 := by rw [← hF]; exact numF_bd _ _ _
  have hLb : L < 256 ^ 2 := by rw [← hL]; exact numF_bd _ _ _
  have HF := Lib.hid hF
  have HL := Lib.hid hL
  have hv1 : ((F : Int) / 268435456 != 6) = true := by rw [bne_iff_ne]; omega
  clear hv
  clear hF hL
  go_enter Tryd.func33, Tryd.ntmps33
  go_wp2_with (refine wpList_alloc_blk rfl 58 rfl H6.zero.cells zero6 ?_; intro w1 hb1 hB1 hs1)
  refine (rnum6_any 0 4 l _ hn (by omega) (by omega) (by omega)).mono ?_
  rintro e w' ⟨rfl, rfl⟩
  rw [HF.out]
  go_wp2_with (first
    | (refine wpList_value rfl (exec_build6z rfl) ?_)
    | (refine wpList_store_all rfl 58 _ _ rfl w.heap.size H6.zero.cells rfl rfl 58 _ hb1 (size6 _ H6.zero_ok) rfl H6.zero.one ?_; intro w2 hb2 hg2 hs2))
  refine bodyPost_ret (results_cell2 rfl _ _ w.heap.size _ _ _ rfl hb2 Tryd.underlying58 rfl (size6 _ H6.zero_ok)) rfl ?_
  exact ⟨rfl, bgrown hB1 hg2 (by omega) (by omega)⟩

set_option maxHeartbeats 1000000 in
theorem rparse6_len (l : List UInt8) (w : World) (hn : l.length ≤ 1099511627776) (h40 : 40 ≤ l.length) (F L : Nat) (hF : numF l 0 4 = F) (hL : numF l 4 2 = L) (hv : F / 268435456 = 6) (hlt : l.length < L + 40) :
    Calls Tryd.prog 33 #[str l] w fun e w' => e = .returned (.tuple #[.agg H6.zero.cells.toArray, .int .i64 13]) ∧ Below w.heap.size w w' := by
  have hn' : ¬ (l.length : Int) < 40 := by omega
  have hFb : F < 256 ^ 4 := by rw [← hF]; exact numF_bd _ _ _
  have hLb : L < 256 ^ 2 := by rw [← hL]; exact numF_bd _ _ _
  have HF := Lib.hid hF
  have HL := Lib.hid hL
  have hv1 : ((F : Int) / 268435456 != 6) = false := by rw [bne_eq_false_iff_eq]; omega
  have hl1 : (l.length : Int) < (L : Int) + 40 := by omega
  have HV := Lib.hid hv
  clear hv
  clear hF hL
  go_enter Tryd.func33, Tryd.ntmps33
  go_wp2_with (refine wpList_alloc_blk rfl 58 rfl H6.zero.cells zero6 ?_; intro w1 hb1 hB1 hs1)
  refine (rnum6_any 0 4 l _ hn (by omega) (by omega) (by omega)).mono ?_
  rintro e w' ⟨rfl, rfl⟩
  rw [HF.out]
  go_wp2_with fail
  refine (rnum6_any 4 2 l _ hn (by omega) (by omega) (by omega)).mono ?_
  rintro e w' ⟨rfl, rfl⟩
  rw [HL.out]
  go_wp2_with (first
    | (refine wpList_value rfl (exec_build6z rfl) ?_)
    | (refine wpList_store_all rfl 58 _ _ rfl w.heap.size H6.zero.cells rfl rfl 58 _ hb1 (size6 _ H6.zero_ok) rfl H6.zero.one ?_; intro w2 hb2 hg2 hs2))
  refine bodyPost_ret (results_cell2 rfl _ _ w.heap.size _ _ _ rfl hb2 Tryd.underlying58 rfl (size6 _ H6.zero_ok)) rfl ?_
  exact ⟨rfl, bgrown hB1 hg2 (by omega) (by omega)⟩

set_option maxHeartbeats 4000000 in
theorem rparse6_ok (l : List UInt8) (w : World) (hn : l.length ≤ 1099511627776) (h40 : 40 ≤ l.length) (F L : Nat) (hF : numF l 0 4 = F) (hL : numF l 4 2 = L) (hv : F / 268435456 = 6) (hlt : L + 40 ≤ l.length) (u6 u7 : UInt8) (hu6 : l[6]? = some u6) (hu7 : l[7]? = some u7) :
    Calls Tryd.prog 33 #[str l] w fun e w' => e = .returned (.tuple #[.agg (H6.mk (F / 1048576 % 256 : Nat) (F % 1048576 : Nat) (L : Nat) (u6.toNat : Nat) (u7.toNat : Nat) ((l.drop 8).take 16) ((l.drop 24).take 16)).cells.toArray, .int .i64 0]) ∧ Below w.heap.size w w' := by
  have hn' : ¬ (l.length : Int) < 40 := by omega
  have hFb : F < 256 ^ 4 := by rw [← hF]; exact numF_bd _ _ _
  have hLb : L < 256 ^ 2 := by rw [← hL]; exact numF_bd _ _ _
  have HF := Lib.hid hF
  have HL := Lib.hid hL
  have hv1 : ((F : Int) / 268435456 != 6) = false := by rw [bne_eq_false_iff_eq]; omega
  have hl1 : (L : Int) + 40 ≤ (l.length : Int) := by omega
  have i6 : (6 : Int) < (l.length : Int) := by omega
  have i7 : (7 : Int) < (l.length : Int) := by omega
  have i8 : (8 : Int) ≤ (l.length : Int) := by omega
  have i24 : (24 : Int) ≤ (l.length : Int) := by omega
  have HV := Lib.hid hv
  have HG6 := Lib.hid (ba_get l 6 u6 hu6)
  have HG7 := Lib.hid (ba_get l 7 u7 hu7)
  have HD8 := Lib.hid (str_drop l 8)
  have HD24 := Lib.hid (str_drop l 24)
  have HS8 := Lib.hid (show ((l.drop 8).take 16).length = 16 by rw [List.length_take, List.length_drop]; omega)
  have HS24 := Lib.hid (show ((l.drop 24).take 16).length = 16 by rw [List.length_take, List.length_drop]; omega)
  clear hF hL hv hu6 hu7
  go_enter Tryd.func33, Tryd.ntmps33
  go_wp2_with (refine wpList_alloc_blk rfl 58 rfl H6.zero.cells zero6 ?_; intro w1 hb1 hB1 hs1)
  refine (rnum6_any 0 4 l _ hn (by omega) (by omega) (by omega)).mono ?_
  rintro e w' ⟨rfl, rfl⟩
  rw [HF.out]
  go_wp2_with fail
  refine (rnum6_any 4 2 l _ hn (by omega) (by omega) (by omega)).mono ?_
  rintro e w' ⟨rfl, rfl⟩
  rw [HL.out]
  go_wp2_with fail
  refine wp_region_rel (Ext1 w.heap.size 58 (H6.mk (F / 1048576 % 256 : Nat) (F % 1048576 : Nat) (L : Nat) (u6.toNat : Nat) (u7.toNat : Nat) ((l.drop 8).take 16) ((l.drop 24).take 16)).cells) (Ext1.refl w.heap.size 58 (H6.mk (F / 1048576 % 256 : Nat) (F % 1048576 : Nat) (L : Nat) (u6.toNat : Nat) (u7.toNat : Nat) ((l.drop 8).take 16) ((l.drop 24).take 16)).cells) (fun A B C h k => h.trans k) (relAt [fun v _ => v = .int .i64 (F : Int), fun v _ => v = .int .i64 ((F / 1048576 : Nat) : Int), fun v _ => v = .int .i64 ((F / 1048576 % 256 : Nat) : Int), fun v _ => v = .int .u8 ((F / 1048576 % 256 : Nat) : Int), fun v _ => v = .int .i64 (F : Int), fun v _ => v = .int .i64 ((F % 1048576 : Nat) : Int), fun v _ => v = .int .i64 (L : Int), fun v _ => v = str l, fun v _ => v = .int .u8 (u6.toNat : Int), fun v _ => v = str l, fun v _ => v = .int .u8 (u7.toNat : Int), fun v _ => v = str l, fun v _ => v = str (l.drop 8), fun v _ => v = .agg (bv ((l.drop 8).take 16)).toArray, fun v _ => v = str l, fun v _ => v = str (l.drop 24), fun v _ => v = .agg (bv ((l.drop 24).take 16)).toArray, fun v _ => v = .agg (H6.mk (F / 1048576 % 256 : Nat) (F % 1048576 : Nat) (L : Nat) (u6.toNat : Nat) (u7.toNat : Nat) ((l.drop 8).take 16) ((l.drop 24).take 16)).cells.toArray, fun _ W => Blk W w.heap.size 58 (H6.mk (F / 1048576 % 256 : Nat) (F % 1048576 : Nat) (L : Nat) (u6.toNat : Nat) (u7.toNat : Nat) ((l.drop 8).take 16) ((l.drop 24).take 16)).cells, fun v _ => v = .int .i64 0]) (MonoL.at_ (.cons (mono_val _) (.cons (mono_val _) (.cons (mono_val _) (.cons (mono_val _) (.cons (mono_val _) (.cons (mono_val _) (.cons (mono_val _) (.cons (mono_val _) (.cons (mono_val _) (.cons (mono_val _) (.cons (mono_val _) (.cons (mono_val _) (.cons (mono_val _) (.cons (mono_val _) (.cons (mono_val _) (.cons (mono_val _) (.cons (mono_val _) (.cons (mono_val _) (.cons (fun _ A B h hx => hx.stays h) (.cons (mono_val _) .nil))))))))))))))))))))) (by kernel_rfl) (by kernel_rfl) ⟨?_, ?_, ?_, ?_, ?_, ?_, ?_, ?_, ?_, ?_, ?_, ?_, ?_, ?_, ?_, ?_, ?_, ?_, ?_, ?_, trivial⟩ ?_
  · intro a vs W hX hR he hf K hK
    rw [if_pos (wanted_none rfl)]
    have e4 : a.eval (.tmp 4) = .int .i64 (F : Int) := hf 4 (by kernel_rfl)
    refine wp_value (v := .int .i64 (F : Int)) ?_ (hK _ _ rfl (Ext1.refl _ _ _ W))
    simp only [execOp, e4]
    try go_simp
    try (first | rfl | omega | (simp only [IntKind.wrap_i64, IntKind.wrap_u8, IntKind.wrap_u64, IntKind.wrap_u16, IntKind.wrap_u32]; omega) | (rw [Int.tmod_eq_emod_of_nonneg (by omega)]) | (rw [Int.tmod_eq_emod_of_nonneg (by omega)]; omega))
  · intro a vs W hX hR he hf K hK
    rw [if_pos (wanted_none rfl)]
    have e24 : a.eval (.tmp 24) = .int .i64 (F : Int) := (he 0 24 (by kernel_rfl) rfl).trans (hR 0 (by kernel_rfl))
    refine wp_value (v := .int .i64 ((F / 1048576 : Nat) : Int)) ?_ (hK _ _ rfl (Ext1.refl _ _ _ W))
    simp only [execOp, e24]
    try go_simp
    try (first | rfl | omega | (simp only [IntKind.wrap_i64, IntKind.wrap_u8, IntKind.wrap_u64, IntKind.wrap_u16, IntKind.wrap_u32]; omega) | (rw [Int.tmod_eq_emod_of_nonneg (by omega)]) | (rw [Int.tmod_eq_emod_of_nonneg (by omega)]; omega))
  · intro a vs W hX hR he hf K hK
    rw [if_pos (wanted_none rfl)]
    have e25 : a.eval (.tmp 25) = .int .i64 ((F / 1048576 : Nat) : Int) := (he 1 25 (by kernel_rfl) rfl).trans (hR 1 (by kernel_rfl))
    refine wp_value (v := .int .i64 ((F / 1048576 % 256 : Nat) : Int)) ?_ (hK _ _ rfl (Ext1.refl _ _ _ W))
    simp only [execOp, e25]
    try go_simp
    try (first | rfl | omega | (simp only [IntKind.wrap_i64, IntKind.wrap_u8, IntKind.wrap_u64, IntKind.wrap_u16, IntKind.wrap_u32]; omega) | (rw [Int.tmod_eq_emod_of_nonneg (by omega)]) | (rw [Int.tmod_eq_emod_of_nonneg (by omega)]; omega))
  · intro a vs W hX hR he hf K hK
    rw [if_pos (wanted_none rfl)]
    have e26 : a.eval (.tmp 26) = .int .i64 ((F / 1048576 % 256 : Nat) : Int) := (he 2 26 (by kernel_rfl) rfl).trans (hR 2 (by kernel_rfl))
    refine wp_value (v := .int .u8 ((F / 1048576 % 256 : Nat) : Int)) ?_ (hK _ _ rfl (Ext1.refl _ _ _ W))
    simp only [execOp, e26]
    try go_simp
    try (first | rfl | omega | (simp only [IntKind.wrap_i64, IntKind.wrap_u8, IntKind.wrap_u64, IntKind.wrap_u16, IntKind.wrap_u32]; omega) | (rw [Int.tmod_eq_emod_of_nonneg (by omega)]) | (rw [Int.tmod_eq_emod_of_nonneg (by omega)]; omega))
  · intro a vs W hX hR he hf K hK
    rw [if_pos (wanted_none rfl)]
    have e4 : a.eval (.tmp 4) = .int .i64 (F : Int) := hf 4 (by kernel_rfl)
    refine wp_value (v := .int .i64 (F : Int)) ?_ (hK _ _ rfl (Ext1.refl _ _ _ W))
    simp only [execOp, e4]
    try go_simp
    try (first | rfl | omega | (simp only [IntKind.wrap_i64, IntKind.wrap_u8, IntKind.wrap_u64, IntKind.wrap_u16, IntKind.wrap_u32]; omega) | (rw [Int.tmod_eq_emod_of_nonneg (by omega)]) | (rw [Int.tmod_eq_emod_of_nonneg (by omega)]; omega))
  · intro a vs W hX hR he hf K hK
    rw [if_pos (wanted_none rfl)]
    have e28 : a.eval (.tmp 28) = .int .i64 (F : Int) := (he 4 28 (by kernel_rfl) rfl).trans (hR 4 (by kernel_rfl))
    refine wp_value (v := .int .i64 ((F % 1048576 : Nat) : Int)) ?_ (hK _ _ rfl (Ext1.refl _ _ _ W))
    simp only [execOp, e28]
    try go_simp
    try (first | rfl | omega | (simp only [IntKind.wrap_i64, IntKind.wrap_u8, IntKind.wrap_u64, IntKind.wrap_u16, IntKind.wrap_u32]; omega) | (rw [Int.tmod_eq_emod_of_nonneg (by omega)]) | (rw [Int.tmod_eq_emod_of_nonneg (by omega)]; omega))
  · intro a vs W hX hR he hf K hK
    rw [if_pos (wanted_none rfl)]
    have e5 : a.eval (.tmp 5) = .int .i64 (L : Int) := hf 5 (by kernel_rfl)
    refine wp_value (v := .int .i64 (L : Int)) ?_ (hK _ _ rfl (Ext1.refl _ _ _ W))
    simp only [execOp, e5]
    try go_simp
    try (first | rfl | omega | (simp only [IntKind.wrap_i64, IntKind.wrap_u8, IntKind.wrap_u64, IntKind.wrap_u16, IntKind.wrap_u32]; omega) | (rw [Int.tmod_eq_emod_of_nonneg (by omega)]) | (rw [Int.tmod_eq_emod_of_nonneg (by omega)]; omega))
  · intro a vs W hX hR he hf K hK
    rw [if_pos (wanted_none rfl)]
    have e0 : a.eval (.tmp 0) = str l := hf 0 (by kernel_rfl)
    refine wp_value (v := str l) ?_ (hK _ _ rfl (Ext1.refl _ _ _ W))
    simp only [execOp, e0]
    try go_simp
    try (first | rfl | omega | (simp only [IntKind.wrap_i64, IntKind.wrap_u8, IntKind.wrap_u64, IntKind.wrap_u16, IntKind.wrap_u32]; omega) | (rw [Int.tmod_eq_emod_of_nonneg (by omega)]) | (rw [Int.tmod_eq_emod_of_nonneg (by omega)]; omega))
  · intro a vs W hX hR he hf K hK
    rw [if_pos (wanted_none rfl)]
    have e31 : a.eval (.tmp 31) = str l := (he 7 31 (by kernel_rfl) rfl).trans (hR 7 (by kernel_rfl))
    refine wp_value (v := _) ?_ (hK _ _ rfl (Ext1.refl _ _ _ W))
    simp only [execOp, e31]
    go_simp
    rw [HG6.out]
  · intro a vs W hX hR he hf K hK
    rw [if_pos (wanted_none rfl)]
    have e0 : a.eval (.tmp 0) = str l := hf 0 (by kernel_rfl)
    refine wp_value (v := str l) ?_ (hK _ _ rfl (Ext1.refl _ _ _ W))
    simp only [execOp, e0]
    try go_simp
    try (first | rfl | omega | (simp only [IntKind.wrap_i64, IntKind.wrap_u8, IntKind.wrap_u64, IntKind.wrap_u16, IntKind.wrap_u32]; omega) | (rw [Int.tmod_eq_emod_of_nonneg (by omega)]) | (rw [Int.tmod_eq_emod_of_nonneg (by omega)]; omega))
  · intro a vs W hX hR he hf K hK
    rw [if_pos (wanted_none rfl)]
    have e33 : a.eval (.tmp 33) = str l := (he 9 33 (by kernel_rfl) rfl).trans (hR 9 (by kernel_rfl))
    refine wp_value (v := _) ?_ (hK _ _ rfl (Ext1.refl _ _ _ W))
    simp only [execOp, e33]
    go_simp
    rw [HG7.out]
  · intro a vs W hX hR he hf K hK
    rw [if_pos (wanted_none rfl)]
    have e0 : a.eval (.tmp 0) = str l := hf 0 (by kernel_rfl)
    refine wp_value (v := str l) ?_ (hK _ _ rfl (Ext1.refl _ _ _ W))
    simp only [execOp, e0]
    try go_simp
    try (first | rfl | omega | (simp only [IntKind.wrap_i64, IntKind.wrap_u8, IntKind.wrap_u64, IntKind.wrap_u16, IntKind.wrap_u32]; omega) | (rw [Int.tmod_eq_emod_of_nonneg (by omega)]) | (rw [Int.tmod_eq_emod_of_nonneg (by omega)]; omega))
  · intro a vs W hX hR he hf K hK
    rw [if_pos (wanted_none rfl)]
    have e35 : a.eval (.tmp 35) = str l := (he 11 35 (by kernel_rfl) rfl).trans (hR 11 (by kernel_rfl))
    refine wp_value (v := str (l.drop 8)) ?_ (hK _ _ rfl (Ext1.refl _ _ _ W))
    simp only [execOp, e35]
    go_simp
    exact Value.string.inj HD8.out
  · intro a vs W hX hR he hf K hK
    rw [if_pos (wanted_none rfl)]
    have e36 : a.eval (.tmp 36) = str (l.drop 8) := (he 12 36 (by kernel_rfl) rfl).trans (hR 12 (by kernel_rfl))
    refine wp_enter (f := 58) (args := #[str (l.drop 8)]) (by simp only [execOp, e36]; go_simp; simpa [Act.eval] using e36) ((address_any (l.drop 8) W (by rw [List.length_drop]; omega) (by rw [List.length_drop]; omega)).mono ?_)
    rintro e w' ⟨rfl, hb⟩
    exact ⟨_, rfl, hK _ _ rfl (Ext1.below hb)⟩
  · intro a vs W hX hR he hf K hK
    rw [if_pos (wanted_none rfl)]
    have e0 : a.eval (.tmp 0) = str l := hf 0 (by kernel_rfl)
    refine wp_value (v := str l) ?_ (hK _ _ rfl (Ext1.refl _ _ _ W))
    simp only [execOp, e0]
    try go_simp
    try (first | rfl | omega | (simp only [IntKind.wrap_i64, IntKind.wrap_u8, IntKind.wrap_u64, IntKind.wrap_u16, IntKind.wrap_u32]; omega) | (rw [Int.tmod_eq_emod_of_nonneg (by omega)]) | (rw [Int.tmod_eq_emod_of_nonneg (by omega)]; omega))
  · intro a vs W hX hR he hf K hK
    rw [if_pos (wanted_none rfl)]
    have e38 : a.eval (.tmp 38) = str l := (he 14 38 (by kernel_rfl) rfl).trans (hR 14 (by kernel_rfl))
    refine wp_value (v := str (l.drop 24)) ?_ (hK _ _ rfl (Ext1.refl _ _ _ W))
    simp only [execOp, e38]
    go_simp
    exact Value.string.inj HD24.out
  · intro a vs W hX hR he hf K hK
    rw [if_pos (wanted_none rfl)]
    have e39 : a.eval (.tmp 39) = str (l.drop 24) := (he 15 39 (by kernel_rfl) rfl).trans (hR 15 (by kernel_rfl))
    refine wp_enter (f := 58) (args := #[str (l.drop 24)]) (by simp only [execOp, e39]; go_simp; simpa [Act.eval] using e39) ((address_any (l.drop 24) W (by rw [List.length_drop]; omega) (by rw [List.length_drop]; omega)).mono ?_)
    rintro e w' ⟨rfl, hb⟩
    exact ⟨_, rfl, hK _ _ rfl (Ext1.below hb)⟩
  · intro a vs W hX hR he hf K hK
    rw [if_pos (wanted_none rfl)]
    have e27 : a.eval (.tmp 27) = .int .u8 ((F / 1048576 % 256 : Nat) : Int) := (he 3 27 (by kernel_rfl) rfl).trans (hR 3 (by kernel_rfl))
    have e29 : a.eval (.tmp 29) = .int .i64 ((F % 1048576 : Nat) : Int) := (he 5 29 (by kernel_rfl) rfl).trans (hR 5 (by kernel_rfl))
    have e30 : a.eval (.tmp 30) = .int .i64 (L : Int) := (he 6 30 (by kernel_rfl) rfl).trans (hR 6 (by kernel_rfl))
    have e32 : a.eval (.tmp 32) = .int .u8 (u6.toNat : Int) := (he 8 32 (by kernel_rfl) rfl).trans (hR 8 (by kernel_rfl))
    have e34 : a.eval (.tmp 34) = .int .u8 (u7.toNat : Int) := (he 10 34 (by kernel_rfl) rfl).trans (hR 10 (by kernel_rfl))
    have e37 : a.eval (.tmp 37) = .agg (bv ((l.drop 8).take 16)).toArray := (he 13 37 (by kernel_rfl) rfl).trans (hR 13 (by kernel_rfl))
    have e40 : a.eval (.tmp 40) = .agg (bv ((l.drop 24).take 16)).toArray := (he 16 40 (by kernel_rfl) rfl).trans (hR 16 (by kernel_rfl))
    exact wp_value (exec_build6f _ _ _ _ _ _ _ rfl _ _ _ _ _ _ _ HS8.out HS24.out e27 e29 e30 e32 e34 e37 e40) (hK _ _ rfl (Ext1.refl _ _ _ W))
  · intro a vs W hX hR he hf K hK
    rw [if_pos (wanted_none rfl)]
    have e2 : a.eval (.tmp 2) = .pointer (some ⟨w.heap.size, 0, none⟩) := hf 2 (by kernel_rfl)
    have e41 : a.eval (.tmp 41) = .agg (H6.mk (F / 1048576 % 256 : Nat) (F % 1048576 : Nat) (L : Nat) (u6.toNat : Nat) (u7.toNat : Nat) ((l.drop 8).take 16) ((l.drop 24).take 16)).cells.toArray := (he 17 41 (by kernel_rfl) rfl).trans (hR 17 (by kernel_rfl))
    obtain ⟨zs, hz, hbz⟩ := hX.there ⟨_, H6.cells_same _ _ H6.zero_ok ⟨HS8.out, HS24.out⟩, hb1⟩
    refine wp_store_all 58 _ _ rfl w.heap.size _ e2 e41 58 zs hbz (size6 _ ⟨HS8.out, HS24.out⟩) hz.symm (H6.one _) ?_
    intro w' hb' hg' hs'
    exact hK _ _ hb' (Ext1.store hg' hb')
  · intro a vs W hX hR he hf K hK
    rw [if_pos (wanted_none rfl)]
    refine wp_value (v := .int .i64 0) ?_ (hK _ _ rfl (Ext1.refl _ _ _ W))
    simp only [execOp]
    try go_simp
    try (first | rfl | omega | (simp only [IntKind.wrap_i64, IntKind.wrap_u8, IntKind.wrap_u64, IntKind.wrap_u16, IntKind.wrap_u32]; omega) | (rw [Int.tmod_eq_emod_of_nonneg (by omega)]) | (rw [Int.tmod_eq_emod_of_nonneg (by omega)]; omega))
  · intro vs W hX hR
    have q0 := hR 0 (by decide)
    have q1 := hR 1 (by decide)
    have q2 := hR 2 (by decide)
    have q3 := hR 3 (by decide)
    have q4 := hR 4 (by decide)
    have q5 := hR 5 (by decide)
    have q6 := hR 6 (by decide)
    have q7 := hR 7 (by decide)
    have q8 := hR 8 (by decide)
    have q9 := hR 9 (by decide)
    have q10 := hR 10 (by decide)
    have q11 := hR 11 (by decide)
    have q12 := hR 12 (by decide)
    have q13 := hR 13 (by decide)
    have q14 := hR 14 (by decide)
    have q15 := hR 15 (by decide)
    have q16 := hR 16 (by decide)
    have q17 := hR 17 (by decide)
    have q18 := hR 18 (by decide)
    have q19 := hR 19 (by decide)
    change vs 0 = .int .i64 (F : Int) at q0
    change vs 1 = .int .i64 ((F / 1048576 : Nat) : Int) at q1
    change vs 2 = .int .i64 ((F / 1048576 % 256 : Nat) : Int) at q2
    change vs 3 = .int .u8 ((F / 1048576 % 256 : Nat) : Int) at q3
    change vs 4 = .int .i64 (F : Int) at q4
    change vs 5 = .int .i64 ((F % 1048576 : Nat) : Int) at q5
    change vs 6 = .int .i64 (L : Int) at q6
    change vs 7 = str l at q7
    change vs 8 = .int .u8 (u6.toNat : Int) at q8
    change vs 9 = str l at q9
    change vs 10 = .int .u8 (u7.toNat : Int) at q10
    change vs 11 = str l at q11
    change vs 12 = str (l.drop 8) at q12
    change vs 13 = .agg (bv ((l.drop 8).take 16)).toArray at q13
    change vs 14 = str l at q14
    change vs 15 = str (l.drop 24) at q15
    change vs 16 = .agg (bv ((l.drop 24).take 16)).toArray at q16
    change vs 17 = .agg (H6.mk (F / 1048576 % 256 : Nat) (F % 1048576 : Nat) (L : Nat) (u6.toNat : Nat) (u7.toNat : Nat) ((l.drop 8).take 16) ((l.drop 24).take 16)).cells.toArray at q17
    change (fun _ W => Blk W w.heap.size 58 (H6.mk (F / 1048576 % 256 : Nat) (F % 1048576 : Nat) (L : Nat) (u6.toNat : Nat) (u7.toNat : Nat) ((l.drop 8).take 16) ((l.drop 24).take 16)).cells) (vs 18) W at q18
    change vs 19 = .int .i64 0 at q19
    simp only [putAll, Act.put, List.setIfInBounds_toArray, List.set_cons_zero, List.set_cons_succ, q0, q1, q2, q3, q4, q5, q6, q7, q8, q9, q10, q11, q12, q13, q14, q15, q16, q17, q19]
    clear q0 q1 q2 q3 q4 q5 q6 q7 q8 q9 q10 q11 q12 q13 q14 q15 q16 q17 q19
    clear hR
    have hg := hX.grown
    go_wp2
    refine bodyPost_ret (results_cell2 rfl _ _ w.heap.size _ _ _ rfl q18 Tryd.underlying58 rfl (size6 _ ⟨HS8.out, HS24.out⟩)) rfl ?_
    exact ⟨rfl, (below_drewN hB1 1).grown hg hB1.size (fun k hk => by injection hk with hk; omega)⟩
theorem rparse6_any (l : List UInt8) (w : World) (hn : l.length ≤ 1099511627776) :
    Calls Tryd.prog 33 #[str l] w fun e w' => e = .returned (.tuple #[.agg (par6 l).1.cells.toArray, .int .i64 (par6 l).2]) ∧ Below w.heap.size w w' := by
  by_cases h40 : l.length < 40
  · have e : par6 l = (H6.zero, 10) := by unfold par6; rw [if_pos (by omega)]
    rw [e]
    exact rparse6_short l w h40
  · obtain ⟨u6, hu6⟩ := get_ex l (k := 6) (by omega)
    obtain ⟨u7, hu7⟩ := get_ex l (k := 7) (by omega)
    by_cases hv : numF l 0 4 / 268435456 = 6
    · by_cases hL : l.length < numF l 4 2 + 40
      · have e : par6 l = (H6.zero, 13) := by unfold par6; rw [if_neg (by omega), if_neg (by omega), if_pos (by omega)]
        rw [e]
        exact rparse6_len l w hn (by omega) _ _ rfl rfl hv hL
      · have e : par6 l = (⟨(numF l 0 4 / 1048576 % 256 : Nat), (numF l 0 4 % 1048576 : Nat), (numF l 4 2 : Nat), (u6.toNat : Nat), (u7.toNat : Nat), (l.drop 8).take 16, (l.drop 24).take 16⟩, 0) := by
          unfold par6
          rw [if_neg (by omega), if_neg (by omega), if_neg (by omega), List.getD_eq_getElem?_getD, List.getD_eq_getElem?_getD, hu6, hu7]
          rfl
        rw [e]
        exact rparse6_ok l w hn (by omega) _ _ rfl rfl hv (by omega) u6 u7 hu6 hu7
    · have e : par6 l = (H6.zero, 12) := by unfold par6; rw [if_neg (by omega), if_pos hv]
      rw [e]
      exact rparse6_ver l w hn (by omega) _ _ rfl rfl hv
end Go.Proofs.YtbcjkjmjljfhpaaDoor

/- What slices.Grow (of nothing) and slices.Concat compute. No condition but sizes. -/
namespace Go.Proofs.YtbcjkjmjljfhpaaDoor
open Go.RowKit
set_option linter.unusedVariables false
set_option maxRecDepth 20000

theorem info_bytes : (Tryd.prog.info? 5).map (fun i => (i.zero, i.size, i.bytes)) = some (some (.int .u8 0), 1, 1) := by kernel_rfl

set_option maxHeartbeats 400000 in
theorem grow_bytes (m : Int) (w : World) (hm0 : 0 ≤ m) (hm : m ≤ 1099511627776) :
    Calls Tryd.prog 66 #[.slice none 0 0, .int .i64 m] w fun e w' => ∃ A' c', e = .returned (.slice A' 0 c') ∧ Own w' w.heap.size 5 1 A' 0 c' [] ∧ Below w.heap.size w w' := by
  obtain ⟨m, rfl⟩ := Int.eq_ofNat_of_zero_le hm0
  rcases Nat.eq_zero_or_pos m with h0 | h0
  · subst h0
    go_enter Tryd.func66, Tryd.ntmps66
    go_wp2_with fail
    go_ret
    exact ⟨none, 0, rfl, Own.nil _ _ _ _ _, Below.refl _ _⟩
  · obtain ⟨i0, hi0, hz0, hz1, hz2⟩ := info_parts info_bytes
    have hrun := Lib.run_append_nil_zeros (P := Tryd.prog) w 22 3 22 5 i0 _ .i64 .i64 Tryd.underlying22 Tryd.underlying3 hi0 hz0 m h0 (by omega) (by omega) (by rw [hz2]; omega)
    have HR := Lib.hid hrun
    clear hrun
    go_enter Tryd.func66, Tryd.ntmps66
    go_wp2_with (at_builtin; refine Lib.wpList_append_run _ rfl _ _ _ _ rfl _ _ rfl rfl _ _ HR.out ?_)
    go_ret
    refine ⟨_, _, rfl, ?_, ((Below.refl _ _).drew).alloc (Nat.le_refl _) _⟩
    refine ⟨rfl, Nat.zero_le _, grownCap_le_maxLen _ _ _ _ (by simp only [maxLen]; omega), .inr ⟨_, _, rfl, Nat.le_refl _, heap_alloc_new w.drew _, ?_, by simp⟩⟩
    have := grownCap_ge w m 0 5
    simp only [Array.size_append, size_zeroCells, ← Nat.add_mul]
    rw [show m + (grownCap w m 0 5 - m) = grownCap w m 0 5 by omega]
    rfl

set_option maxHeartbeats 1000000 in
theorem concat_bytes (R : Option Addr) (k c : Nat) (rows : List Sl) (w : World) (h : Row w w.heap.size 1 R k (rows.map Sl.v)) (hr : ∀ r ∈ rows, r.ok 1 w) (hk : k ≤ 1099511627776) (ht : lenV rows ≤ 1099511627776) :
    Calls Tryd.prog 45 #[.slice R k c] w fun e w' => ∃ A' c', e = .returned (.slice A' (lenV rows) c') ∧ Own w' w.heap.size 5 1 A' (lenV rows) c' (flatV rows) ∧ Below w.heap.size w w' := by
  have hkl : rows.length = k := by have := h.1; simpa using this
  go_enter Tryd.func45, Tryd.ntmps45
  go_wp2_with fail
  go_loop [3, 11] (fun s j => ∃ i : Nat, i ≤ k ∧ j = .int .i64 i ∧ s = .int .i64 (lenV (rows.take i) : Nat)) (fun _ j => k - (intOf j).toNat)
  case atStart => exact ⟨0, Nat.zero_le _, rfl, rfl⟩
  case round =>
    obtain ⟨i, hi, rfl, rfl⟩ := hrel
    by_cases hlt : i < k
    · obtain ⟨r, hri⟩ := get_ex rows (k := i) (by omega)
      obtain ⟨b, o, rfl, hbB, hcell⟩ := h.2 (by omega)
      have hcr := hcell i r.v (by simp [hri])
      unfold Sl.v at hcr
      have hn := lenV_take_le rows (i + 1)
      have HS := Lib.hid (take_snoc rows i r hri)
      rw [HS.out, lenV_snoc] at hn
      have HL := Lib.hid hkl
      clear hcell hri hr hkl
      generalize hd : lenV (rows.take i) = done at hn ⊢
      have HD := Lib.hid hd
      clear hd
      obtain ⟨rA, rn, rc, rl⟩ := r
      simp only at hcr hn HS
      go_wp2_with fail
      go_round
      case rel => exact ⟨i + 1, by omega, by go_num, by rw [HS.out, lenV_snoc, HD.out]; go_num⟩
      case measure => simp [intOf]; omega
    · have : i = k := by omega
      subst this
      have htk : rows.take i = rows := List.take_of_length_le (by omega)
      rw [htk]
      generalize hL : lenV rows = tot at ht ⊢
      have HL := Lib.hid hL
      have HK := Lib.hid hkl
      clear htk hkl hL
      go_wp2_with fail
      refine (grow_bytes _ _ (by omega) (by omega)).mono ?_
      rintro e w1 ⟨A', c', rfl, hown, hb⟩
      clear hlt
      go_wp2_with fail
      go_loopw [6, 27] (fun s j wr => ∃ (m : Nat) (A2 : Option Addr) (c2 : Nat), m ≤ i ∧ j = .int .i64 m ∧ s = .slice A2 (lenV (rows.take m)) c2 ∧ Own wr w.heap.size 5 1 A2 (lenV (rows.take m)) c2 (flatV (rows.take m)) ∧ Below w.heap.size w wr) (fun _ j _ => i - (intOf j).toNat)
      case atStart => exact ⟨0, A', c', Nat.zero_le _, rfl, rfl, hown, hb⟩
      case round =>
        obtain ⟨m, A2, c2, hm, rfl, rfl, hown2, hb2⟩ := hrel
        clear hown hb
        by_cases hlt : m < i
        · obtain ⟨r, hri⟩ := get_ex rows (k := m) (by have := HK.out; omega)
          have hrok := hr r (List.mem_of_getElem? hri)
          obtain ⟨b, o, rfl, hbB, hcell⟩ := h.2 (by omega)
          have hcr := (hb2.cell (p := ⟨b, o + m, none⟩) hbB).trans (hcell m r.v (by simp [hri]))
          unfold Sl.v at hcr
          have hn := lenV_take_le rows (m + 1)
          have HS := Lib.hid (take_snoc rows m r hri)
          rw [HS.out, lenV_snoc, HL.out] at hn
          clear hcell hri hr
          have hrow := hrok.row.below hb2
          have hone := hrok.one
          generalize hd : lenV (rows.take m) = done at hn hown2 ⊢
          have HD := Lib.hid hd
          clear hd hrok
          obtain ⟨rA, rn, rc, rl⟩ := r
          simp only at hcr hn HS hrow hone
          have HO := Lib.hid hown2
          have HR := Lib.hid hrow
          have H1 := Lib.hid hone
          clear hown2 hrow hone h
          go_wp2_with (at_builtin; refine wpList_append_Own _ rfl _ _ 22 rfl w.heap.size 5 _ 1 1 Tryd.underlying22 info_bytes rfl (by decide) _ _ _ _ rfl HO.out w.heap.size _ _ _ rl rfl HR.out H1.out (by simp only [maxLen]; omega) (by omega) hb2.size ?_; intro A3 c3 w3 hown3 hg3 _)
          have hb3 := hb2.grown hg3 hb2.size (fun g hg => (HO.out.lt g hg).1)
          go_roundw
          case rel =>
            refine ⟨m + 1, A3, c3, by omega, by go_num, ?_, ?_, hb3⟩
            · rw [HS.out, lenV_snoc, HD.out]
            · rw [HS.out, lenV_snoc, HD.out, flatV_snoc]; exact hown3
          case measure => simp [intOf]; omega
        · have : m = i := by omega
          subst this
          rw [List.take_of_length_le (by have := HK.out; omega), HL.out] at hown2
          rw [List.take_of_length_le (by have := HK.out; omega), HL.out]
          clear h hr
          go_wp2_with fail
          go_ret
          exact ⟨A2, c2, by rw [HL.out]; rfl, by rw [HL.out]; exact hown2, hb2⟩

theorem info_entries : (Tryd.prog.info? 49).map (fun i => (i.zero, i.size, i.bytes)) = some (some (.agg #[.int .i64 0, .int .u8 0, .bool false, .int .u8 0]), 4, 16) := by kernel_rfl

theorem concat_lit (cs : Array Value) (rows : List Bs) (k k' : Nat) (w : World) (hcs : cs.toList = rows.map Bs.v) (hk : rows.length = k) (hk2 : k ≤ 1099511627776) (hr : ∀ r ∈ rows, r.ok w) (ht : (flat rows).length ≤ 1099511627776) (g : Nat) (hg : w.heap.size = g) :
    Calls Tryd.prog 45 #[.slice (some ⟨g, 0, none⟩) k k'] (w.alloc (.cells cs 22)) fun e w' => ∃ A' c', e = .returned (.slice A' (flat rows).length c') ∧ Own w' w.heap.size 5 1 A' (flat rows).length c' (bv (flat rows)) ∧ Below w.heap.size w w' := by
  subst hg
  have hsz : cs.size = k * 1 := by rw [← Array.length_toList, hcs]; simpa using hk
  have hrow := Row.new (e := 22) w cs hsz
  have hb : Below w.heap.size w (w.alloc (.cells cs 22)) := (Below.refl _ _).alloc (Nat.le_refl _) _
  have hl := lenV_bs rows hr
  rw [hcs, ← vs_bs] at hrow
  refine (concat_bytes _ k k' (rows.map Bs.sl) _ (by simpa using hrow) (fun r hx => ?_) hk2 (by rw [hl]; exact ht)).mono ?_
  · obtain ⟨x, hx2, rfl⟩ := List.mem_map.1 hx
    exact ((hr x hx2).sl).below hb
  · rintro e w' ⟨A', c', rfl, hown, hb'⟩
    rw [hl, flatV_bs] at hown
    rw [hl]
    exact ⟨A', c', rfl, hown.mono (by simp), hb.trans (hb'.mono (by simp))⟩

end Go.Proofs.YtbcjkjmjljfhpaaDoor

/- What the program's and the reference's Body, Ttl and Put of IPv6 compute. No condition but sizes. -/
namespace Go.Proofs.YtbcjkjmjljfhpaaDoor
open Go.RowKit
set_option linter.unusedVariables false
set_option maxRecDepth 20000
set_option linter.unusedSimpArgs false

/-- what stands behind the header -/
def body6 (l : List UInt8) : List UInt8 := if (par6 l).2 = 0 then (l.drop 40).take (par6 l).1.len.toNat else []
theorem par6_fit (l : List UInt8) (h6 : H6) (hp : par6 l = (h6, 0)) : 0 ≤ h6.len ∧ 40 + h6.len ≤ l.length ∧ 40 ≤ l.length := by
  unfold par6 at hp
  split at hp
  · injection hp with _ h; cases h
  split at hp
  · injection hp with _ h; cases h
  split at hp
  · injection hp with _ h; cases h
  rename_i h1 h2 h3
  injection hp with h _
  subst h
  simp only
  omega

set_option maxHeartbeats 1000000 in
theorem body6_any (A : Option Addr) (n c : Nat) (l : List UInt8) (w : World) (h : Row w w.heap.size 1 A n (bv l)) (hc : n ≤ c) (hcm : c ≤ maxLen) (hn : n ≤ 1099511627776) :
    Calls Tryd.prog 40 #[.slice A n c] w fun e w' => ∃ r : Bs, e = .returned r.v ∧ r.l = body6 l ∧ r.ok w' ∧ Below w.heap.size w w' := by
  have hll : l.length = n := by have := h.1; rw [bv_length] at this; omega
  have P := parse6_any A n c l w h hc hcm hn
  have hok := par6_ok l
  unfold body6
  cases hp : par6 l with
  | mk h6 er =>
  rw [hp] at P hok
  simp only at P hok ⊢
  have HP := Lib.hid P
  have HOK := Lib.hid hok
  have HPP := Lib.hid hp
  have HH := Lib.hid h
  have HLL := Lib.hid hll
  clear P hok hp h hll
  by_cases he : er = 0
  · subst he
    obtain ⟨f0, f1, f2⟩ := par6_fit l h6 HPP.out
    rw [HLL.out] at f1 f2
    go_enter Tryd.func40, Tryd.ntmps40
    go_wp2_with fail
    refine HP.out.mono ?_
    rintro e w1 ⟨rfl, hb1⟩
    go_wp2_with (first
      | (refine wpList_alloc_blk rfl 58 rfl H6.zero.cells zero6 ?_; intro w2 hb2 hB2 hs2)
      | (refine wpList_store_all rfl 58 _ _ rfl w1.heap.size h6.cells rfl rfl 58 _ hb2 (size6 _ HOK.out) (H6.cells_same _ _ HOK.out H6.zero_ok) (H6.one _) ?_; intro w3 hb3 hg3 hs3; have hB3 : Below w1.heap.size w1 w3 := bgrown hB2 hg3 (by omega) (by omega); have hlen3 : w3.cell? ⟨w1.heap.size, 2, none⟩ = some (.int .i64 h6.len) := hb3.cell 2))
    have hB4 := bthen hb1 hB3
    refine (cut_yes A n c l 40 h6.len w3 ((HH.out.below hB4).more hB4.size) hc hcm hn (by omega) f0 (by omega)).mono ?_
    rintro e w4 ⟨A', c', rfl, hown, hb4⟩
    have HO := Lib.hid hown
    clear hown hlen3
    go_wp2_with fail
    go_ret
    exact ⟨⟨A', h6.len.toNat, c', _⟩, rfl, rfl, HO.out.ok, bthen hB4 hb4⟩
  · have hne : (er != 0) = true := by simpa using he
    rw [if_neg he]
    clear he
    go_enter Tryd.func40, Tryd.ntmps40
    go_wp2_with fail
    refine HP.out.mono ?_
    rintro e w1 ⟨rfl, hb1⟩
    go_wp2_with (first
      | (refine wpList_alloc_blk rfl 58 rfl H6.zero.cells zero6 ?_; intro w2 hb2 hB2 hs2)
      | (refine wpList_store_all rfl 58 _ _ rfl w1.heap.size h6.cells rfl rfl 58 _ hb2 (size6 _ HOK.out) (H6.cells_same _ _ HOK.out H6.zero_ok) (H6.one _) ?_; intro w3 hb3 hg3 hs3; have hB3 : Below w1.heap.size w1 w3 := bgrown hB2 hg3 (by omega) (by omega)))
    go_ret
    exact ⟨⟨none, 0, 0, []⟩, rfl, rfl, ok_nil _, bthen hb1 hB3⟩

set_option maxHeartbeats 1000000 in
theorem rbody6_any (l : List UInt8) (w : World) (hn : l.length ≤ 1099511627776) :
    Calls Tryd.prog 34 #[str l] w fun e w' => e = .returned (str (body6 l)) ∧ Below w.heap.size w w' := by
  have P := rparse6_any l w hn
  have hok := par6_ok l
  unfold body6
  cases hp : par6 l with
  | mk h6 er =>
  rw [hp] at P hok
  simp only at P hok ⊢
  have HP := Lib.hid P
  have HOK := Lib.hid hok
  have HPP := Lib.hid hp
  clear P hok hp
  by_cases he : er = 0
  · subst he
    obtain ⟨f0, f1, f2⟩ := par6_fit l h6 HPP.out
    have hx : Value.string ((ByteArray.mk l.toArray).extract 40 (40 + h6.len).toNat) = str ((l.drop 40).take h6.len.toNat) := by
      rw [str_ex]
      unfold str
      congr 3
      rw [List.drop_take]
      congr 1
      omega
    have HX := Lib.hid hx
    have g1 : (40 : Int) ≤ 40 + h6.len := by omega
    have g2 : (40 : Int) + h6.len ≤ 9223372036854775807 := by omega
    clear hx
    go_enter Tryd.func34, Tryd.ntmps34
    go_wp2_with fail
    refine HP.out.mono ?_
    rintro e w1 ⟨rfl, hb1⟩
    go_wp2_with (first
      | (refine wpList_alloc_blk rfl 58 rfl H6.zero.cells zero6 ?_; intro w2 hb2 hB2 hs2)
      | (refine wpList_store_all rfl 58 _ _ rfl w1.heap.size h6.cells rfl rfl 58 _ hb2 (size6 _ HOK.out) (H6.cells_same _ _ HOK.out H6.zero_ok) (H6.one _) ?_; intro w3 hb3 hg3 hs3; have hB3 : Below w1.heap.size w1 w3 := bgrown hB2 hg3 (by omega) (by omega); have hlen3 : w3.cell? ⟨w1.heap.size, 2, none⟩ = some (.int .i64 h6.len) := hb3.cell 2))
    go_ret
    exact ⟨by rw [← HX.out]; rfl, bthen hb1 hB3⟩
  · have hne : (er != 0) = true := by simpa using he
    rw [if_neg he]
    clear he
    go_enter Tryd.func34, Tryd.ntmps34
    go_wp2_with fail
    refine HP.out.mono ?_
    rintro e w1 ⟨rfl, hb1⟩
    go_wp2_with (first
      | (refine wpList_alloc_blk rfl 58 rfl H6.zero.cells zero6 ?_; intro w2 hb2 hB2 hs2)
      | (refine wpList_store_all rfl 58 _ _ rfl w1.heap.size h6.cells rfl rfl 58 _ hb2 (size6 _ HOK.out) (H6.cells_same _ _ HOK.out H6.zero_ok) (H6.one _) ?_; intro w3 hb3 hg3 hs3; have hB3 : Below w1.heap.size w1 w3 := bgrown hB2 hg3 (by omega) (by omega)))
    go_ret
    exact ⟨rfl, bthen hb1 hB3⟩

/-- a packet with another time to live -/
def ttl6 (l : List UInt8) (t : Int) : List UInt8 := if (par6 l).2 = 0 then l.take 7 ++ UInt8.ofNat t.toNat :: l.drop 8 else []
end Go.Proofs.YtbcjkjmjljfhpaaDoor


/- Texts of this claim put together, in build order: each one's own remark stands ahead of it. -/
import Derived.Test.YtbcjkjmjljfhpaaDoorG05
/- What the program's and the reference's Put of IPv6 compute. No condition but sizes. -/
namespace Go.Proofs.YtbcjkjmjljfhpaaDoor
open Go.RowKit
set_option linter.unusedVariables false
set_option maxRecDepth 20000
set_option linter.unusedSimpArgs false

/-- a header's numbers are those of its fields' kinds -/
structure H6.fit (h : H6) : Prop where
  ok : h.ok
  cls : 0 ≤ h.cls ∧ h.cls ≤ 255
  flow : -9223372036854775808 ≤ h.flow ∧ h.flow ≤ 9223372036854775807
  len : -9223372036854775808 ≤ h.len ∧ h.len ≤ 9223372036854775807
  next : 0 ≤ h.next ∧ h.next ≤ 255
  ttl : 0 ≤ h.ttl ∧ h.ttl ≤ 255
/-- the front of a header -/
def front6 (h : H6) (n : Nat) : List UInt8 := toBe 4 (1610612736 + h.cls * 1048576 + h.flow).toNat ++ toBe 2 n ++ [ub h.next, ub h.ttl]
/-- a packet, and its error -/
def put6 (h : H6) (l : List UInt8) : List UInt8 × Int :=
  if h.flow < 0 ∨ 1048576 ≤ h.flow then ([], 1) else if 65495 < l.length then ([], 13) else (front6 h l.length ++ h.src ++ h.dst ++ l, 0)

theorem or6 (c f : Int) (c0 : 0 ≤ c) (c1 : c ≤ 255) (f0 : 0 ≤ f) (f1 : f < 1048576) :
    bits .or .u64 1610612736 (c * 1048576) = 1610612736 + c * 1048576 ∧ bits .or .u64 (1610612736 + c * 1048576) f = 1610612736 + c * 1048576 + f := by
  obtain ⟨c, rfl⟩ := Int.eq_ofNat_of_zero_le c0
  obtain ⟨f, rfl⟩ := Int.eq_ofNat_of_zero_le f0
  refine ⟨?_, ?_⟩
  · rw [show (1610612736 : Int) = ((6 * 268435456 : Nat) : Int) by omega, show ((c : Int) * 1048576) = ((c * 1048576 : Nat) : Int) by omega, u64_or_nat _ _ (by omega) (by omega), nat_join 28 _ _ (by omega) (by omega)]
    omega
  · rw [show (1610612736 + (c : Int) * 1048576) = (((1536 + c) * 1048576 : Nat) : Int) by omega, u64_or_nat _ _ (by omega) (by omega), nat_join 20 _ _ (by omega) (by omega)]
    omega
theorem make8 (W : World) : (Instr.makeSlice 22 (.int .i64 8) (.int .i64 8)).run Tryd.prog W = .ok (.slice (some ⟨W.heap.size, 0, none⟩) 8 8) (W.alloc (.cells (bv [0, 0, 0, 0, 0, 0, 0, 0]).toArray 5)) := by kernel_rfl

set_option maxHeartbeats 1000000 in
theorem put6_arg (h : H6) (hf : h.fit) (A : Option Addr) (n c : Nat) (w : World) (hx : h.flow < 0 ∨ 1048576 ≤ h.flow) :
    Calls Tryd.prog 21 #[.agg h.cells.toArray, .slice A n c] w fun e w' => e = .returned (.tuple #[.slice none 0 0, .int .i64 1]) ∧ Below w.heap.size w w' := by
  have HF := Lib.hid hf.ok
  rcases hx with hx | hx
  · go_enter Tryd.func21, Tryd.ntmps21
    go_wp2_with (refine wpList_box_blk rfl 58 _ rfl h.cells rfl ?_; intro w1 hb1 hB1 hs1; have c1 : w1.cell? ⟨w.heap.size, 1, none⟩ = some (.int .i64 h.flow) := hb1.cell 1)
    go_ret2
    exact ⟨rfl, hB1⟩
  · have hx0 : ¬ h.flow < 0 := by omega
    go_enter Tryd.func21, Tryd.ntmps21
    go_wp2_with (refine wpList_box_blk rfl 58 _ rfl h.cells rfl ?_; intro w1 hb1 hB1 hs1; have c1 : w1.cell? ⟨w.heap.size, 1, none⟩ = some (.int .i64 h.flow) := hb1.cell 1)
    go_ret2
    exact ⟨rfl, hB1⟩

set_option maxHeartbeats 1000000 in
theorem put6_len (h : H6) (hf : h.fit) (A : Option Addr) (n c : Nat) (w : World) (hx0 : 0 ≤ h.flow) (hx1 : h.flow < 1048576) (hl : 65495 < n) :
    Calls Tryd.prog 21 #[.agg h.cells.toArray, .slice A n c] w fun e w' => e = .returned (.tuple #[.slice none 0 0, .int .i64 13]) ∧ Below w.heap.size w w' := by
  have hl' : (65495 : Int) < n := by omega
  go_enter Tryd.func21, Tryd.ntmps21
  go_wp2_with (refine wpList_box_blk rfl 58 _ rfl h.cells rfl ?_; intro w1 hb1 hB1 hs1; have c1 : w1.cell? ⟨w.heap.size, 1, none⟩ = some (.int .i64 h.flow) := hb1.cell 1)
  go_ret2
  exact ⟨rfl, hB1⟩

theorem set2_bv (l : List UInt8) (x y : Int) (h : l.length = 8) (x0 : 0 ≤ x) (x1 : x ≤ 255) (y0 : 0 ≤ y) (y1 : y ≤ 255) : ((bv l).set 6 (.int .u8 x)).set 7 (.int .u8 y) = bv (l.take 6 ++ [ub x, ub y]) := by
  rw [set_bv l 6 x x0 x1 (by omega), set_bv _ 7 y y0 y1 (by simp; omega)]
  congr 1
  have h7 : (l.take 6 ++ UInt8.ofNat x.toNat :: l.drop 7) = l.take 6 ++ [UInt8.ofNat x.toNat] ++ l.drop 7 := by simp
  rw [h7, List.take_left' (by simp; omega), List.drop_of_length_le (by simp; omega)]
  simp [ub]

set_option maxHeartbeats 1000000 in
theorem put6_ok (h : H6) (hf : h.fit) (A : Option Addr) (n c : Nat) (l : List UInt8) (w : World) (hr : Row w w.heap.size 1 A n (bv l)) (hc : n ≤ c) (hcm : c ≤ maxLen) (hx0 : 0 ≤ h.flow) (hx1 : h.flow < 1048576) (hl : n ≤ 65495) :
    Calls Tryd.prog 21 #[.agg h.cells.toArray, .slice A n c] w fun e w' => ∃ r : Bs, e = .returned (.tuple #[r.v, .int .i64 0]) ∧ r.l = front6 h n ++ h.src ++ h.dst ++ l ∧ r.ok w' ∧ Below w.heap.size w w' := by
  have hll : l.length = n := by have := hr.1; rw [bv_length] at this; omega
  obtain ⟨o1, o2⟩ := or6 h.cls h.flow hf.cls.1 hf.cls.2 hx0 hx1
  have k0 := hf.cls.1
  have k1 := hf.cls.2
  have n0 := hf.next.1
  have n1 := hf.next.2
  have t0 := hf.ttl.1
  have t1 := hf.ttl.2
  have hw1 : IntKind.u64.wrap h.flow = h.flow := wrap64_id h.flow (by omega) (by omega)
  have hw2 : IntKind.u64.wrap (n : Int) = (n : Int) := wrap64_id (n : Int) (by omega) (by omega)
  have hl' : ¬ (65495 : Int) < n := by omega
  have HT := Lib.hid (show (front6 h n ++ h.src ++ h.dst ++ l).length ≤ 1099511627776 by
    simp only [List.length_append, front6, toBe_length, List.length_cons, List.length_nil, hf.ok.src, hf.ok.dst]; omega)
  have HR := Lib.hid hr
  have HLL := Lib.hid hll
  have HF := Lib.hid hf
  have hmk := make8
  have HM := Lib.hid hmk
  obtain ⟨Nv, hNv⟩ : ∃ Nv, Nv = 1610612736 + h.cls * 1048576 + h.flow := ⟨_, rfl⟩
  rw [← hNv] at o2
  have N0 : 0 ≤ Nv := by omega
  have N1 : Nv < 4294967296 := by omega
  have HN := Lib.hid hNv
  clear hNv
  clear hr hll hf hmk
  go_enter Tryd.func21, Tryd.ntmps21
  go_wp2_with (first
    | (refine wpList_box_blk rfl 58 _ rfl h.cells rfl ?_; intro w1 hb1 hB1 hs1; have c0 : w1.cell? ⟨w.heap.size, 0, none⟩ = some (.int .u8 h.cls) := hb1.cell 0; have c1 : w1.cell? ⟨w.heap.size, 1, none⟩ = some (.int .i64 h.flow) := hb1.cell 1; have hmk := HM.out w1)
    | fail)
  have hrow2 : Row (w1.alloc (.cells (bv [0, 0, 0, 0, 0, 0, 0, 0]).toArray 5)) (w1.alloc (.cells (bv [0, 0, 0, 0, 0, 0, 0, 0]).toArray 5)).heap.size 1 (some ⟨w.heap.size + 1, 0, none⟩) 8 (bv [0, 0, 0, 0, 0, 0, 0, 0]) := by
    rw [World.size_alloc, ← hs1]
    exact row_lit w1 (bv [0, 0, 0, 0, 0, 0, 0, 0]).toArray [0, 0, 0, 0, 0, 0, 0, 0] 8 rfl rfl
  refine (put_yes _ 8 8 [0, 0, 0, 0, 0, 0, 0, 0] 0 4 _ _ hrow2 (by omega) (show (8 : Nat) ≤ maxLen by simp [maxLen]) (by omega) (by omega) (by omega) (by omega) (by omega) N0 (by rw [show ((256 : Int) ^ (4 : Int).toNat) = 4294967296 from rfl]; exact N1)).mono ?_
  rintro e w3 ⟨A3, c3, rfl, hown3, hb3⟩
  have e3 : ([0, 0, 0, 0, 0, 0, 0, 0] : List UInt8).take (0 : Int).toNat ++ toBe (4 : Int).toNat Nv.toNat ++ ([0, 0, 0, 0, 0, 0, 0, 0] : List UInt8).drop ((0 : Int).toNat + (4 : Int).toNat) = toBe 4 Nv.toNat ++ [0, 0, 0, 0] := by simp
  rw [e3] at hown3
  have hB3 : Below w.heap.size w w3 := bthen hB1 (ballocd hb3)
  have hbx3 := (hb1.alloc (.cells (bv [0, 0, 0, 0, 0, 0, 0, 0]).toArray 5)).on hb3
  have HO3 := Lib.hid hown3
  clear hown3 hb3 hrow2 e3 c0 c1 hmk
  go_wp2_with fail
  refine (put_yes _ 8 c3 _ 4 2 n w3 HO3.out.row HO3.out.le HO3.out.cap (by omega) (by omega) (by omega) (by omega) (by omega) (by omega) (by rw [show ((256 : Int) ^ (2 : Int).toNat) = 65536 from rfl]; omega)).mono ?_
  rintro e w4 ⟨A4, c4, rfl, hown4, hb4⟩
  have hT4 : (toBe 4 Nv.toNat).length = 4 := toBe_length _ _
  have e4 : (toBe 4 Nv.toNat ++ [0, 0, 0, 0]).take (4 : Int).toNat ++ toBe (2 : Int).toNat ((n : Int)).toNat ++ (toBe 4 Nv.toNat ++ [0, 0, 0, 0]).drop ((4 : Int).toNat + (2 : Int).toNat) = toBe 4 Nv.toNat ++ toBe 2 n ++ [0, 0] := by
    rw [Int.toNat_natCast, show (4 : Int).toNat = 4 from rfl, show (2 : Int).toNat = 2 from rfl, List.take_left' hT4, show (4 + 2 : Nat) = 4 + 2 from rfl, ← List.drop_drop, List.drop_left' hT4]
    rfl
  rw [e4] at hown4
  have hB4 := bthen hB3 hb4
  have hbx4 := hbx3.on hb4
  obtain ⟨g5, rfl, hg5, hg5', hcl, hfr⟩ := hown4.open_ (by omega)
  have hl8 : (toBe 4 Nv.toNat ++ toBe 2 n ++ [0, 0]).length = 8 := by simp [toBe_length]
  have HL8 := Lib.hid hl8
  obtain ⟨u6, hu6⟩ := get_ex (toBe 4 Nv.toNat ++ toBe 2 n ++ [0, 0]) (k := 6) (by omega)
  obtain ⟨u7, hu7⟩ := get_ex (toBe 4 Nv.toNat ++ toBe 2 n ++ [0, 0]) (k := 7) (by omega)
  have hc6 := hcl 6 _ (bv_get _ 6 u6 hu6)
  have hc7 := hcl 7 _ (bv_get _ 7 u7 hu7)
  have hf6 := hfr 6
  have hf7 := hfr 7
  have hne : w.heap.size ≠ g5 := by have := hB3.size; have := hb1.lt; have := hbx3.lt; omega
  have c3' : w4.cell? ⟨w.heap.size, 3, none⟩ = some (.int .u8 h.next) := hbx4.cell 3
  have c4' : w4.cell? ⟨w.heap.size, 4, none⟩ = some (.int .u8 h.ttl) := hbx4.cell 4
  have HO4 := Lib.hid hown4
  have HX4 := Lib.hid hbx4
  clear hown4 hbx4 hbx3 hb4 e4 hT4 hl8 hcl hfr hu6 hu7
  go_wp2_with fail
  obtain ⟨w5, hw5⟩ : ∃ w5, w5 = (w4.setCell ⟨g5, 6, none⟩ (.int .u8 h.next)).setCell ⟨g5, 7, none⟩ (.int .u8 h.ttl) := ⟨_, rfl⟩
  rw [← hw5]
  have ho5 : Own w5 w3.heap.size 5 1 (some ⟨g5, 0, none⟩) 8 c4 (bv (front6 h n)) := by
    have h6 := (HO4.out.set (j := 6) (by omega) (.int .u8 h.next)).set (j := 7) (by omega) (.int .u8 h.ttl)
    rw [set2_bv _ _ _ HL8.out n0 n1 t0 t1, ← hw5] at h6
    have e6 : (toBe 4 Nv.toNat ++ toBe 2 n ++ [0, 0]).take 6 ++ [ub h.next, ub h.ttl] = front6 h n := by
      unfold front6
      rw [← HN.out]
      rw [List.take_left' (by simp [toBe_length])]
    rw [e6] at h6
    exact h6
  have hx5 : Blk w5 w.heap.size 58 h.cells := by
    rw [hw5]
    exact (HX4.out.far (p := ⟨g5, 6, none⟩) hne _).far (p := ⟨g5, 7, none⟩) hne _
  have hB5 : Below w.heap.size w w5 := by
    rw [hw5]
    exact (hB4.setCell (show w.heap.size ≤ g5 by have := hB3.size; omega) _).setCell (show w.heap.size ≤ g5 by have := hB3.size; omega) _
  have HO5 := Lib.hid ho5.ok
  have HS5 : Hid ((Bs.mk (some ⟨w.heap.size, 5, none⟩) 16 16 h.src).ok w5) := by
    have := hx5.row 1 5 16 (by rw [h.cells_length HF.out.ok]; omega)
    rw [show 16 * 1 = 16 from rfl, h.drop_src HF.out.ok] at this
    exact Lib.hid ⟨this, Nat.le_refl _, by simp [maxLen]⟩
  have HD5 : Hid ((Bs.mk (some ⟨w.heap.size, 21, none⟩) 16 16 h.dst).ok w5) := by
    have := hx5.row 1 21 16 (by rw [h.cells_length HF.out.ok]; omega)
    rw [show 16 * 1 = 16 from rfl, h.drop_dst HF.out.ok] at this
    exact Lib.hid ⟨this, Nat.le_refl _, by simp [maxLen]⟩
  have HL5 : Hid ((Bs.mk A n c l).ok w5) := Lib.hid ⟨(HR.out.below hB5).more hB5.size, hc, hcm⟩
  have HB5 := Lib.hid hB5
  obtain ⟨c5, rfl⟩ : ∃ c5, c5 = c4 := ⟨_, rfl⟩
  clear hw5 ho5 hx5 hB5 hc6 hc7 hf6 hf7 c3' c4' HO4 HX4 HO3 hB4 hB3 hb1 hB1 hs1
  refine wp_region_rel (fun A B => A.grownBy B none) (fun A => grown_refl A _) (fun A B C h k => grown_trans h k) (relAt [fun v _ => v = .slice (some ⟨g5, 0, none⟩) 8 c5, fun v _ => v = .pointer (some ⟨w.heap.size, 5, none⟩), fun v _ => v = .slice (some ⟨w.heap.size, 5, none⟩) 16 16, fun v _ => v = .pointer (some ⟨w.heap.size, 21, none⟩), fun v _ => v = .slice (some ⟨w.heap.size, 21, none⟩) 16 16, fun v _ => v = .slice A n c, RowsR [front6 h n, h.src, h.dst, l], BsR (front6 h n ++ h.src ++ h.dst ++ l), BsR (front6 h n ++ h.src ++ h.dst ++ l), fun v _ => v = .int .i64 0]) (MonoL.at_ (.cons (mono_val _) (.cons (mono_val _) (.cons (mono_val _) (.cons (mono_val _) (.cons (mono_val _) (.cons (mono_val _) (.cons (mono_rows _) (.cons (mono_bs _) (.cons (mono_bs _) (.cons (mono_val _) .nil))))))))))) (by kernel_rfl) (by kernel_rfl) ⟨?_, ?_, ?_, ?_, ?_, ?_, ?_, ?_, ?_, ?_, trivial⟩ ?_
  · intro a vs W hX hR he hf K hK
    rw [if_pos (wanted_none rfl)]
    have e6 : a.eval (.tmp 6) = .slice (some ⟨g5, 0, none⟩) 8 c5 := hf 6 (by kernel_rfl)
    refine wp_value (v := .slice (some ⟨g5, 0, none⟩) 8 c5) ?_ (hK _ _ rfl (grown_refl W _))
    simp only [execOp, e6]
    try go_simp
    try (first | rfl | omega | (simp only [IntKind.wrap_i64, IntKind.wrap_u8, IntKind.wrap_u64, IntKind.wrap_u16, IntKind.wrap_u32]; omega) | (rw [Int.tmod_eq_emod_of_nonneg (by omega)]) | (rw [Int.tmod_eq_emod_of_nonneg (by omega)]; omega))
  · intro a vs W hX hR he hf K hK
    rw [if_pos (wanted_none rfl)]
    have e2 : a.eval (.tmp 2) = .pointer (some ⟨w.heap.size, 0, none⟩) := hf 2 (by kernel_rfl)
    refine wp_value (v := .pointer (some ⟨w.heap.size, 5, none⟩)) ?_ (hK _ _ rfl (grown_refl W _))
    simp only [execOp, e2]
    try go_simp
    try (first | rfl | omega | (simp only [IntKind.wrap_i64, IntKind.wrap_u8, IntKind.wrap_u64, IntKind.wrap_u16, IntKind.wrap_u32]; omega) | (rw [Int.tmod_eq_emod_of_nonneg (by omega)]) | (rw [Int.tmod_eq_emod_of_nonneg (by omega)]; omega))
  · intro a vs W hX hR he hf K hK
    rw [if_pos (wanted_none rfl)]
    have e54 : a.eval (.tmp 54) = .pointer (some ⟨w.heap.size, 5, none⟩) := (he 1 54 (by kernel_rfl) rfl).trans (hR 1 (by kernel_rfl))
    refine wp_value (v := .slice (some ⟨w.heap.size, 5, none⟩) 16 16) ?_ (hK _ _ rfl (grown_refl W _))
    simp only [execOp, e54]
    try go_simp
    try (first | rfl | omega | (simp only [IntKind.wrap_i64, IntKind.wrap_u8, IntKind.wrap_u64, IntKind.wrap_u16, IntKind.wrap_u32]; omega) | (rw [Int.tmod_eq_emod_of_nonneg (by omega)]) | (rw [Int.tmod_eq_emod_of_nonneg (by omega)]; omega))
  · intro a vs W hX hR he hf K hK
    rw [if_pos (wanted_none rfl)]
    have e2 : a.eval (.tmp 2) = .pointer (some ⟨w.heap.size, 0, none⟩) := hf 2 (by kernel_rfl)
    refine wp_value (v := .pointer (some ⟨w.heap.size, 21, none⟩)) ?_ (hK _ _ rfl (grown_refl W _))
    simp only [execOp, e2]
    try go_simp
    try (first | rfl | omega | (simp only [IntKind.wrap_i64, IntKind.wrap_u8, IntKind.wrap_u64, IntKind.wrap_u16, IntKind.wrap_u32]; omega) | (rw [Int.tmod_eq_emod_of_nonneg (by omega)]) | (rw [Int.tmod_eq_emod_of_nonneg (by omega)]; omega))
  · intro a vs W hX hR he hf K hK
    rw [if_pos (wanted_none rfl)]
    have e56 : a.eval (.tmp 56) = .pointer (some ⟨w.heap.size, 21, none⟩) := (he 3 56 (by kernel_rfl) rfl).trans (hR 3 (by kernel_rfl))
    refine wp_value (v := .slice (some ⟨w.heap.size, 21, none⟩) 16 16) ?_ (hK _ _ rfl (grown_refl W _))
    simp only [execOp, e56]
    try go_simp
    try (first | rfl | omega | (simp only [IntKind.wrap_i64, IntKind.wrap_u8, IntKind.wrap_u64, IntKind.wrap_u16, IntKind.wrap_u32]; omega) | (rw [Int.tmod_eq_emod_of_nonneg (by omega)]) | (rw [Int.tmod_eq_emod_of_nonneg (by omega)]; omega))
  · intro a vs W hX hR he hf K hK
    rw [if_pos (wanted_none rfl)]
    have e1 : a.eval (.tmp 1) = .slice A n c := hf 1 (by kernel_rfl)
    refine wp_value (v := .slice A n c) ?_ (hK _ _ rfl (grown_refl W _))
    simp only [execOp, e1]
    try go_simp
    try (first | rfl | omega | (simp only [IntKind.wrap_i64, IntKind.wrap_u8, IntKind.wrap_u64, IntKind.wrap_u16, IntKind.wrap_u32]; omega) | (rw [Int.tmod_eq_emod_of_nonneg (by omega)]) | (rw [Int.tmod_eq_emod_of_nonneg (by omega)]; omega))
  · intro a vs W hX hR he hf K hK
    rw [if_pos (wanted_none rfl)]
    have e53 : a.eval (.tmp 53) = .slice (some ⟨g5, 0, none⟩) 8 c5 := (he 0 53 (by kernel_rfl) rfl).trans (hR 0 (by kernel_rfl))
    have e55 : a.eval (.tmp 55) = .slice (some ⟨w.heap.size, 5, none⟩) 16 16 := (he 2 55 (by kernel_rfl) rfl).trans (hR 2 (by kernel_rfl))
    have e57 : a.eval (.tmp 57) = .slice (some ⟨w.heap.size, 21, none⟩) 16 16 := (he 4 57 (by kernel_rfl) rfl).trans (hR 4 (by kernel_rfl))
    have e58 : a.eval (.tmp 58) = .slice A n c := (he 5 58 (by kernel_rfl) rfl).trans (hR 5 (by kernel_rfl))
    have f53 : a.tmps[53]?.getD undef = .slice (some ⟨g5, 0, none⟩) 8 c5 := by simpa [Act.eval] using e53
    have f55 : a.tmps[55]?.getD undef = .slice (some ⟨w.heap.size, 5, none⟩) 16 16 := by simpa [Act.eval] using e55
    have f57 : a.tmps[57]?.getD undef = .slice (some ⟨w.heap.size, 21, none⟩) 16 16 := by simpa [Act.eval] using e57
    have f58 : a.tmps[58]?.getD undef = .slice A n c := by simpa [Act.eval] using e58
    have hbW := bthen (below_drew _) (grow_below hX)
    refine wp_value (v := .slice (some ⟨W.heap.size, 0, none⟩) 4 4) (w' := W.alloc (.cells #[.slice (some ⟨g5, 0, none⟩) 8 c5, .slice (some ⟨w.heap.size, 5, none⟩) 16 16, .slice (some ⟨w.heap.size, 21, none⟩) 16 16, .slice A n c] 22)) ?_ (hK _ _ ⟨[⟨some ⟨g5, 0, none⟩, 8, c5, front6 h n⟩, ⟨some ⟨w.heap.size, 5, none⟩, 16, 16, h.src⟩, ⟨some ⟨w.heap.size, 21, none⟩, 16, 16, h.dst⟩, ⟨A, n, c, l⟩], _, _, _, rfl, rfl, ?_, ?_⟩ (World.grownBy_alloc _ _ _))
    · simp only [execOp]
      go_simp
    · rw [World.size_alloc]
      exact Row.new (n := 4) (sz := 1) W _ rfl
    · have k := fun r (hr : Bs.ok W r) => hr.below (alloc_below W (.cells #[.slice (some ⟨g5, 0, none⟩) 8 c5, .slice (some ⟨w.heap.size, 5, none⟩) 16 16, .slice (some ⟨w.heap.size, 21, none⟩) 16 16, .slice A n c] 22))
      simp only [List.mem_cons, List.not_mem_nil, or_false]
      rintro r (rfl | rfl | rfl | rfl)
      · exact k _ (HO5.out.below hbW)
      · exact k _ (HS5.out.below hbW)
      · exact k _ (HD5.out.below hbW)
      · exact k _ (HL5.out.below hbW)
  · intro a vs W hX hR he hf K hK
    rw [if_pos (wanted_none rfl)]
    have e59 := he 6 59 (by kernel_rfl) rfl
    have p59 := hR 6 (by kernel_rfl)
    obtain ⟨rows, R, k, c', hv, hl, hr, ho⟩ := p59
    rw [hv] at e59
    have hfl : flat rows = front6 h n ++ h.src ++ h.dst ++ l := by rw [flat_map, hl]; simp
    have hlb := lenV_bs rows ho
    have hk4 : k ≤ 4 := by have h1 := hr.1; rw [List.length_map] at h1; have h2 := congrArg List.length hl; simp at h2; omega
    refine wp_enter (f := 45) (args := #[.slice R k c']) (by simp only [execOp, e59]; go_simp; simpa [Act.eval] using e59) ((concat_bytes R k c' (rows.map Bs.sl) W (by rw [vs_bs]; exact hr) (fun r hx => by obtain ⟨x, hx2, rfl⟩ := List.mem_map.1 hx; exact (ho x hx2).sl) (by omega) (by rw [hlb, hfl]; exact HT.out)).mono ?_)
    rintro e w' ⟨A', cc, rfl, hown, hb⟩
    rw [flatV_bs, hfl, hlb, hfl] at hown
    exact ⟨_, rfl, hK _ _ ⟨A', _, cc, by rw [hlb, hfl], hown.ok⟩ (below_grow hb _)⟩
  · intro a vs W hX hR he hf K hK
    rw [if_pos (wanted_none rfl)]
    have e60 := he 7 60 (by kernel_rfl) rfl
    have p60 := hR 7 (by kernel_rfl)
    refine wp_value (v := vs 7) ?_ (hK _ _ p60 (grown_refl W _))
    simp only [execOp, e60]
    try go_simp
  · intro a vs W hX hR he hf K hK
    rw [if_pos (wanted_none rfl)]
    refine wp_value (v := .int .i64 0) ?_ (hK _ _ rfl (grown_refl W _))
    simp only [execOp]
    try go_simp
    try (first | rfl | omega | (simp only [IntKind.wrap_i64, IntKind.wrap_u8, IntKind.wrap_u64, IntKind.wrap_u16, IntKind.wrap_u32]; omega) | (rw [Int.tmod_eq_emod_of_nonneg (by omega)]) | (rw [Int.tmod_eq_emod_of_nonneg (by omega)]; omega))
  · intro vs W hX hR
    have q0 := hR 0 (by decide)
    have q1 := hR 1 (by decide)
    have q2 := hR 2 (by decide)
    have q3 := hR 3 (by decide)
    have q4 := hR 4 (by decide)
    have q5 := hR 5 (by decide)
    have q6 := hR 6 (by decide)
    have q7 := hR 7 (by decide)
    have q8 := hR 8 (by decide)
    have q9 := hR 9 (by decide)
    change vs 0 = .slice (some ⟨g5, 0, none⟩) 8 c5 at q0
    change vs 1 = .pointer (some ⟨w.heap.size, 5, none⟩) at q1
    change vs 2 = .slice (some ⟨w.heap.size, 5, none⟩) 16 16 at q2
    change vs 3 = .pointer (some ⟨w.heap.size, 21, none⟩) at q3
    change vs 4 = .slice (some ⟨w.heap.size, 21, none⟩) 16 16 at q4
    change vs 5 = .slice A n c at q5
    change (RowsR [front6 h n, h.src, h.dst, l]) (vs 6) W at q6
    change (BsR (front6 h n ++ h.src ++ h.dst ++ l)) (vs 7) W at q7
    change (BsR (front6 h n ++ h.src ++ h.dst ++ l)) (vs 8) W at q8
    change vs 9 = .int .i64 0 at q9
    simp only [putAll, Act.put, List.setIfInBounds_toArray, List.set_cons_zero, List.set_cons_succ, q0, q1, q2, q3, q4, q5, q9]
    clear q0 q1 q2 q3 q4 q5 q9
    clear hR
    obtain ⟨A9, n9, c9, hv9, ho9⟩ := q8
    rw [hv9]
    go_wp2
    go_ret2
    exact ⟨⟨A9, n9, c9, _⟩, rfl, rfl, ho9, bthen HB5.out (bthen (below_drew _) (grow_below hX))⟩

theorem put6_any (h : H6) (hf : h.fit) (A : Option Addr) (n c : Nat) (l : List UInt8) (w : World) (hr : Row w w.heap.size 1 A n (bv l)) (hc : n ≤ c) (hcm : c ≤ maxLen) :
    Calls Tryd.prog 21 #[.agg h.cells.toArray, .slice A n c] w fun e w' => ∃ r : Bs, e = .returned (.tuple #[r.v, .int .i64 (put6 h l).2]) ∧ r.l = (put6 h l).1 ∧ r.ok w' ∧ Below w.heap.size w w' := by
  have hll : l.length = n := by have := hr.1; rw [bv_length] at this; omega
  unfold put6
  by_cases hx : h.flow < 0 ∨ 1048576 ≤ h.flow
  · rw [if_pos hx]
    refine (put6_arg h hf A n c w hx).mono ?_
    rintro e w' ⟨rfl, hb⟩
    exact ⟨⟨none, 0, 0, []⟩, rfl, rfl, ok_nil _, hb⟩
  · rw [if_neg hx]
    by_cases hl : 65495 < l.length
    · rw [if_pos hl]
      refine (put6_len h hf A n c w (by omega) (by omega) (by omega)).mono ?_
      rintro e w' ⟨rfl, hb⟩
      exact ⟨⟨none, 0, 0, []⟩, rfl, rfl, ok_nil _, hb⟩
    · rw [if_neg hl, hll]
      exact put6_ok h hf A n c l w hr hc hcm (by omega) (by omega) (by omega)
end Go.Proofs.YtbcjkjmjljfhpaaDoor

/- What the reference's Put of IPv6 computes. No condition but sizes. -/
namespace Go.Proofs.YtbcjkjmjljfhpaaDoor
open Go.RowKit
set_option linter.unusedVariables false
set_option maxRecDepth 20000
set_option linter.unusedSimpArgs false

set_option maxHeartbeats 1000000 in
theorem rput6_arg (h : H6) (hf : h.fit) (l : List UInt8) (w : World) (hx : h.flow < 0 ∨ 1048576 ≤ h.flow) :
    Calls Tryd.prog 28 #[.agg h.cells.toArray, str l] w fun e w' => e = .returned (.tuple #[str [], .int .i64 1]) ∧ Below w.heap.size w w' := by
  rcases hx with hx | hx
  · go_enter Tryd.func28, Tryd.ntmps28
    go_wp2_with (refine wpList_box_blk rfl 58 _ rfl h.cells rfl ?_; intro w1 hb1 hB1 hs1; have c1 : w1.cell? ⟨w.heap.size, 1, none⟩ = some (.int .i64 h.flow) := hb1.cell 1)
    go_ret2
    exact ⟨rfl, hB1⟩
  · have hx0 : ¬ h.flow < 0 := by omega
    have hx1 : 1048575 < h.flow := by omega
    clear hx
    go_enter Tryd.func28, Tryd.ntmps28
    go_wp2_with (refine wpList_box_blk rfl 58 _ rfl h.cells rfl ?_; intro w1 hb1 hB1 hs1; have c1 : w1.cell? ⟨w.heap.size, 1, none⟩ = some (.int .i64 h.flow) := hb1.cell 1)
    go_ret2
    exact ⟨rfl, hB1⟩

set_option maxHeartbeats 1000000 in
theorem rput6_len (h : H6) (hf : h.fit) (l : List UInt8) (w : World) (hn : l.length ≤ 1099511627776) (hx0 : 0 ≤ h.flow) (hx1 : h.flow < 1048576) (hl : 65495 < l.length) :
    Calls Tryd.prog 28 #[.agg h.cells.toArray, str l] w fun e w' => e = .returned (.tuple #[str [], .int .i64 13]) ∧ Below w.heap.size w w' := by
  have hl' : (65535 : Int) < (l.length : Int) + 40 := by omega
  have hx2 : ¬ 1048575 < h.flow := by omega
  go_enter Tryd.func28, Tryd.ntmps28
  go_wp2_with (refine wpList_box_blk rfl 58 _ rfl h.cells rfl ?_; intro w1 hb1 hB1 hs1; have c1 : w1.cell? ⟨w.heap.size, 1, none⟩ = some (.int .i64 h.flow) := hb1.cell 1)
  go_ret2
  exact ⟨rfl, hB1⟩

set_option maxHeartbeats 1000000 in
theorem rput6_ok (h : H6) (hf : h.fit) (l : List UInt8) (w : World) (hx0 : 0 ≤ h.flow) (hx1 : h.flow < 1048576) (hl : l.length ≤ 65495) :
    Calls Tryd.prog 28 #[.agg h.cells.toArray, str l] w fun e w' => e = .returned (.tuple #[str (front6 h l.length ++ h.src ++ h.dst ++ l), .int .i64 0]) ∧ Below w.heap.size w w' := by
  have hl' : ¬ (65535 : Int) < (l.length : Int) + 40 := by omega
  have hx2 : ¬ 1048575 < h.flow := by omega
  obtain ⟨k0, k1⟩ := hf.cls
  obtain ⟨n0, n1⟩ := hf.next
  obtain ⟨t0, t1⟩ := hf.ttl
  obtain ⟨Nv, hNv⟩ : ∃ Nv, 1610612736 + h.cls * 1048576 + h.flow = Nv := ⟨_, rfl⟩
  have N0 : 0 ≤ Nv := by omega
  have N1 : Nv < 4294967296 := by omega
  have hw1 : IntKind.u64.wrap Nv = Nv := wrap64_id Nv (by omega) (by omega)
  have HN := Lib.hid hNv
  have HF := Lib.hid hf
  have HS := Lib.hid hf.ok.src
  have HD := Lib.hid hf.ok.dst
  clear hf
  go_enter Tryd.func28, Tryd.ntmps28
  go_wp2_with (refine wpList_box_blk rfl 58 _ rfl h.cells rfl ?_; intro w1 hb1 hB1 hs1; have c0 : w1.cell? ⟨w.heap.size, 0, none⟩ = some (.int .u8 h.cls) := hb1.cell 0; have c1 : w1.cell? ⟨w.heap.size, 1, none⟩ = some (.int .i64 h.flow) := hb1.cell 1)
  have HB := Lib.hid hb1
  clear hNv c0 c1 hb1
  refine wp_region_rel (fun A B => A.grownBy B none) (fun A => grown_refl A _) (fun A B C h k => grown_trans h k) (relAt [fun v _ => v = .int .i64 Nv, fun v _ => v = .int .u64 Nv, fun v _ => v = str (toBe 4 Nv.toNat), fun v _ => v = str l, fun v _ => v = .int .i64 (l.length : Int), fun v _ => v = .int .u64 (l.length : Int), fun v _ => v = str (toBe 2 l.length), fun v _ => v = str (toBe 4 Nv.toNat ++ toBe 2 l.length), fun v _ => v = .pointer (some ⟨w.heap.size, 3, none⟩), fun v _ => v = .int .u8 h.next, fun v _ => v = .pointer (some ⟨w.heap.size, 4, none⟩), fun v _ => v = .int .u8 h.ttl, BsR [ub h.next, ub h.ttl], fun v _ => v = str [ub h.next, ub h.ttl], fun v _ => v = str (toBe 4 Nv.toNat ++ toBe 2 l.length ++ [ub h.next, ub h.ttl]), fun v _ => v = .pointer (some ⟨w.heap.size, 5, none⟩), fun v _ => v = .agg (bv h.src).toArray, fun v _ => v = str h.src, fun v _ => v = str (toBe 4 Nv.toNat ++ toBe 2 l.length ++ [ub h.next, ub h.ttl] ++ h.src), fun v _ => v = .pointer (some ⟨w.heap.size, 21, none⟩), fun v _ => v = .agg (bv h.dst).toArray, fun v _ => v = str h.dst, fun v _ => v = str (toBe 4 Nv.toNat ++ toBe 2 l.length ++ [ub h.next, ub h.ttl] ++ h.src ++ h.dst), fun v _ => v = str l, fun v _ => v = str (toBe 4 Nv.toNat ++ toBe 2 l.length ++ [ub h.next, ub h.ttl] ++ h.src ++ h.dst ++ l), fun v _ => v = str (toBe 4 Nv.toNat ++ toBe 2 l.length ++ [ub h.next, ub h.ttl] ++ h.src ++ h.dst ++ l), fun v _ => v = .int .i64 0]) (MonoL.at_ (.cons (mono_val _) (.cons (mono_val _) (.cons (mono_val _) (.cons (mono_val _) (.cons (mono_val _) (.cons (mono_val _) (.cons (mono_val _) (.cons (mono_val _) (.cons (mono_val _) (.cons (mono_val _) (.cons (mono_val _) (.cons (mono_val _) (.cons (mono_bs _) (.cons (mono_val _) (.cons (mono_val _) (.cons (mono_val _) (.cons (mono_val _) (.cons (mono_val _) (.cons (mono_val _) (.cons (mono_val _) (.cons (mono_val _) (.cons (mono_val _) (.cons (mono_val _) (.cons (mono_val _) (.cons (mono_val _) (.cons (mono_val _) (.cons (mono_val _) .nil)))))))))))))))))))))))))))) (by kernel_rfl) (by kernel_rfl) ⟨?_, ?_, ?_, ?_, ?_, ?_, ?_, ?_, ?_, ?_, ?_, ?_, ?_, ?_, ?_, ?_, ?_, ?_, ?_, ?_, ?_, ?_, ?_, ?_, ?_, ?_, ?_, trivial⟩ ?_
  · intro a vs W hX hR he hf K hK
    rw [if_pos (wanted_none rfl)]
    have e6 : a.eval (.tmp 6) = .int .i64 Nv := hf 6 (by kernel_rfl)
    refine wp_value (v := .int .i64 Nv) ?_ (hK _ _ rfl (grown_refl W _))
    simp only [execOp, e6]
    try go_simp
    try (first | rfl | omega | (simp only [IntKind.wrap_i64, IntKind.wrap_u8, IntKind.wrap_u64, IntKind.wrap_u16, IntKind.wrap_u32]; omega) | (rw [Int.tmod_eq_emod_of_nonneg (by omega)]) | (rw [Int.tmod_eq_emod_of_nonneg (by omega)]; omega))
  · intro a vs W hX hR he hf K hK
    rw [if_pos (wanted_none rfl)]
    have e27 : a.eval (.tmp 27) = .int .i64 Nv := (he 0 27 (by kernel_rfl) rfl).trans (hR 0 (by kernel_rfl))
    refine wp_value (v := .int .u64 Nv) ?_ (hK _ _ rfl (grown_refl W _))
    simp only [execOp, e27]
    try go_simp
    try (first | rfl | omega | (simp only [IntKind.wrap_i64, IntKind.wrap_u8, IntKind.wrap_u64, IntKind.wrap_u16, IntKind.wrap_u32]; omega) | (rw [Int.tmod_eq_emod_of_nonneg (by omega)]) | (rw [Int.tmod_eq_emod_of_nonneg (by omega)]; omega))
  · intro a vs W hX hR he hf K hK
    rw [if_pos (wanted_none rfl)]
    have e28 : a.eval (.tmp 28) = .int .u64 Nv := (he 1 28 (by kernel_rfl) rfl).trans (hR 1 (by kernel_rfl))
    refine wp_enter (f := 24) (args := #[.int .u64 Nv, .int .i64 4]) (by simp only [execOp, e28]; go_simp; simpa [Act.eval] using e28) ((bytes_any Nv 4 W (by omega) (by omega) (by omega) (by omega)).mono ?_)
    rintro e w' ⟨rfl, hb⟩
    exact ⟨_, rfl, hK _ _ rfl (below_grow hb _)⟩
  · intro a vs W hX hR he hf K hK
    rw [if_pos (wanted_none rfl)]
    have e1 : a.eval (.tmp 1) = str l := hf 1 (by kernel_rfl)
    refine wp_value (v := str l) ?_ (hK _ _ rfl (grown_refl W _))
    simp only [execOp, e1]
    try go_simp
    try (first | rfl | omega | (simp only [IntKind.wrap_i64, IntKind.wrap_u8, IntKind.wrap_u64, IntKind.wrap_u16, IntKind.wrap_u32]; omega) | (rw [Int.tmod_eq_emod_of_nonneg (by omega)]) | (rw [Int.tmod_eq_emod_of_nonneg (by omega)]; omega))
  · intro a vs W hX hR he hf K hK
    rw [if_pos (wanted_none rfl)]
    have e30 : a.eval (.tmp 30) = str l := (he 3 30 (by kernel_rfl) rfl).trans (hR 3 (by kernel_rfl))
    have f30 := e30
    simp only [Act.eval, Array.getD_eq_getD_getElem?] at f30
    refine wp_value (v := .int .i64 (l.length : Int)) ?_ (hK _ _ rfl (grown_refl W _))
    simp only [execOp, e30]
    try go_simp
    try (first | rfl | omega | (simp only [IntKind.wrap_i64, IntKind.wrap_u8, IntKind.wrap_u64, IntKind.wrap_u16, IntKind.wrap_u32]; omega) | (rw [Int.tmod_eq_emod_of_nonneg (by omega)]) | (rw [Int.tmod_eq_emod_of_nonneg (by omega)]; omega))
  · intro a vs W hX hR he hf K hK
    rw [if_pos (wanted_none rfl)]
    have e31 : a.eval (.tmp 31) = .int .i64 (l.length : Int) := (he 4 31 (by kernel_rfl) rfl).trans (hR 4 (by kernel_rfl))
    refine wp_value (v := .int .u64 (l.length : Int)) ?_ (hK _ _ rfl (grown_refl W _))
    simp only [execOp, e31]
    try go_simp
    try (first | rfl | omega | (simp only [IntKind.wrap_i64, IntKind.wrap_u8, IntKind.wrap_u64, IntKind.wrap_u16, IntKind.wrap_u32]; omega) | (rw [Int.tmod_eq_emod_of_nonneg (by omega)]) | (rw [Int.tmod_eq_emod_of_nonneg (by omega)]; omega))
  · intro a vs W hX hR he hf K hK
    rw [if_pos (wanted_none rfl)]
    have e32 : a.eval (.tmp 32) = .int .u64 (l.length : Int) := (he 5 32 (by kernel_rfl) rfl).trans (hR 5 (by kernel_rfl))
    refine wp_enter (f := 24) (args := #[.int .u64 (l.length : Int), .int .i64 2]) (by simp only [execOp, e32]; go_simp; simpa [Act.eval] using e32) ((bytes_any (l.length : Int) 2 W (by omega) (by omega) (by omega) (by omega)).mono ?_)
    rintro e w' ⟨rfl, hb⟩
    exact ⟨_, rfl, hK _ _ (show str (toBe (2 : Int).toNat (l.length : Int).toNat) = str (toBe 2 l.length) by simp) (below_grow hb _)⟩
  · intro a vs W hX hR he hf K hK
    rw [if_pos (wanted_none rfl)]
    have e29 : a.eval (.tmp 29) = str (toBe 4 Nv.toNat) := (he 2 29 (by kernel_rfl) rfl).trans (hR 2 (by kernel_rfl))
    have e33 : a.eval (.tmp 33) = str (toBe 2 l.length) := (he 6 33 (by kernel_rfl) rfl).trans (hR 6 (by kernel_rfl))
    refine wp_value (v := _) ?_ (hK _ _ rfl (grown_refl W _))
    simp only [execOp, e29, e33]
    go_simp
    simp [ba_append]
    try (simp [toBe_length, HS.out, HD.out] <;> omega)
  · intro a vs W hX hR he hf K hK
    rw [if_pos (wanted_none rfl)]
    have e2 : a.eval (.tmp 2) = .pointer (some ⟨w.heap.size, 0, none⟩) := hf 2 (by kernel_rfl)
    refine wp_value (v := .pointer (some ⟨w.heap.size, 3, none⟩)) ?_ (hK _ _ rfl (grown_refl W _))
    simp only [execOp, e2]
    try go_simp
    try (first | rfl | omega | (simp only [IntKind.wrap_i64, IntKind.wrap_u8, IntKind.wrap_u64, IntKind.wrap_u16, IntKind.wrap_u32]; omega) | (rw [Int.tmod_eq_emod_of_nonneg (by omega)]) | (rw [Int.tmod_eq_emod_of_nonneg (by omega)]; omega))
  · intro a vs W hX hR he hf K hK
    rw [if_pos (wanted_none rfl)]
    have e35 : a.eval (.tmp 35) = .pointer (some ⟨w.heap.size, 3, none⟩) := (he 8 35 (by kernel_rfl) rfl).trans (hR 8 (by kernel_rfl))
    have hbW := HB.out.on (bthen (below_drew _) (grow_below hX))
    have hc : W.cell? ⟨w.heap.size, 3, none⟩ = some (.int .u8 h.next) := hbW.cell 3
    refine wp_value (v := _) ?_ (hK _ _ rfl (grown_refl W _))
    simp only [execOp, e35]
    go_simp
  · intro a vs W hX hR he hf K hK
    rw [if_pos (wanted_none rfl)]
    have e2 : a.eval (.tmp 2) = .pointer (some ⟨w.heap.size, 0, none⟩) := hf 2 (by kernel_rfl)
    refine wp_value (v := .pointer (some ⟨w.heap.size, 4, none⟩)) ?_ (hK _ _ rfl (grown_refl W _))
    simp only [execOp, e2]
    try go_simp
    try (first | rfl | omega | (simp only [IntKind.wrap_i64, IntKind.wrap_u8, IntKind.wrap_u64, IntKind.wrap_u16, IntKind.wrap_u32]; omega) | (rw [Int.tmod_eq_emod_of_nonneg (by omega)]) | (rw [Int.tmod_eq_emod_of_nonneg (by omega)]; omega))
  · intro a vs W hX hR he hf K hK
    rw [if_pos (wanted_none rfl)]
    have e37 : a.eval (.tmp 37) = .pointer (some ⟨w.heap.size, 4, none⟩) := (he 10 37 (by kernel_rfl) rfl).trans (hR 10 (by kernel_rfl))
    have hbW := HB.out.on (bthen (below_drew _) (grow_below hX))
    have hc : W.cell? ⟨w.heap.size, 4, none⟩ = some (.int .u8 h.ttl) := hbW.cell 4
    refine wp_value (v := _) ?_ (hK _ _ rfl (grown_refl W _))
    simp only [execOp, e37]
    go_simp
  · intro a vs W hX hR he hf K hK
    rw [if_pos (wanted_none rfl)]
    have e36 : a.eval (.tmp 36) = .int .u8 h.next := (he 9 36 (by kernel_rfl) rfl).trans (hR 9 (by kernel_rfl))
    have e38 : a.eval (.tmp 38) = .int .u8 h.ttl := (he 11 38 (by kernel_rfl) rfl).trans (hR 11 (by kernel_rfl))
    have f36 := e36
    simp only [Act.eval, Array.getD_eq_getD_getElem?] at f36
    have f38 := e38
    simp only [Act.eval, Array.getD_eq_getD_getElem?] at f38
    refine wp_value (v := .slice (some ⟨W.heap.size, 0, none⟩) 2 2) (w' := W.alloc (.cells #[.int .u8 h.next, .int .u8 h.ttl] 5)) ?_ (hK _ _ ⟨_, _, _, rfl, ⟨by rw [World.size_alloc]; exact row_lit W _ [ub h.next, ub h.ttl] 2 (by simp [bv, ub]; omega) rfl, Nat.le_refl _, by simp [maxLen]⟩⟩ (World.grownBy_alloc _ _ _))
    simp only [execOp]
    go_simp
  · intro a vs W hX hR he hf K hK
    rw [if_pos (wanted_none rfl)]
    have e39 := he 12 39 (by kernel_rfl) rfl
    have p39 := hR 12 (by kernel_rfl)
    obtain ⟨A, n, c, hv, ho⟩ := p39
    rw [hv] at e39
    exact wp_value (exec_str 22 9 5 _ rfl Tryd.underlying22 Tryd.underlying5 Tryd.underlying9 A n c _ e39 ho) (hK _ _ rfl (grown_refl W _))
  · intro a vs W hX hR he hf K hK
    rw [if_pos (wanted_none rfl)]
    have e34 : a.eval (.tmp 34) = str (toBe 4 Nv.toNat ++ toBe 2 l.length) := (he 7 34 (by kernel_rfl) rfl).trans (hR 7 (by kernel_rfl))
    have e40 : a.eval (.tmp 40) = str [ub h.next, ub h.ttl] := (he 13 40 (by kernel_rfl) rfl).trans (hR 13 (by kernel_rfl))
    refine wp_value (v := _) ?_ (hK _ _ rfl (grown_refl W _))
    simp only [execOp, e34, e40]
    go_simp
    simp [ba_append]
    try (simp [toBe_length, HS.out, HD.out] <;> omega)
  · intro a vs W hX hR he hf K hK
    rw [if_pos (wanted_none rfl)]
    have e2 : a.eval (.tmp 2) = .pointer (some ⟨w.heap.size, 0, none⟩) := hf 2 (by kernel_rfl)
    refine wp_value (v := .pointer (some ⟨w.heap.size, 5, none⟩)) ?_ (hK _ _ rfl (grown_refl W _))
    simp only [execOp, e2]
    try go_simp
    try (first | rfl | omega | (simp only [IntKind.wrap_i64, IntKind.wrap_u8, IntKind.wrap_u64, IntKind.wrap_u16, IntKind.wrap_u32]; omega) | (rw [Int.tmod_eq_emod_of_nonneg (by omega)]) | (rw [Int.tmod_eq_emod_of_nonneg (by omega)]; omega))
  · intro a vs W hX hR he hf K hK
    rw [if_pos (wanted_none rfl)]
    have e42 : a.eval (.tmp 42) = .pointer (some ⟨w.heap.size, 5, none⟩) := (he 15 42 (by kernel_rfl) rfl).trans (hR 15 (by kernel_rfl))
    have hbW := HB.out.on (bthen (below_drew _) (grow_below hX))
    have hr := hbW.range 5 16
    rw [h.drop_src HF.out.ok] at hr
    exact wp_value (exec_load_mid 26 _ rfl w.heap.size 5 e42 _ _ hr Tryd.underlying26 rfl (size24 _ HF.out.ok.src)) (hK _ _ rfl (grown_refl W _))
  · intro a vs W hX hR he hf K hK
    rw [if_pos (wanted_none rfl)]
    have e43 : a.eval (.tmp 43) = .agg (bv h.src).toArray := (he 16 43 (by kernel_rfl) rfl).trans (hR 16 (by kernel_rfl))
    refine wp_enter (f := 26) (args := #[.agg (bv h.src).toArray]) (by simp only [execOp, e43]; go_simp; simpa [Act.eval] using e43) ((text_any h.src W HF.out.ok.src).mono ?_)
    rintro e w' ⟨rfl, hb⟩
    exact ⟨_, rfl, hK _ _ rfl (below_grow hb _)⟩
  · intro a vs W hX hR he hf K hK
    rw [if_pos (wanted_none rfl)]
    have e41 : a.eval (.tmp 41) = str (toBe 4 Nv.toNat ++ toBe 2 l.length ++ [ub h.next, ub h.ttl]) := (he 14 41 (by kernel_rfl) rfl).trans (hR 14 (by kernel_rfl))
    have e44 : a.eval (.tmp 44) = str h.src := (he 17 44 (by kernel_rfl) rfl).trans (hR 17 (by kernel_rfl))
    refine wp_value (v := _) ?_ (hK _ _ rfl (grown_refl W _))
    simp only [execOp, e41, e44]
    go_simp
    simp [ba_append]
    try (simp [toBe_length, HS.out, HD.out] <;> omega)
  · intro a vs W hX hR he hf K hK
    rw [if_pos (wanted_none rfl)]
    have e2 : a.eval (.tmp 2) = .pointer (some ⟨w.heap.size, 0, none⟩) := hf 2 (by kernel_rfl)
    refine wp_value (v := .pointer (some ⟨w.heap.size, 21, none⟩)) ?_ (hK _ _ rfl (grown_refl W _))
    simp only [execOp, e2]
    try go_simp
    try (first | rfl | omega | (simp only [IntKind.wrap_i64, IntKind.wrap_u8, IntKind.wrap_u64, IntKind.wrap_u16, IntKind.wrap_u32]; omega) | (rw [Int.tmod_eq_emod_of_nonneg (by omega)]) | (rw [Int.tmod_eq_emod_of_nonneg (by omega)]; omega))
  · intro a vs W hX hR he hf K hK
    rw [if_pos (wanted_none rfl)]
    have e46 : a.eval (.tmp 46) = .pointer (some ⟨w.heap.size, 21, none⟩) := (he 19 46 (by kernel_rfl) rfl).trans (hR 19 (by kernel_rfl))
    have hbW := HB.out.on (bthen (below_drew _) (grow_below hX))
    have hr := hbW.range 21 16
    rw [h.drop_dst HF.out.ok] at hr
    exact wp_value (exec_load_mid 26 _ rfl w.heap.size 21 e46 _ _ hr Tryd.underlying26 rfl (size24 _ HF.out.ok.dst)) (hK _ _ rfl (grown_refl W _))
  · intro a vs W hX hR he hf K hK
    rw [if_pos (wanted_none rfl)]
    have e47 : a.eval (.tmp 47) = .agg (bv h.dst).toArray := (he 20 47 (by kernel_rfl) rfl).trans (hR 20 (by kernel_rfl))
    refine wp_enter (f := 26) (args := #[.agg (bv h.dst).toArray]) (by simp only [execOp, e47]; go_simp; simpa [Act.eval] using e47) ((text_any h.dst W HF.out.ok.dst).mono ?_)
    rintro e w' ⟨rfl, hb⟩
    exact ⟨_, rfl, hK _ _ rfl (below_grow hb _)⟩
  · intro a vs W hX hR he hf K hK
    rw [if_pos (wanted_none rfl)]
    have e45 : a.eval (.tmp 45) = str (toBe 4 Nv.toNat ++ toBe 2 l.length ++ [ub h.next, ub h.ttl] ++ h.src) := (he 18 45 (by kernel_rfl) rfl).trans (hR 18 (by kernel_rfl))
    have e48 : a.eval (.tmp 48) = str h.dst := (he 21 48 (by kernel_rfl) rfl).trans (hR 21 (by kernel_rfl))
    refine wp_value (v := _) ?_ (hK _ _ rfl (grown_refl W _))
    simp only [execOp, e45, e48]
    go_simp
    simp [ba_append]
    try (simp [toBe_length, HS.out, HD.out] <;> omega)
  · intro a vs W hX hR he hf K hK
    rw [if_pos (wanted_none rfl)]
    have e1 : a.eval (.tmp 1) = str l := hf 1 (by kernel_rfl)
    refine wp_value (v := str l) ?_ (hK _ _ rfl (grown_refl W _))
    simp only [execOp, e1]
    try go_simp
    try (first | rfl | omega | (simp only [IntKind.wrap_i64, IntKind.wrap_u8, IntKind.wrap_u64, IntKind.wrap_u16, IntKind.wrap_u32]; omega) | (rw [Int.tmod_eq_emod_of_nonneg (by omega)]) | (rw [Int.tmod_eq_emod_of_nonneg (by omega)]; omega))
  · intro a vs W hX hR he hf K hK
    rw [if_pos (wanted_none rfl)]
    have e49 : a.eval (.tmp 49) = str (toBe 4 Nv.toNat ++ toBe 2 l.length ++ [ub h.next, ub h.ttl] ++ h.src ++ h.dst) := (he 22 49 (by kernel_rfl) rfl).trans (hR 22 (by kernel_rfl))
    have e50 : a.eval (.tmp 50) = str l := (he 23 50 (by kernel_rfl) rfl).trans (hR 23 (by kernel_rfl))
    refine wp_value (v := _) ?_ (hK _ _ rfl (grown_refl W _))
    simp only [execOp, e49, e50]
    go_simp
    simp [ba_append]
    try (simp [toBe_length, HS.out, HD.out] <;> omega)
  · intro a vs W hX hR he hf K hK
    rw [if_pos (wanted_none rfl)]
    have e51 : a.eval (.tmp 51) = str (toBe 4 Nv.toNat ++ toBe 2 l.length ++ [ub h.next, ub h.ttl] ++ h.src ++ h.dst ++ l) := (he 24 51 (by kernel_rfl) rfl).trans (hR 24 (by kernel_rfl))
    refine wp_value (v := _) ?_ (hK _ _ rfl (grown_refl W _))
    simp only [execOp, e51]
    try go_simp
  · intro a vs W hX hR he hf K hK
    rw [if_pos (wanted_none rfl)]
    refine wp_value (v := .int .i64 0) ?_ (hK _ _ rfl (grown_refl W _))
    simp only [execOp]
    try go_simp
    try (first | rfl | omega | (simp only [IntKind.wrap_i64, IntKind.wrap_u8, IntKind.wrap_u64, IntKind.wrap_u16, IntKind.wrap_u32]; omega) | (rw [Int.tmod_eq_emod_of_nonneg (by omega)]) | (rw [Int.tmod_eq_emod_of_nonneg (by omega)]; omega))
  · intro vs W hX hR
    have q0 := hR 0 (by decide)
    have q1 := hR 1 (by decide)
    have q2 := hR 2 (by decide)
    have q3 := hR 3 (by decide)
    have q4 := hR 4 (by decide)
    have q5 := hR 5 (by decide)
    have q6 := hR 6 (by decide)
    have q7 := hR 7 (by decide)
    have q8 := hR 8 (by decide)
    have q9 := hR 9 (by decide)
    have q10 := hR 10 (by decide)
    have q11 := hR 11 (by decide)
    have q12 := hR 12 (by decide)
    have q13 := hR 13 (by decide)
    have q14 := hR 14 (by decide)
    have q15 := hR 15 (by decide)
    have q16 := hR 16 (by decide)
    have q17 := hR 17 (by decide)
    have q18 := hR 18 (by decide)
    have q19 := hR 19 (by decide)
    have q20 := hR 20 (by decide)
    have q21 := hR 21 (by decide)
    have q22 := hR 22 (by decide)
    have q23 := hR 23 (by decide)
    have q24 := hR 24 (by decide)
    have q25 := hR 25 (by decide)
    have q26 := hR 26 (by decide)
    change vs 0 = .int .i64 Nv at q0
    change vs 1 = .int .u64 Nv at q1
    change vs 2 = str (toBe 4 Nv.toNat) at q2
    change vs 3 = str l at q3
    change vs 4 = .int .i64 (l.length : Int) at q4
    change vs 5 = .int .u64 (l.length : Int) at q5
    change vs 6 = str (toBe 2 l.length) at q6
    change vs 7 = str (toBe 4 Nv.toNat ++ toBe 2 l.length) at q7
    change vs 8 = .pointer (some ⟨w.heap.size, 3, none⟩) at q8
    change vs 9 = .int .u8 h.next at q9
    change vs 10 = .pointer (some ⟨w.heap.size, 4, none⟩) at q10
    change vs 11 = .int .u8 h.ttl at q11
    change (BsR [ub h.next, ub h.ttl]) (vs 12) W at q12
    change vs 13 = str [ub h.next, ub h.ttl] at q13
    change vs 14 = str (toBe 4 Nv.toNat ++ toBe 2 l.length ++ [ub h.next, ub h.ttl]) at q14
    change vs 15 = .pointer (some ⟨w.heap.size, 5, none⟩) at q15
    change vs 16 = .agg (bv h.src).toArray at q16
    change vs 17 = str h.src at q17
    change vs 18 = str (toBe 4 Nv.toNat ++ toBe 2 l.length ++ [ub h.next, ub h.ttl] ++ h.src) at q18
    change vs 19 = .pointer (some ⟨w.heap.size, 21, none⟩) at q19
    change vs 20 = .agg (bv h.dst).toArray at q20
    change vs 21 = str h.dst at q21
    change vs 22 = str (toBe 4 Nv.toNat ++ toBe 2 l.length ++ [ub h.next, ub h.ttl] ++ h.src ++ h.dst) at q22
    change vs 23 = str l at q23
    change vs 24 = str (toBe 4 Nv.toNat ++ toBe 2 l.length ++ [ub h.next, ub h.ttl] ++ h.src ++ h.dst ++ l) at q24
    change vs 25 = str (toBe 4 Nv.toNat ++ toBe 2 l.length ++ [ub h.next, ub h.ttl] ++ h.src ++ h.dst ++ l) at q25
    change vs 26 = .int .i64 0 at q26
    simp only [putAll, Act.put, List.setIfInBounds_toArray, List.set_cons_zero, List.set_cons_succ, q0, q1, q2, q3, q4, q5, q6, q7, q8, q9, q10, q11, q13, q14, q15, q16, q17, q18, q19, q20, q21, q22, q23, q24, q25, q26]
    clear q0 q1 q2 q3 q4 q5 q6 q7 q8 q9 q10 q11 q13 q14 q15 q16 q17 q18 q19 q20 q21 q22 q23 q24 q25 q26
    clear hR
    go_wp2
    go_ret2
    refine ⟨?_, bthen hB1 (bthen (below_drew _) (grow_below hX))⟩
    unfold front6
    rw [← HN.out]
    rfl

theorem rput6_any (h : H6) (hf : h.fit) (l : List UInt8) (w : World) (hn : l.length ≤ 1099511627776) :
    Calls Tryd.prog 28 #[.agg h.cells.toArray, str l] w fun e w' => e = .returned (.tuple #[str (put6 h l).1, .int .i64 (put6 h l).2]) ∧ Below w.heap.size w w' := by
  unfold put6
  by_cases hx : h.flow < 0 ∨ 1048576 ≤ h.flow
  · rw [if_pos hx]
    exact rput6_arg h hf l w hx
  · rw [if_neg hx]
    by_cases hl : 65495 < l.length
    · rw [if_pos hl]
      exact rput6_len h hf l w hn (by omega) (by omega) hl
    · rw [if_neg hl]
      exact rput6_ok h hf l w (by omega) (by omega) (by omega)
end Go.Proofs.YtbcjkjmjljfhpaaDoor


/- The walk of layer 3's EntryPacks. No condition but those of the row. -/
import Derived.Test.YtfcnohhcgbebdaaAwake03
namespace Go.Proofs.Ytfcnohhcgbebdaa
open Go.RowKit
set_option linter.unusedVariables false
set_option linter.unusedSimpArgs false

theorem stackF_len (l : List UInt8) : ∀ (f k : Nat), (stackF l f k).1.length ≤ k + f := by
  intro f
  induction f with
  | zero => intro k; simp [stackF]
  | succ f ih =>
    intro k
    rw [stackF]
    split
    · simp
    · split
      · simp only [outs_length]; omega
      · have := ih (k + 1); omega

set_option maxHeartbeats 2000000 in
theorem walk_EntryPacks (w : World) (e0 : Int) (k0 : -9223372036854775808 ≤ e0 ∧ e0 ≤ 9223372036854775807) (e1 : Int) (k1 : 0 ≤ e1 ∧ e1 ≤ 255) (e2 : Bool) (e3 : Int) (k3 : 0 ≤ e3 ∧ e3 ≤ 255) (b : Bs) (hb : b.ok w) :
    Calls Try.prog 3 #[.agg #[.int .i64 e0, .int .u8 e1, .bool e2, .int .u8 e3], b.v] w fun e w' => e = .returned (.bool true) ∧ Below w.heap.size w w' := by
  obtain ⟨A, n, c, l⟩ := b
  have hll := hb.len
  simp only [Bs.v] at hll ⊢
  by_cases hs : n ≤ 300
  · have hs1 : ¬ (300 : Int) < (n : Int) := by omega
    have hf : (Ent.mk e0 e1 e2 e3).fit := ⟨k0.1, k0.2, k1.1, k1.2, k3.1, k3.2⟩
    have HF := Lib.hid hf
    have HO := Lib.hid hb
    clear hf hb k0 k1 k3
    go_enter Try.func3, Try.ntmps3
    go_wp2_with fail
    have hE := Blk.new w 23 [.int .i64 e0, .int .u8 e1, .bool e2, .int .u8 e3]
    refine (awake_any _).mono ?_
    rintro e w1 ⟨rfl, hb1⟩
    have HE1 := Lib.hid (hE.on hb1)
    have HW1 := Lib.hid (ballocd hb1)
    have HO1 := Lib.hid (HO.out.below HW1.out)
    clear hE hb1
    go_wp2_with (refine wpList_load_blk (by rfl) 23 (.tmp 2) (by rfl) w.heap.size (by rfl) 23 _ _ HE1.out Try.underlying23 rfl (by kernel_rfl) ?_)
    refine (pack_any ⟨e0, e1, e2, e3⟩ HF.out _).mono ?_
    rintro e w2 ⟨⟨A2, n2, c2, l2⟩, rfl, ho2, hl2, hb2⟩
    simp only at hl2
    subst hl2
    simp only [Bs.v]
    have HE2 := Lib.hid (HE1.out.on hb2)
    have HW2 := Lib.hid (bthen HW1.out hb2)
    have HO2 := Lib.hid (HO1.out.below hb2)
    have HX2 := Lib.hid ho2
    clear hb2 ho2 HE1 HW1 HO1
    go_wp2_with (refine wpList_load_blk (by rfl) 23 (.tmp 2) (by rfl) w.heap.size (by rfl) 23 _ _ HE2.out Try.underlying23 rfl (by kernel_rfl) ?_)
    refine (rpack_any ⟨e0, e1, e2, e3⟩ HF.out _).mono ?_
    rintro e w3 ⟨rfl, hb3⟩
    have HW3 := Lib.hid (bthen HW2.out hb3)
    have HO3 := Lib.hid (HO2.out.below hb3)
    have HX3 := Lib.hid (HX2.out.below hb3)
    clear hb3 HE2 HW2 HO2 HX2
    go_wp2_with fail
    refine (unpack_any A n c l w3 HO3.out.row HO3.out.le HO3.out.cap (by omega)).mono ?_
    rintro e w4 ⟨rfl, hb4⟩
    have hB4 := alloc_below w4 (.cells #[.int .i64 (unpE l).label, .int .u8 (unpE l).cls, .bool (unpE l).bot, .int .u8 (unpE l).ttl] 23)
    have HU4 := Lib.hid (Blk.new w4 23 [.int .i64 (unpE l).label, .int .u8 (unpE l).cls, .bool (unpE l).bot, .int .u8 (unpE l).ttl])
    have HW4 := Lib.hid (bthen (bthen HW3.out hb4) hB4)
    have HO4 := Lib.hid ((HO3.out.below hb4).below hB4)
    have HX4 := Lib.hid ((HX3.out.below hb4).below hB4)
    clear hb4 hB4 HW3 HO3 HX3
    go_wp2_with (refine wpList_str (by rfl) (.tmp 42) 24 9 5 rfl Try.underlying24 Try.underlying5 Try.underlying9 _ A n c l (by rfl) HO4.out.row ?_)
    refine (runpack_any l _ (by omega)).mono ?_
    rintro e w5 ⟨rfl, hb5⟩
    have hB5 := alloc_below w5 (.cells #[.int .i64 (unpE l).label, .int .u8 (unpE l).cls, .bool (unpE l).bot, .int .u8 (unpE l).ttl] 23)
    have HV5 := Lib.hid (Blk.new w5 23 [.int .i64 (unpE l).label, .int .u8 (unpE l).cls, .bool (unpE l).bot, .int .u8 (unpE l).ttl])
    have HU5 := Lib.hid ((HU4.out.on hb5).on hB5)
    have HW5 := Lib.hid (bthen (bthen HW4.out hb5) hB5)
    have HO5 := Lib.hid ((HO4.out.below hb5).below hB5)
    have HX5 := Lib.hid ((HX4.out.below hb5).below hB5)
    clear hb5 hB5 HW4 HO4 HX4 HU4
    go_wp2_with fail
    refine (stack_any A n c l _ HO5.out.row HO5.out.le HO5.out.cap (by omega)).mono ?_
    rintro e w6 ⟨A6, c6, rfl, hown6, hb6⟩
    have HV6 := Lib.hid (HV5.out.on hb6)
    have HU6 := Lib.hid (HU5.out.on hb6)
    have HW6 := Lib.hid (bthen HW5.out hb6)
    have HO6 := Lib.hid (HO5.out.below hb6)
    have HX6 := Lib.hid (HX5.out.below hb6)
    have HY6 := Lib.hid hown6
    clear hb6 hown6 HW5 HO5 HX5 HU5 HV5
    obtain ⟨S, hS⟩ : ∃ S, stackF l 16 0 = S := ⟨_, rfl⟩
    have HS := Lib.hid hS
    rw [hS] at HY6 ⊢
    clear hS
    go_wp2_with (refine wpList_str (by rfl) (.tmp 54) 24 9 5 rfl Try.underlying24 Try.underlying5 Try.underlying9 _ A n c l (by rfl) HO6.out.row ?_)
    refine (rstack_any l _ (by omega)).mono ?_
    rintro e w7 ⟨A7, c7, rfl, hown7, hb7⟩
    rw [HS.out] at hown7 ⊢
    have HV7 := Lib.hid (HV6.out.on hb7)
    have HU7 := Lib.hid (HU6.out.on hb7)
    have HW7 := Lib.hid (bthen HW6.out hb7)
    have HX7 := Lib.hid (HX6.out.below hb7)
    have HY7 := Lib.hid (HY6.out.below hb7)
    have HZ7 := Lib.hid hown7
    clear hb7 hown7 HW6 HO6 HX6 HU6 HV6 HY6
    go_wp2_with (first
      | (refine wpList_str (by rfl) (.tmp 60) 24 9 5 rfl Try.underlying24 Try.underlying5 Try.underlying9 _ A2 n2 c2 _ (by rfl) HX7.out.row ?_)
      | (refine wpList_load_blk (by rfl) 23 (.tmp 10) (by rfl) w4.heap.size (by rfl) 23 _ _ HU7.out Try.underlying23 rfl (by kernel_rfl) ?_)
      | (refine wpList_load_blk (by rfl) 23 (.tmp 12) (by rfl) w5.heap.size (by rfl) 23 _ _ HV7.out Try.underlying23 rfl (by kernel_rfl) ?_))
    refine (exact_same A6 A7 S.1.length c6 c7 S.1 w7 _ HY7.out.row HZ7.out.row (by have := stackF_len l 16 0; rw [HS.out] at this; omega)).mono ?_
    rintro e w8 ⟨rfl, hb8⟩
    go_wp2
    go_ret
    exact ⟨rfl, bthen HW7.out hb8⟩
  · have hs1 : (300 : Int) < (n : Int) := by omega
    go_enter Try.func3, Try.ntmps3
    go_wp2_with fail
    refine (awake_any _).mono ?_
    rintro e w1 ⟨rfl, hb1⟩
    go_wp2
    go_ret
    exact ⟨rfl, ballocd hb1⟩

end Go.Proofs.Ytfcnohhcgbebdaa

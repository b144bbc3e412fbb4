/- The walk of layer 25 (permit): Never. No condition but those of the rows. -/
import Derived.Test.YtimkgkokidhhpaaLaw25
import Derived.Test.YtimkgkokidhhpaaOpen
import Derived.Test.YtimkgkokidhhpaaOpenM
import Derived.Test.YtimkgkokidhhpaaIcmp3
import Derived.Deep.DeepCutAuto
namespace Go.Proofs.Ytimkgkokidhhpaa
open Go.RowKit
set_option linter.unusedVariables false
set_option maxRecDepth 20000
set_option linter.unusedSimpArgs false

theorem put4_z (h : H4) (l : List UInt8) (he : (put4 h l).2 = 0) : ¬ h.bad ∧ 20 + h.opt.length + l.length ≤ 65535 ∧ (put4 h l).1 = pkt4 h l := by
  unfold put4 at he ⊢
  by_cases hb : h.bad
  · rw [if_pos hb] at he; simp at he
  · rw [if_neg hb] at he ⊢
    by_cases hs : 65535 < 20 + h.opt.length + l.length
    · rw [if_pos hs] at he; simp at he
    · rw [if_neg hs]; exact ⟨hb, by omega, rfl⟩
theorem put6_z (h : H6) (l : List UInt8) (he : (put6 h l).2 = 0) : 0 ≤ h.flow ∧ h.flow < 1048576 ∧ l.length ≤ 65495 ∧ (put6 h l).1 = pkt6 h l := by
  unfold put6 at he ⊢
  by_cases hb : h.flow < 0 ∨ 1048576 ≤ h.flow
  · rw [if_pos hb] at he; simp at he
  · rw [if_neg hb] at he ⊢
    by_cases hs : 65495 < l.length
    · rw [if_pos hs] at he; simp at he
    · rw [if_neg hs]; exact ⟨by omega, by omega, by omega, rfl⟩
theorem front_kind (k : Int) (r : List UInt8) : headIs (fun x => kinds.contains x) (frontK k ++ r) = true := by
  unfold frontK
  split
  · rfl
  · split <;> rfl
theorem front_low (k : Int) (r : List UInt8) : headIs (fun x => decide (x < 128)) (front24 k ++ r) = true := by
  unfold front24
  split
  · rfl
  · split <;> rfl
theorem never4 (m : Mm) (s d : List UInt8) (hs : s.length = 4) (hd : d.length = 4) (he : (put23 m s d).2 = 0) : fourF (put23 m s d).1 = false ∧ (put23 m s d).1.length ≤ 70000 := by
  unfold put23 at he ⊢
  by_cases hb : m.bad
  · rw [if_pos hb] at he; simp at he
  · rw [if_neg hb] at he ⊢
    by_cases hse : (stack22 m.st).2 ≠ 0
    · rw [if_pos hse] at he; exact absurd he hse
    · rw [if_neg hse] at he ⊢
      obtain ⟨hx, hl, e⟩ := put4_z _ _ he
      rw [e]
      have hf := head23_fit s d hs hd
      refine ⟨?_, by rw [pkt4_length _ hf.ok]; omega⟩
      rw [fourF_pkt _ hf hx _ hl]
      have hk : headIs (fun x => kinds.contains x) (body23 m) = true := by unfold body23; rw [List.append_assoc]; exact front_kind _ _
      rw [hk]
      simp [head23]
theorem never6 (m : Mm) (s d : List UInt8) (hs : s.length = 16) (hd : d.length = 16) (he : (put24 m s d).2 = 0) : (∀ b, sixF (put24 m s d).1 b = false) ∧ (put24 m s d).1.length ≤ 70000 := by
  unfold put24 at he ⊢
  by_cases hb : m.bad6
  · rw [if_pos hb] at he; simp at he
  · rw [if_neg hb] at he ⊢
    by_cases hse : (stack22 m.st).2 ≠ 0
    · rw [if_pos hse] at he; exact absurd he hse
    · rw [if_neg hse] at he ⊢
      obtain ⟨x0, x1, hl, e⟩ := put6_z _ _ he
      rw [e]
      have hf := head24_fit s d hs hd
      refine ⟨fun b => ?_, by rw [pkt6_length _ hf.ok]; omega⟩
      rw [sixF_pkt _ hf x0 x1 _ hl]
      have hk : headIs (fun x => decide (x < 128)) (body24 m s d) = true := by unfold body24; rw [List.append_assoc]; exact front_low _ _
      rw [hk]
      simp [head24]
theorem bv_four (l : List UInt8) (h : 4 ≤ l.length) : ∃ a b c d t, l = a :: b :: c :: d :: t := by
  match l, h with
  | a :: b :: c :: d :: t, _ => exact ⟨a, b, c, d, t, rfl⟩

theorem sizeM (m : Mm) : (Try.prog.info? 32).map (·.size) = some m.cells.length := by show _ = some 4; kernel_rfl
set_option maxHeartbeats 4000000 in
theorem walk_PermitNever (w : World) (m : Mm) (hm : m.ok w) (src dst : List UInt8) (hsl : src.length = 16) (hdl : dst.length = 16) : Calls Try.prog 4 #[.agg m.cells.toArray, .agg (bv src).toArray, .agg (bv dst).toArray] w fun e w' => e = .returned (.bool true) ∧ Below w.heap.size w w' := by
  have HSL := Lib.hid hsl
  have HDL := Lib.hid hdl
  by_cases hbl : m.beg.length ≤ 1400
  · have hbl' : ¬ (1400 : Int) < (m.beg.length : Int) := by omega
    by_cases hnn : m.n ≤ 40
    · have hnn' : ¬ (40 : Int) < (m.n : Int) := by omega
      obtain ⟨a0, a1, a2, a3, at', ha⟩ := bv_four src (by omega)
      obtain ⟨b0, b1, b2, b3, bt', hb⟩ := bv_four dst (by omega)
      have HS4 := Lib.hid ha
      have HD4 := Lib.hid hb
      have okW : ∀ W, Below w.heap.size w W → m.ok W := fun W hB => ⟨hm.kind, hm.mtu, hm.beg, (hm.row.below hB).more hB.size, hm.le, hm.cap, hm.fit⟩
      have r4 := fun W (hB : Below w.heap.size w W) => rput23_any m W (okW W hB) (by omega) (by omega) [a0, a1, a2, a3] [b0, b1, b2, b3] rfl rfl
      have r6 := fun W (hB : Below w.heap.size w W) => rput24_any m W (okW W hB) (by omega) (by omega) src dst hsl hdl
      have l1 := never4 m [a0, a1, a2, a3] [b0, b1, b2, b3] rfl rfl
      have l2 := never6 m src dst hsl hdl
      cases hp1 : put23 m [a0, a1, a2, a3] [b0, b1, b2, b3] with
      | mk P1 e1 =>
      cases hp2 : put24 m src dst with
      | mk P2 e2 =>
      simp only [hp1, hp2] at r4 r6 l1 l2
      have R4 := Lib.hid r4
      have R6 := Lib.hid r6
      have L1 := Lib.hid l1
      have L2 := Lib.hid l2
      clear r4 r6 l1 l2 hp1 hp2 ha hb okW hm hsl hdl
      go_enter Try.func4, Try.ntmps4
      go_upto_region 1 with (first
        | (refine wpList_box_blk (by rfl) 32 _ rfl m.cells rfl ?_; intro w1 hk1 hB1 hs1)
        | (refine wpList_box_blk (by rfl) 33 _ rfl (bv src) rfl ?_; intro w2 hk2 hB2 hs2)
        | (refine wpList_box_blk (by rfl) 33 _ rfl (bv dst) rfl ?_; intro w3 hk3 hB3 hs3))
      have hW3 := bthen (bthen hB1 hB2) hB3
      replace hk1 := (hk1.on hB2).on hB3
      rw [hs1] at hk2
      replace hk2 := hk2.on hB3
      rw [hs2, hs1] at hk3
      go_wp2_with fail
      refine (awake_any w3).mono ?_
      rintro e w4 ⟨rfl, hb⟩
      have HW := Lib.hid (bthen hW3 hb)
      have HB := Lib.hid (hk1.on hb)
      have HS := Lib.hid (hk2.on hb)
      have HD := Lib.hid (hk3.on hb)
      clear hk1 hk2 hk3 hs1 hs2 hs3 hB1 hB2 hB3 hW3 hb
      have d2 : w4.cell? ⟨w.heap.size, 2, none⟩ = some (str m.beg) := HB.out.cell 2
      have d3 : w4.cell? ⟨w.heap.size, 3, none⟩ = some (.slice m.A m.n m.c) := HB.out.cell 3
      go_upto_region 6 with fail
      clear d2 d3
      have s0 : w4.cell? ⟨w.heap.size + 1, 0, none⟩ = some (.int .u8 (a0.toNat : Int)) := (HS.out.cell 0).trans (by rw [HS4.out]; rfl)
      have s1 : w4.cell? ⟨w.heap.size + 1, 1, none⟩ = some (.int .u8 (a1.toNat : Int)) := (HS.out.cell 1).trans (by rw [HS4.out]; rfl)
      have s2 : w4.cell? ⟨w.heap.size + 1, 2, none⟩ = some (.int .u8 (a2.toNat : Int)) := (HS.out.cell 2).trans (by rw [HS4.out]; rfl)
      have s3 : w4.cell? ⟨w.heap.size + 1, 3, none⟩ = some (.int .u8 (a3.toNat : Int)) := (HS.out.cell 3).trans (by rw [HS4.out]; rfl)
      have t0 : w4.cell? ⟨w.heap.size + 1 + 1, 0, none⟩ = some (.int .u8 (b0.toNat : Int)) := (HD.out.cell 0).trans (by rw [HD4.out]; rfl)
      have t1 : w4.cell? ⟨w.heap.size + 1 + 1, 1, none⟩ = some (.int .u8 (b1.toNat : Int)) := (HD.out.cell 1).trans (by rw [HD4.out]; rfl)
      have t2 : w4.cell? ⟨w.heap.size + 1 + 1, 2, none⟩ = some (.int .u8 (b2.toNat : Int)) := (HD.out.cell 2).trans (by rw [HD4.out]; rfl)
      have t3 : w4.cell? ⟨w.heap.size + 1 + 1, 3, none⟩ = some (.int .u8 (b3.toNat : Int)) := (HD.out.cell 3).trans (by rw [HD4.out]; rfl)
      go_wp2_with (first
        | (refine wpList_load_blk (by rfl) 32 _ rfl w.heap.size rfl 32 _ _ HB.out Try.underlying32 rfl (sizeM m) ?_)
        | (refine wpList_value (by rfl) (exec_buildA4 _ _ _ _ rfl a0 a1 a2 a3 rfl rfl rfl rfl) ?_)
        | (refine wpList_value (by rfl) (exec_buildA4 _ _ _ _ rfl b0 b1 b2 b3 rfl rfl rfl rfl) ?_))
      clear s0 s1 s2 s3 t0 t1 t2 t3
      refine (R4.out w4 HW.out).mono ?_
      rintro e w5 ⟨rfl, hb⟩
      replace HW := Lib.hid (bthen HW.out hb)
      replace HB := Lib.hid (HB.out.on hb)
      replace HS := Lib.hid (HS.out.on hb)
      replace HD := Lib.hid (HD.out.on hb)
      clear hb
      go_wp2_with (first
        | (refine wpList_load_blk (by rfl) 32 _ rfl w.heap.size rfl 32 _ _ HB.out Try.underlying32 rfl (sizeM m) ?_)
        | (refine wpList_load_blk (by rfl) 33 _ rfl (w.heap.size + 1) rfl 33 _ _ HS.out Try.underlying33 rfl (size24 _ HSL.out) ?_)
        | (refine wpList_load_blk (by rfl) 33 _ rfl (w.heap.size + 1 + 1) rfl 33 _ _ HD.out Try.underlying33 rfl (size24 _ HDL.out) ?_))
      refine (R6.out w5 HW.out).mono ?_
      rintro e w6 ⟨rfl, hb⟩
      replace HW := Lib.hid (bthen HW.out hb)
      clear hb HB HS HD
      by_cases z1 : e1 = 0
      · subst z1
        replace L1 := Lib.hid (L1.out rfl)
        by_cases z2 : e2 = 0
        · subst z2
          replace L2 := Lib.hid (L2.out rfl)
          go_wp2_with (refine wpList_toBytes (by rfl) _ 9 22 5 rfl Try.underlying22 Try.underlying5 Try.underlying9 P1 rfl ?_ (by have := L1.out.2; simp only [maxLen]; omega); intro A1 c1 w7 hr hb2 hc hm)
          replace HW := Lib.hid (bthen HW.out hb2)
          clear hb2
          refine (permFour_any A1 P1.length c1 P1 w7 hr hc hm (by have := L1.out.2; omega)).mono ?_
          rintro e w8 ⟨rfl, hb⟩
          rw [L1.out.1]
          replace HW := Lib.hid (bthen HW.out hb)
          clear hb hr hc hm
          go_wp2_with (refine wpList_toBytes (by rfl) _ 9 22 5 rfl Try.underlying22 Try.underlying5 Try.underlying9 P2 rfl ?_ (by have := L2.out.2; simp only [maxLen]; omega); intro A2 c2 w9 hr hb2 hc hm)
          replace HW := Lib.hid (bthen HW.out hb2)
          clear hb2
          refine (permSix_any A2 P2.length c2 P2 true w9 hr hc hm (by have := L2.out.2; omega)).mono ?_
          rintro e w10 ⟨rfl, hb⟩
          rw [L2.out.1 true]
          replace HW := Lib.hid (bthen HW.out hb)
          clear hb hr hc hm
          go_wp2_with (refine wpList_toBytes (by rfl) _ 9 22 5 rfl Try.underlying22 Try.underlying5 Try.underlying9 P2 rfl ?_ (by have := L2.out.2; simp only [maxLen]; omega); intro A3 c3 w11 hr hb2 hc hm)
          replace HW := Lib.hid (bthen HW.out hb2)
          clear hb2
          refine (permSix_any A3 P2.length c3 P2 false w11 hr hc hm (by have := L2.out.2; omega)).mono ?_
          rintro e w12 ⟨rfl, hb⟩
          rw [L2.out.1 false]
          replace HW := Lib.hid (bthen HW.out hb)
          clear hb hr hc hm
          go_wp2_with fail
          go_ret
          exact ⟨rfl, HW.out⟩
        · have z2' : (e2 != 0) = true := by simpa [bne] using z2
          go_wp2_with (refine wpList_toBytes (by rfl) _ 9 22 5 rfl Try.underlying22 Try.underlying5 Try.underlying9 P1 rfl ?_ (by have := L1.out.2; simp only [maxLen]; omega); intro A1 c1 w7 hr hb2 hc hm)
          replace HW := Lib.hid (bthen HW.out hb2)
          clear hb2
          refine (permFour_any A1 P1.length c1 P1 w7 hr hc hm (by have := L1.out.2; omega)).mono ?_
          rintro e w8 ⟨rfl, hb⟩
          rw [L1.out.1]
          replace HW := Lib.hid (bthen HW.out hb)
          clear hb hr hc hm
          go_wp2_with fail
          go_ret
          exact ⟨rfl, HW.out⟩
      · have z1' : (e1 != 0) = true := by simpa [bne] using z1
        by_cases z2 : e2 = 0
        · subst z2
          replace L2 := Lib.hid (L2.out rfl)
          go_wp2_with (refine wpList_toBytes (by rfl) _ 9 22 5 rfl Try.underlying22 Try.underlying5 Try.underlying9 P2 rfl ?_ (by have := L2.out.2; simp only [maxLen]; omega); intro A2 c2 w7 hr hb2 hc hm)
          replace HW := Lib.hid (bthen HW.out hb2)
          clear hb2
          refine (permSix_any A2 P2.length c2 P2 true w7 hr hc hm (by have := L2.out.2; omega)).mono ?_
          rintro e w8 ⟨rfl, hb⟩
          rw [L2.out.1 true]
          replace HW := Lib.hid (bthen HW.out hb)
          clear hb hr hc hm
          go_wp2_with (refine wpList_toBytes (by rfl) _ 9 22 5 rfl Try.underlying22 Try.underlying5 Try.underlying9 P2 rfl ?_ (by have := L2.out.2; simp only [maxLen]; omega); intro A3 c3 w9 hr hb2 hc hm)
          replace HW := Lib.hid (bthen HW.out hb2)
          clear hb2
          refine (permSix_any A3 P2.length c3 P2 false w9 hr hc hm (by have := L2.out.2; omega)).mono ?_
          rintro e w10 ⟨rfl, hb⟩
          rw [L2.out.1 false]
          replace HW := Lib.hid (bthen HW.out hb)
          clear hb hr hc hm
          go_wp2_with fail
          go_ret
          exact ⟨rfl, HW.out⟩
        · have z2' : (e2 != 0) = true := by simpa [bne] using z2
          go_wp2_with fail
          go_ret
          exact ⟨rfl, HW.out⟩
    · have hnn' : (40 : Int) < (m.n : Int) := by omega
      clear hm hsl hdl
      go_enter Try.func4, Try.ntmps4
      go_upto_region 1 with (first
        | (refine wpList_box_blk (by rfl) 32 _ rfl m.cells rfl ?_; intro w1 hk1 hB1 hs1)
        | (refine wpList_box_blk (by rfl) 33 _ rfl (bv src) rfl ?_; intro w2 hk2 hB2 hs2)
        | (refine wpList_box_blk (by rfl) 33 _ rfl (bv dst) rfl ?_; intro w3 hk3 hB3 hs3))
      have hW3 := bthen (bthen hB1 hB2) hB3
      replace hk1 := (hk1.on hB2).on hB3
      rw [hs1] at hk2
      replace hk2 := hk2.on hB3
      rw [hs2, hs1] at hk3
      go_wp2_with fail
      refine (awake_any w3).mono ?_
      rintro e w4 ⟨rfl, hb⟩
      have HW := Lib.hid (bthen hW3 hb)
      have HB := Lib.hid (hk1.on hb)
      have HS := Lib.hid (hk2.on hb)
      have HD := Lib.hid (hk3.on hb)
      clear hk1 hk2 hk3 hs1 hs2 hs3 hB1 hB2 hB3 hW3 hb
      have d2 : w4.cell? ⟨w.heap.size, 2, none⟩ = some (str m.beg) := HB.out.cell 2
      have d3 : w4.cell? ⟨w.heap.size, 3, none⟩ = some (.slice m.A m.n m.c) := HB.out.cell 3
      go_wp2_with fail
      go_ret
      exact ⟨rfl, HW.out⟩
  · have hbl' : (1400 : Int) < (m.beg.length : Int) := by omega
    clear hm hsl hdl
    go_enter Try.func4, Try.ntmps4
    go_upto_region 1 with (first
      | (refine wpList_box_blk (by rfl) 32 _ rfl m.cells rfl ?_; intro w1 hk1 hB1 hs1)
      | (refine wpList_box_blk (by rfl) 33 _ rfl (bv src) rfl ?_; intro w2 hk2 hB2 hs2)
      | (refine wpList_box_blk (by rfl) 33 _ rfl (bv dst) rfl ?_; intro w3 hk3 hB3 hs3))
    have hW3 := bthen (bthen hB1 hB2) hB3
    replace hk1 := (hk1.on hB2).on hB3
    rw [hs1] at hk2
    replace hk2 := hk2.on hB3
    rw [hs2, hs1] at hk3
    go_wp2_with fail
    refine (awake_any w3).mono ?_
    rintro e w4 ⟨rfl, hb⟩
    have HW := Lib.hid (bthen hW3 hb)
    have HB := Lib.hid (hk1.on hb)
    have HS := Lib.hid (hk2.on hb)
    have HD := Lib.hid (hk3.on hb)
    clear hk1 hk2 hk3 hs1 hs2 hs3 hB1 hB2 hB3 hW3 hb
    have d2 : w4.cell? ⟨w.heap.size, 2, none⟩ = some (str m.beg) := HB.out.cell 2
    have d3 : w4.cell? ⟨w.heap.size, 3, none⟩ = some (.slice m.A m.n m.c) := HB.out.cell 3
    go_wp2_with fail
    go_ret
    exact ⟨rfl, HW.out⟩
end Go.Proofs.Ytimkgkokidhhpaa

/- What ext.Stack (layer 22) computes. No condition but sizes. -/
import Derived.Test.YtbabkcdhihmomaaX22b
import Derived.Test.YtbabkcdhihmomaaExt22s
namespace Go.Proofs.Ytbabkcdhihmomaa
open Go.RowKit
set_option linter.unusedVariables false
set_option maxRecDepth 20000
set_option linter.unusedSimpArgs false

theorem ent_agg (w : World) (g : Nat) (x : Ent) (h : Blk w g 54 x.cells) : True := trivial
set_option maxHeartbeats 4000000 in
theorem stack22p_any (A : Option Addr) (n c : Nat) (l : List Ent) (w : World) (hr : Row w w.heap.size 4 A n (evs l)) (hf : ∀ x ∈ l, x.fit) (hn : n ≤ 1099511627776) :
    Calls Try.prog 12 #[.slice A n c] w fun e w' => ∃ A' c', e = .returned (.tuple #[.slice A' (stack22 l).1.length c', .int .i64 (stack22 l).2]) ∧ Own w' w.heap.size 5 1 A' (stack22 l).1.length c' (bv (stack22 l).1) ∧ Below w.heap.size w w' := by
  have hlen := ent_len hr
  by_cases h16 : 16 < n
  · have h16' : (16 : Int) < (n : Int) := by omega
    have hx : Hid (stack22 l = ([], 51)) := Lib.hid (by unfold stack22; rw [if_pos (by omega)])
    clear hr hf
    go_enter Try.func12, Try.ntmps12
    go_wp2_with fail
    go_ret2
    exact ⟨none, 0, by rw [hx.out]; rfl, by rw [hx.out]; exact Own.nil _ _ _ _ _, Below.refl _ _⟩
  · have h16' : ¬ (16 : Int) < (n : Int) := by omega
    have HR := Lib.hid hr
    have HF := Lib.hid hf
    have HL := Lib.hid hlen
    clear hr hf hlen
    go_enter Try.func12, Try.ntmps12
    go_upto_region 4 with (first
      | (refine wpList_alloc_blk (by rfl) 51 rfl (Xo.cells ⟨0, 0, none, 0, 0, []⟩) zeroXo ?_; intro w2 hb2 hB2 hs2)
      | (refine wpList_store_all (by rfl) 51 _ _ rfl w.heap.size (Xo.cells ⟨1, 1, none, 0, 0, []⟩) rfl rfl 51 _ hb2 (sizeXo _) rfl (oneXo _) ?_; intro w3 hb3 hg3 hs3))
    have hB3 : Below w.heap.size w w3 := bgrown hB2 hg3 hB2.size (Nat.le_refl _)
    obtain ⟨gx, hgx⟩ : ∃ g, w.heap.size = g := ⟨_, rfl⟩
    rw [hgx] at hb3
    try rw [hgx]
    have HGX := Lib.hid hgx
    have HB3 := Lib.hid (show Below gx w w3 by rw [← hgx]; exact hB3)
    have HBX := Lib.hid (show Blk w3 gx 51 [.int .u8 1, .int .u8 1, .slice none 0 0] from hb3)
    clear hb2 hB2 hs2 hb3 hg3 hs3 hB3 hgx
    go_wp2_with fail
    go_loopw [15] (fun i wr => ∃ (k q : Nat) (A2 : Option Addr) (c2 : Nat), k ≤ n ∧ i = .int .i64 (k : Nat) ∧ (∀ x ∈ l.take k, x.good) ∧ q = 4 * k ∧ Blk wr gx 51 [.int .u8 1, .int .u8 1, .slice A2 q c2] ∧ Own wr gx 5 1 A2 q c2 (bv ((l.take k).flatMap packL)) ∧ Below gx w wr) (fun i _ => n - (intOf i).toNat)
    case atStart => exact ⟨0, 0, none, 0, by omega, rfl, by simp, rfl, HBX.out, Own.nil _ _ _ _ _, HB3.out⟩
    case round =>
      obtain ⟨k, q, A2, c2, hk, rfl, hgd, hq, hwb, hob, hbe⟩ := hrel
      have HGD := Lib.hid hgd
      have HWB := Lib.hid hwb
      have HOB := Lib.hid hob
      have HBE := Lib.hid hbe
      have HQ := Lib.hid hq
      have hq16 : q ≤ 64 := by omega
      clear hgd hwb hob hbe hq
      by_cases hlt : k < n
      · obtain ⟨x, hx⟩ := get_ex l (k := k) (by rw [HL.out]; omega)
        have hxf := HF.out x (List.mem_of_getElem? hx)
        obtain ⟨b, o, rfl, hb, a0, a1, a2, a3⟩ := ent_row (HR.out.below (show Below w.heap.size w wr by have := HBE.out; rw [← HGX.out] at this; exact this)) k x hx
        have HS := Lib.hid (packs_snoc l k x hx)
        have HX := Lib.hid hx
        have HTK := Lib.hid (take_snoc l k x hx)
        have PK := fun W => pack_any x hxf W
        have hgl := HWB.out.lt
        obtain ⟨lb, cl, bt, tt⟩ := x
        dsimp only at a0 a1 a2 a3 PK
        by_cases hgo : (⟨lb, cl, bt, tt⟩ : Ent).good
        · have he : packE ⟨lb, cl, bt, tt⟩ = 0 := by unfold packE; rw [if_pos hgo]
          rw [he] at PK
          have HP := Lib.hid PK
          have HGO := Lib.hid hgo
          clear hx hxf PK he hgo
          go_wp2_with fail
          refine (HP.out _).mono ?_
          rintro e w2 ⟨⟨RA, rn, rc, rl⟩, rfl, hrok, hrl, hb2⟩
          obtain ⟨w1, hw1⟩ : ∃ q, (wr.alloc (.cells #[.int .i64 lb, .int .u8 cl, .bool bt, .int .u8 tt] 54)) = q := ⟨_, rfl⟩
          have hb1 : Below wr.heap.size wr w1 := by rw [← hw1]; exact alloc_below _ _
          try rw [hw1] at hb2
          dsimp only at hrl
          subst hrl
          have hrn : rn = 4 := by have := hrok.len; rw [packL_four HGO.out] at this; exact this.symm
          subst hrn
          have hb12 : Below wr.heap.size wr w2 := bthen hb1 hb2
          have HRK := Lib.hid hrok
          have hwb2 := HWB.out.on hb12
          have hob2 := HOB.out.below hb12
          have HWB2 := Lib.hid hwb2
          have HOB2 := Lib.hid hob2
          have HB12 := Lib.hid hb12
          have d2 : w2.cell? ⟨gx, 2, none⟩ = some (.slice A2 q c2) := hwb2.cell 2
          clear hrok hb1 hb2 hw1 hb12 hwb2 hob2 a0 a1 a2 a3
          dsimp only [Bs.v]
          go_wp2_with (first
            | (refine wpList_append2 (by rfl) _ _ rfl gx A2 q c2 _ rfl HOB2.out _ _ 4 rc (bv (packL ⟨lb, cl, bt, tt⟩)) rfl HRK.out.row (one_bv _) (by omega) (by have := HWB2.out.lt; omega) ?_; intro A5 c5 w5 hown5 hg5; have hw5 := HWB2.out.grown hg5 (row_ne2 HOB2.out HWB2.out (by decide)))
            | (refine wpList_store_sl (by rfl) _ _ rfl gx 2 A5 (q + 4) c5 rfl rfl 51 _ _ hw5 rfl ?_; intro w6 hb6 hg6 hs6))
          go_roundw
          case rel =>
            have hwr0 : gx ≤ wr.heap.size := by have := HWB.out.lt; omega
            refine ⟨k + 1, q + 4, A5, c5, by omega, by simp, ?_, by have := HQ.out; omega, hb6, ?_, ?_⟩
            · intro y hy
              rw [HTK.out] at hy
              rcases List.mem_append.1 hy with h | h
              · exact HGD.out y h
              · simp only [List.mem_singleton] at h
                subst h
                exact HGO.out
            · rw [HS.out, bv_append]
              exact own_other hown5 hw5 (by decide) hg6
            · exact bgrown (bgrown' (HBE.out.trans (HB12.out.mono hwr0)) hg5 (by have := HWB2.out.lt; omega) (fun g hg => (HOB2.out.lt g hg).1)) hg6 (by have := hw5.lt; omega) (Nat.le_refl _)
          case measure => simp [intOf]; omega
        · have he : packE ⟨lb, cl, bt, tt⟩ = 1 := by unfold packE; rw [if_neg hgo]
          rw [he] at PK
          have HP := Lib.hid PK
          have hno : stack22 l = ([], 1) := by
            unfold stack22
            rw [if_neg (by rw [HL.out]; omega), if_neg]
            intro hall
            have := List.all_eq_true.1 hall _ (List.mem_of_getElem? hx)
            exact hgo (by simpa using this)
          have HNO := Lib.hid hno
          clear hx hxf PK he hgo hno
          go_wp2_with fail
          refine (HP.out _).mono ?_
          rintro e w2 ⟨⟨RA, rn, rc, rl⟩, rfl, hrok, hrl, hb2⟩
          have HB2 := Lib.hid (bthen (alloc_below wr _) hb2)
          clear a0 a1 a2 a3 hrl hrok hb2
          dsimp only [Bs.v]
          go_wp2_with fail
          go_ret2
          exact ⟨none, 0, by rw [HNO.out]; rfl, by rw [HNO.out]; exact Own.nil _ _ _ _ _, by rw [HGX.out]; exact HBE.out.trans (HB2.out.mono (by have := HWB.out.lt; omega))⟩
      · obtain rfl : k = n := by omega
        have hta : l.take k = l := List.take_of_length_le (by rw [HL.out]; omega)
        rw [hta] at HGD HOB
        have hx : stack22 l = (hd22 (obB ⟨1, 1, l.flatMap packL⟩), 0) := by
          unfold stack22
          rw [if_neg (by rw [HL.out]; omega), if_pos]
          exact List.all_eq_true.2 fun y hy => by simpa using HGD.out y hy
        have hsl : (l.flatMap packL).length = q := by rw [packs_len _ HGD.out, HL.out, HQ.out]
        obtain ⟨S, hS⟩ : ∃ S, l.flatMap packL = S := ⟨_, rfl⟩
        rw [hS] at hsl hx HOB
        have HSX := Lib.hid hx
        have hq4 := HQ.out
        have hext : ext22 [⟨1, 1, S⟩] = (hd22 (obB ⟨1, 1, S⟩), 0) := by
          unfold ext22
          rw [if_pos (by simp [Ob.good, hsl]; omega)]
          simp [obsB]
        have HX := Lib.hid hext
        have hbx := HWB.out
        have HXO : Hid (Xo.ok (wr.alloc (.cells #[.int .u8 1, .int .u8 1, .slice A2 q c2] 51)) ⟨1, 1, A2, q, c2, S⟩) := Lib.hid ⟨by simp, by simp, (HOB.out.alloc _).row, HOB.out.le, HOB.out.cap⟩
        clear hta hx hS hext hsl hq4
        go_wp2_with (refine wpList_load_blk (by rfl) 51 _ rfl gx rfl 51 _ _ hbx Try.underlying51 rfl (sizeXo ⟨1, 1, A2, q, c2, S⟩) ?_)
        refine (put22_any _ 1 1 [⟨1, 1, A2, q, c2, S⟩] _ (by rw [World.size_alloc]; exact Row.new (n := 1) (sz := 3) wr #[.int .u8 1, .int .u8 1, .slice A2 q c2] rfl) (by intro y hy; simp at hy; subst hy; exact HXO.out) (by omega)).mono ?_
        rintro e w3 ⟨A', c', rfl, hown', hb3⟩
        rw [show List.map Xo.ob [⟨1, 1, A2, q, c2, S⟩] = [⟨1, 1, S⟩] from rfl, HX.out] at hown' ⊢
        have HOW := Lib.hid hown'
        have HB5 := Lib.hid hb3
        clear hown' hb3 hbx
        go_wp2_with fail
        go_ret2
        exact ⟨A', c', by rw [HSX.out]; rfl, by rw [HSX.out]; exact HOW.out.mono (by have := HBE.out.size; have := HGX.out; simp; omega), by rw [HGX.out]; exact HBE.out.trans ((ballocd HB5.out).mono (by have := HWB.out.lt; omega))⟩
end Go.Proofs.Ytbabkcdhihmomaa

/- The walk of Icmp4Turned (layer 23). No condition but what the package's table holds. -/
import Derived.Test.YtckbleiikldloaaDoorLaw23a
import Derived.Test.YtckbleiikldloaaDoorG23
namespace Go.Proofs.YtckbleiikldloaaDoor
open Go.RowKit
set_option linter.unusedVariables false
set_option maxRecDepth 20000
set_option linter.unusedSimpArgs false

def d24 : List UInt8 := [10, 0, 0, 9]
theorem arr24_d : (bv d24).toArray = #[.int .u8 10, .int .u8 0, .int .u8 0, .int .u8 9] := by kernel_rfl
set_option maxRecDepth 100000 in
set_option maxHeartbeats 4000000 in
theorem walk_Icmp4Turned (W : World) (hT : Typ23 W) (m : Mp) (hm : m.ok W) (s : List UInt8) (hs : s.length = 4) (bit : Int) (hbit : 0 ≤ bit ∧ bit ≤ 65535) :
    Calls Tryd.prog 6 #[.agg m.cells.toArray, .agg (bv s).toArray, .int .u16 bit] W fun e w' => e = .returned (.bool true) ∧ Below W.heap.size W w' := by
  obtain ⟨hbit0, hbit1⟩ := hbit
  have HT := Lib.hid hT
  have HM := Lib.hid hm
  have HS := Lib.hid hs
  have hpl : m.pn ≤ 9223372036854775807 := by have h1 := hm.ble; have h2 := hm.bcap; unfold maxLen at h2; omega
  have hnl : m.n ≤ 9223372036854775807 := by have h1 := hm.le; have h2 := hm.cap; unfold maxLen at h2; omega
  have hsl := hm.slen
  clear hT hs
  by_cases h1 : 400 < m.pn
  · have h1i : (400 : Int) < (m.pn : Int) := by omega
    go_enter Tryd.func6, Tryd.ntmps6
    go_upto_region 1 with (first
      | (refine wpList_box_blk (by rfl) 25 (.tmp 0) rfl m.cells rfl ?_; intro w1 hb1 hB1 hs1; clear hs1)
      | (refine wpList_box_blk (by rfl) 26 (.tmp 1) rfl (bv s) rfl ?_; intro w2 hb2 hB2 hs2; clear hs2))
    obtain ⟨g0, hg0⟩ : ∃ g, W.heap.size = g := ⟨_, rfl⟩
    obtain ⟨g1, hg1⟩ : ∃ g, w1.heap.size = g := ⟨_, rfl⟩
    have hk1 := hb1.on hB2
    have hk2 := hb2
    rw [hg0] at hk1
    rw [hg1] at hk2
    obtain ⟨w3, hw3⟩ : ∃ q, q = w2 := ⟨_, rfl⟩
    subst hw3
    try rw [hg0]
    try rw [hg1]
    have HK := Lib.hid hk1
    have HS2 := Lib.hid hk2
    have HW := Lib.hid (bthen hB1 hB2)
    clear hb1 hB1 hb2 hB2 hk1 hk2 hg0 hg1
    go_wp2_with fail
    refine (awake23 w3 (HT.out.on HW.out)).mono ?_
    rintro e w4 ⟨rfl, hb⟩
    replace HW := Lib.hid (bthen HW.out hb)
    replace HK := Lib.hid (HK.out.on hb)
    replace HS2 := Lib.hid (HS2.out.on hb)
    have k2 : w4.cell? ⟨g0, 2, none⟩ = some (.slice m.P m.pn m.pc) := HK.out.cell 2
    have k3 : w4.cell? ⟨g0, 3, none⟩ = some (.slice m.A m.n m.c) := HK.out.cell 3
    clear hb
    go_wp2_with fail
    go_ret
    exact ⟨rfl, HW.out⟩
  · have h1i : ¬ (400 : Int) < (m.pn : Int) := by omega
    by_cases h2 : 16 < m.n
    · have h2i : (16 : Int) < (m.n : Int) := by omega
      go_enter Tryd.func6, Tryd.ntmps6
      go_upto_region 1 with (first
        | (refine wpList_box_blk (by rfl) 25 (.tmp 0) rfl m.cells rfl ?_; intro w1 hb1 hB1 hs1; clear hs1)
        | (refine wpList_box_blk (by rfl) 26 (.tmp 1) rfl (bv s) rfl ?_; intro w2 hb2 hB2 hs2; clear hs2))
      obtain ⟨g0, hg0⟩ : ∃ g, W.heap.size = g := ⟨_, rfl⟩
      obtain ⟨g1, hg1⟩ : ∃ g, w1.heap.size = g := ⟨_, rfl⟩
      have hk1 := hb1.on hB2
      have hk2 := hb2
      rw [hg0] at hk1
      rw [hg1] at hk2
      obtain ⟨w3, hw3⟩ : ∃ q, q = w2 := ⟨_, rfl⟩
      subst hw3
      try rw [hg0]
      try rw [hg1]
      have HK := Lib.hid hk1
      have HS2 := Lib.hid hk2
      have HW := Lib.hid (bthen hB1 hB2)
      clear hb1 hB1 hb2 hB2 hk1 hk2 hg0 hg1
      go_wp2_with fail
      refine (awake23 w3 (HT.out.on HW.out)).mono ?_
      rintro e w4 ⟨rfl, hb⟩
      replace HW := Lib.hid (bthen HW.out hb)
      replace HK := Lib.hid (HK.out.on hb)
      replace HS2 := Lib.hid (HS2.out.on hb)
      have k2 : w4.cell? ⟨g0, 2, none⟩ = some (.slice m.P m.pn m.pc) := HK.out.cell 2
      have k3 : w4.cell? ⟨g0, 3, none⟩ = some (.slice m.A m.n m.c) := HK.out.cell 3
      clear hb
      go_wp2_with fail
      go_ret
      exact ⟨rfl, HW.out⟩
    · have h2i : ¬ (16 : Int) < (m.n : Int) := by omega
      by_cases he : (put23 m.m s d24).2 = 0
      · obtain ⟨F, hF⟩ : ∃ F, (put23 m.m s d24).1 = F := ⟨_, rfl⟩
        have HF := Lib.hid (show (put23 m.m s d24) = (F, 0) by rw [← hF, ← he])
        have hlens := put23_len m.m s d24 HS.out rfl he
        have HTU := Lib.hid (fun (j : Nat) (hj : 20 ≤ j) (u : UInt8) (hu : F[j]? = some u) (b : Nat) (hb : b < 8) => show (getF4 (F.set j (UInt8.ofNat (u.toNat ^^^ 2 ^ b)))).2 = 14 by rw [← hF] at hu ⊢; exact getF4_turned m.m s d24 HS.out rfl he j hj u hu b hb)
        rw [hF] at hlens
        obtain ⟨f1, f2⟩ := hlens
        clear hF he
        go_enter Tryd.func6, Tryd.ntmps6
        go_upto_region 1 with (first
          | (refine wpList_box_blk (by rfl) 25 (.tmp 0) rfl m.cells rfl ?_; intro w1 hb1 hB1 hs1; clear hs1)
          | (refine wpList_box_blk (by rfl) 26 (.tmp 1) rfl (bv s) rfl ?_; intro w2 hb2 hB2 hs2; clear hs2))
        obtain ⟨g0, hg0⟩ : ∃ g, W.heap.size = g := ⟨_, rfl⟩
        obtain ⟨g1, hg1⟩ : ∃ g, w1.heap.size = g := ⟨_, rfl⟩
        have hk1 := hb1.on hB2
        have hk2 := hb2
        rw [hg0] at hk1
        rw [hg1] at hk2
        obtain ⟨w3, hw3⟩ : ∃ q, q = w2 := ⟨_, rfl⟩
        subst hw3
        try rw [hg0]
        try rw [hg1]
        have HK := Lib.hid hk1
        have HS2 := Lib.hid hk2
        have HW := Lib.hid (bthen hB1 hB2)
        clear hb1 hB1 hb2 hB2 hk1 hk2 hg0 hg1
        go_wp2_with fail
        refine (awake23 w3 (HT.out.on HW.out)).mono ?_
        rintro e w4 ⟨rfl, hb⟩
        replace HW := Lib.hid (bthen HW.out hb)
        replace HK := Lib.hid (HK.out.on hb)
        replace HS2 := Lib.hid (HS2.out.on hb)
        have k2 : w4.cell? ⟨g0, 2, none⟩ = some (.slice m.P m.pn m.pc) := HK.out.cell 2
        have k3 : w4.cell? ⟨g0, 3, none⟩ = some (.slice m.A m.n m.c) := HK.out.cell 3
        clear hb
        go_upto_region 6 with fail
        clear k2 k3
        have HW4 := Lib.hid HW.out
        go_wp2_with (first
          | (refine wpList_load_blk (by rfl) 25 _ rfl g0 rfl 25 _ _ HK.out Tryd.underlying25 rfl (sizeMp _) ?_)
          | (refine wpList_load_blk (by rfl) 26 _ rfl g1 rfl 26 _ _ HS2.out Tryd.underlying26 rfl (sizeA4 _ HS.out) ?_)
        )
        have PP := put23p_any m w4 (HM.out.on HW.out) (HT.out.on HW.out) (by omega) s d24 HS.out rfl
        rw [arr24_d] at PP
        refine PP.mono ?_
        clear PP
        rintro e w5 ⟨A5, n5, c5, rfl, ho5, hb5⟩
        rw [HF.out] at ho5 ⊢
        dsimp only at ho5 ⊢
        replace HW := Lib.hid (bthen HW.out hb5)
        replace HK := Lib.hid (HK.out.on hb5)
        replace HS2 := Lib.hid (HS2.out.on hb5)
        have hn5 : F.length = n5 := by have := ho5.len; rw [bv_length] at this; omega
        have HO := Lib.hid ho5
        have HG4 := Lib.hid (show W.heap.size ≤ w4.heap.size from HW4.out.size)
        clear ho5 hb5
        clear hm
        obtain ⟨k8, hk8⟩ : ∃ k8, k8 = bit.toNat % (8 * (n5 - 20)) := ⟨_, rfl⟩
        have hk8m : k8 < 8 * (n5 - 20) := by rw [hk8]; exact Nat.mod_lt _ (by omega)
        have hkk : bit % (8 * ((n5 : Int) - 20)) = (k8 : Int) := by
          rw [hk8, Int.natCast_emod]
          congr 1
          · omega
          · omega
        obtain ⟨j, hj⟩ : ∃ j, j = 20 + k8 / 8 := ⟨_, rfl⟩
        obtain ⟨b, hb⟩ : ∃ b, b = k8 % 8 := ⟨_, rfl⟩
        have hb8 : b < 8 := by omega
        have hj8 : 20 ≤ j := by omega
        have hjn : j < n5 := by omega
        have hkq : (160 + (k8 : Int)) / 8 = (j : Int) := by omega
        have hkr : (160 + (k8 : Int)) % 8 = (b : Int) := by omega
        have hM0 : 0 < 8 * ((n5 : Int) - 20) := by omega
        obtain ⟨g, rfl, hg1, hg2, hcl, hfr⟩ := HO.out.open_ (by omega)
        obtain ⟨u, hu⟩ := get_ex F (k := j) (by omega)
        have hcu := hcl j _ (bv_get _ _ u hu)
        have hfu := hfr j
        have HU := Lib.hid hu
        have HWg := Lib.hid (show W.heap.size ≤ g from Nat.le_trans HG4.out hg1)
        have HJ8 := Lib.hid hj8
        have HB8 := Lib.hid hb8
        have HJN := Lib.hid hjn
        have HN5 := Lib.hid hn5
        have hji : (j : Int) < (n5 : Int) := by omega
        clear hcl hfr hu hk8 hb hj hk8m hg1
        go_upto_region 11 with fail
        obtain ⟨V, hV⟩ : ∃ V, V = UInt8.ofNat (u.toNat ^^^ 2 ^ b) := ⟨_, rfl⟩
        have hVv : bits .xor .u8 (u.toNat : Int) (2 ^ b % 256) = (V.toNat : Int) := by
          obtain ⟨x1, x2⟩ := xor_bitX u.toNat b u.toNat_lt HB8.out
          obtain ⟨p1, p2⟩ := pow_le7X b HB8.out
          rw [hV, UInt8.toNat_ofNat', Nat.mod_eq_of_lt (show u.toNat ^^^ 2 ^ b < 2 ^ 8 by omega)]
          have e1 : ((2 : Int) ^ b % 256) = ((2 ^ b : Nat) : Int) := by
            rw [show ((2 : Int) ^ b) = ((2 ^ b : Nat) : Int) from (Int.natCast_pow 2 b).symm]
            omega
          rw [e1]
          exact u8_xor_nat _ _ u.toNat_lt (by omega)
        rw [hVv]
        have hown5 := HO.out.set (j := j) (by have := HJN.out; omega) (.int .u8 (V.toNat : Int))
        rw [← bv_set] at hown5
        have hB5 := HW.out.setCell (p := ⟨g, j, none⟩) HWg.out (.int .u8 (V.toNat : Int))
        obtain ⟨w6, hw6⟩ : ∃ w6, w6 = w5.setCell ⟨g, j, none⟩ (.int .u8 (V.toNat : Int)) := ⟨_, rfl⟩
        rw [← hw6] at hown5 hB5
        rw [← hw6]
        have hturn := HTU.out j HJ8.out u HU.out b HB8.out
        rw [← hV] at hturn
        obtain ⟨L', hL'⟩ : ∃ L', L' = F.set j V := ⟨_, rfl⟩
        rw [← hL'] at hown5 hturn
        have HOW := Lib.hid hown5
        have HTN := Lib.hid hturn
        replace HW := Lib.hid hB5
        clear hw6 hVv hcu hfu HO hkk hkq hkr hL' hV hturn hown5 hB5 hji hM0
        go_wp2_with fail
        refine (get23_any (some ⟨g, 0, none⟩) n5 c5 L' w6 HOW.out.row HOW.out.le HOW.out.cap (by omega) (HT.out.on HW.out)).mono ?_
        rintro e w7 ⟨m7, rfl, hok7, hgot7, hb7⟩
        rw [HTN.out]
        replace HW := Lib.hid (bthen HW.out hb7)
        clear hok7 hgot7 hb7
        go_wp2_with (first
          | (refine wpList_alloc_blk (by rfl) 25 rfl Mp.zero.cells zeroMp ?_; intro w8 hb8 hB8 hs8)
          | (refine wpList_store_all (by rfl) 25 _ _ rfl w7.heap.size m7.cells rfl rfl 25 _ hb8 (sizeMp _) rfl (oneMp _) ?_; intro w9 hb9 hg9 hs9))
        go_ret
        have hB9 : Below w7.heap.size w7 w9 := bgrown hB8 hg9 (by omega) (Nat.le_refl _)
        exact ⟨rfl, bthen HW.out hB9⟩
      · obtain ⟨q, hq⟩ : ∃ q, (put23 m.m s d24).2 = q := ⟨_, rfl⟩
        obtain ⟨F, hF⟩ : ∃ F, (put23 m.m s d24).1 = F := ⟨_, rfl⟩
        have HF := Lib.hid (show (put23 m.m s d24) = (F, q) by rw [← hF, ← hq])
        have HNO := Lib.hid (show F = [] by rw [← hF]; exact put23_no m.m s d24 he)
        have hqb : (q != 0) = true := by rw [← hq]; simpa using he
        clear hF hq he hm
        go_enter Tryd.func6, Tryd.ntmps6
        go_upto_region 1 with (first
          | (refine wpList_box_blk (by rfl) 25 (.tmp 0) rfl m.cells rfl ?_; intro w1 hb1 hB1 hs1; clear hs1)
          | (refine wpList_box_blk (by rfl) 26 (.tmp 1) rfl (bv s) rfl ?_; intro w2 hb2 hB2 hs2; clear hs2))
        obtain ⟨g0, hg0⟩ : ∃ g, W.heap.size = g := ⟨_, rfl⟩
        obtain ⟨g1, hg1⟩ : ∃ g, w1.heap.size = g := ⟨_, rfl⟩
        have hk1 := hb1.on hB2
        have hk2 := hb2
        rw [hg0] at hk1
        rw [hg1] at hk2
        obtain ⟨w3, hw3⟩ : ∃ q, q = w2 := ⟨_, rfl⟩
        subst hw3
        try rw [hg0]
        try rw [hg1]
        have HK := Lib.hid hk1
        have HS2 := Lib.hid hk2
        have HW := Lib.hid (bthen hB1 hB2)
        clear hb1 hB1 hb2 hB2 hk1 hk2 hg0 hg1
        go_wp2_with fail
        refine (awake23 w3 (HT.out.on HW.out)).mono ?_
        rintro e w4 ⟨rfl, hb⟩
        replace HW := Lib.hid (bthen HW.out hb)
        replace HK := Lib.hid (HK.out.on hb)
        replace HS2 := Lib.hid (HS2.out.on hb)
        have k2 : w4.cell? ⟨g0, 2, none⟩ = some (.slice m.P m.pn m.pc) := HK.out.cell 2
        have k3 : w4.cell? ⟨g0, 3, none⟩ = some (.slice m.A m.n m.c) := HK.out.cell 3
        clear hb
        go_upto_region 6 with fail
        clear k2 k3
        have HW4 := Lib.hid HW.out
        go_wp2_with (first
          | (refine wpList_load_blk (by rfl) 25 _ rfl g0 rfl 25 _ _ HK.out Tryd.underlying25 rfl (sizeMp _) ?_)
          | (refine wpList_load_blk (by rfl) 26 _ rfl g1 rfl 26 _ _ HS2.out Tryd.underlying26 rfl (sizeA4 _ HS.out) ?_)
        )
        have PP := put23p_any m w4 (HM.out.on HW.out) (HT.out.on HW.out) (by omega) s d24 HS.out rfl
        rw [arr24_d] at PP
        refine PP.mono ?_
        clear PP
        rintro e w5 ⟨A5, n5, c5, rfl, ho5, hb5⟩
        rw [HF.out] at ho5 ⊢
        dsimp only at ho5 ⊢
        replace HW := Lib.hid (bthen HW.out hb5)
        replace HK := Lib.hid (HK.out.on hb5)
        replace HS2 := Lib.hid (HS2.out.on hb5)
        have hn5 : F.length = n5 := by have := ho5.len; rw [bv_length] at this; omega
        have HO := Lib.hid ho5
        have HG4 := Lib.hid (show W.heap.size ≤ w4.heap.size from HW4.out.size)
        clear ho5 hb5
        have h0 : n5 = 0 := by rw [← hn5, HNO.out]; rfl
        subst h0
        clear hn5
        go_wp2_with fail
        go_ret
        exact ⟨rfl, HW.out⟩
end Go.Proofs.YtckbleiikldloaaDoor

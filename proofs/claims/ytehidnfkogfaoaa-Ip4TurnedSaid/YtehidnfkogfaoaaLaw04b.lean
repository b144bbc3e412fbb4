/- The walks of layer 4 (ip4): Chain, Turned. No condition but those of the rows. -/
import Derived.Test.YtehidnfkogfaoaaLaw04
import Derived.Test.YtehidnfkogfaoaaOpenH4
namespace Go.Proofs.Ytehidnfkogfaoaa
open Go.RowKit
set_option linter.unusedVariables false
set_option linter.unusedSimpArgs false

def abc : List UInt8 := [97, 98, 99]
theorem cells_ttl (h : H4) (b : Int) : h.cells.set 6 (.int .u8 b) = (h.at_ttl b).cells := rfl

set_option maxHeartbeats 4000000 in
theorem walk_Ip4Chain (w : World) (h : H4) (hf : h.fit) (a : Int) (ha : 0 ≤ a ∧ a ≤ 255) (b : Int) (hb : 0 ≤ b ∧ b ≤ 255) : Calls Try.prog 8 #[.agg h.cells.toArray, .int .u8 a, .int .u8 b] w fun e w' => e = .returned (.bool true) ∧ Below w.heap.size w w' := by
  have HF := Lib.hid hf
  have ha0 := ha.1
  have ha1 := ha.2
  have hb0 := hb.1
  have hb1 := hb.2
  have kc := fun (w : World) (C : Array Value) (n c g : Nat) (hg : w.heap.size = g) => run_const (P := Try.prog) w 22 5 C n c Try.underlying22 Try.underlying5 g hg
  clear hf ha hb
  go_enter Try.func8, Try.ntmps8
  go_wp2_with (refine wpList_box_blk rfl 27 _ rfl h.cells rfl ?_; intro w1 hbb1 hB1 hs1; have HB := Lib.hid hbb1; clear hbb1 hs1)
  refine (awake_any w1).mono ?_
  rintro e w2 ⟨rfl, hb2⟩
  have HW := Lib.hid (bthen hB1 hb2)
  replace HB := Lib.hid (HB.out.on hb2)
  clear hB1 hb2
  go_wp2_with (refine wpList_load_blk (by rfl) 27 (.tmp 3) (by rfl) w.heap.size (by rfl) 27 _ _ HB.out Try.underlying27 rfl (size4 _ HF.out.ok) ?_)
  refine (put4_any h HF.out _ 3 3 abc _ (by rw [World.size_alloc]; exact row_litF w2 _ _ abc 3 (by simp [bv, abc]) rfl) (by omega) (by simp [maxLen]) (by omega)).mono ?_
  rintro e w3 ⟨⟨A3, n3, c3, l3⟩, rfl, hl3, hown3, hb3⟩
  have ho3 := hown3.ok
  simp only at hl3
  replace HW := Lib.hid (bthen HW.out (ballocd hb3))
  replace HB := Lib.hid ((HB.out.alloc _).on hb3)
  have hn3 := ho3.len
  simp only [Bs.v] at hn3 ⊢
  clear hb3 hown3
  by_cases hx : h.bad
  · have hp : put4 h abc = ([], 1) := by unfold put4; rw [if_pos hx]
    rw [hp] at hl3 ⊢
    simp only at hl3
    subst hl3
    obtain rfl : n3 = 0 := by simpa using hn3.symm
    clear hn3 ho3 hx
    go_wp2
    go_ret
    exact ⟨rfl, HW.out⟩
  · have h40 : h.opt.length ≤ 40 := by unfold H4.bad at hx; omega
    have hlen : 20 + h.opt.length + abc.length ≤ 65535 := by simp only [abc, List.length_cons, List.length_nil]; omega
    have hp := put4_yes h hx abc hlen
    rw [hp] at hl3 ⊢
    simp only at hl3
    subst hl3
    have hn17 : 17 < n3 := by have := pkt4_length h HF.out.ok abc; simp only [abc, List.length_cons, List.length_nil] at this hn3; omega
    have hn99 : n3 ≤ 63 := by have := pkt4_length h HF.out.ok abc; simp only [abc, List.length_cons, List.length_nil] at this hn3; omega
    have fa := h.at_fit HF.out a ha0 ha1
    have fb := h.at_fit HF.out b hb0 hb1
    have q1 := par4_pkt h HF.out hx abc [] hlen
    have q2 := ttl4_pkt h HF.out hx abc [] hlen a ha0 ha1
    have q3 := par4_pkt (h.at_ttl a) fa hx abc [] hlen
    have q4 := ttl4_pkt (h.at_ttl a) fa hx abc [] hlen b hb0 hb1
    have q5 := ttl4_pkt h HF.out hx abc [] hlen b hb0 hb1
    have q6 := put4_yes (h.at_ttl b) hx abc hlen
    have lb := pkt4_length (h.at_ttl b) fb.ok abc
    have la := pkt4_length (h.at_ttl a) fa.ok abc
    rw [List.append_nil] at q1 q3
    rw [List.append_nil, List.append_nil] at q2 q4 q5
    rw [show (h.at_ttl a).at_ttl b = h.at_ttl b from rfl] at q4
    obtain ⟨PX, hPX⟩ : ∃ PX, PX = pkt4 h abc := ⟨_, rfl⟩
    obtain ⟨PA, hPA⟩ : ∃ PA, PA = pkt4 (h.at_ttl a) abc := ⟨_, rfl⟩
    obtain ⟨PB, hPB⟩ : ∃ PB, PB = pkt4 (h.at_ttl b) abc := ⟨_, rfl⟩
    rw [← hPX] at q1 q2 q5 ho3
    rw [← hPA] at q2 q3 q4 la
    rw [← hPB] at q4 q5 q6 lb
    have la' : PA.length ≤ 63 := by have h1 := la; rw [show (h.at_ttl a).opt = h.opt from rfl] at h1; simp only [abc, List.length_cons, List.length_nil] at h1; omega
    have lb' : 17 < PB.length := by have h1 := lb; rw [show (h.at_ttl b).opt = h.opt from rfl] at h1; simp only [abc, List.length_cons, List.length_nil] at h1; omega
    have LB := Lib.hid lb'
    have HO := Lib.hid ho3
    have Q1 := Lib.hid (show (par4 PX).2 = 0 by rw [q1])
    have Q2 := Lib.hid q2
    have Q3 := Lib.hid (show (par4 PA).2 = 0 by rw [q3])
    have Q4 := Lib.hid q4
    have Q5 := Lib.hid q5
    have Q6 := Lib.hid q6
    have FB := Lib.hid fb
    have LA := Lib.hid la'
    clear ho3 hn3 hp q1 q2 q3 q4 q5 q6 la lb la' lb' hPX hPA hPB fa fb hx hlen
    go_wp2_with fail
    refine (ttl4_any A3 n3 c3 PX a w3 HO.out.row HO.out.le HO.out.cap (by omega) ha0 ha1).mono ?_
    rintro e w4 ⟨⟨A4, n4, c4, l4⟩, rfl, hl4, hown4, hb4⟩
    rw [Q1.out]
    rw [Q2.out] at hl4
    simp only at hl4
    subst hl4
    have HY := Lib.hid hown4.ok
    have hn4 : n4 ≤ 63 := by have := hown4.ok.len; have := LA.out; simp only at *; omega
    replace HW := Lib.hid (bthen HW.out hb4)
    replace HB := Lib.hid (HB.out.on hb4)
    replace HO := Lib.hid (HO.out.below hb4)
    clear hown4 hb4
    simp only [Bs.v]
    go_wp2_with fail
    refine (ttl4_any A4 n4 c4 _ b w4 HY.out.row HY.out.le HY.out.cap (by omega) hb0 hb1).mono ?_
    rintro e w5 ⟨⟨A5, n5, c5, l5⟩, rfl, hl5, hown5, hb5⟩
    rw [Q3.out]
    rw [Q4.out] at hl5
    simp only at hl5
    subst hl5
    have HZ := Lib.hid hown5.ok
    have hn5 : 17 < n5 := by have h1 := hown5.ok.len; have h2 := LB.out; simp only at h1; omega
    replace HW := Lib.hid (bthen HW.out hb5)
    replace HB := Lib.hid (HB.out.on hb5)
    replace HO := Lib.hid (HO.out.below hb5)
    clear hown5 hb5
    simp only [Bs.v]
    go_wp2_with fail
    refine (ttl4_any A3 n3 c3 PX b w5 HO.out.row HO.out.le HO.out.cap (by omega) hb0 hb1).mono ?_
    rintro e w6 ⟨⟨A6, n6, c6, l6⟩, rfl, hl6, hown6, hb6⟩
    rw [Q1.out]
    rw [Q5.out] at hl6
    simp only at hl6
    subst hl6
    have ho6 := hown6.ok
    have hn6 : n6 = n5 := by have h1 := hown6.ok.len; have h2 := HZ.out.len; simp only at h1 h2; omega
    subst hn6
    replace HW := Lib.hid (bthen HW.out hb6)
    replace HB := Lib.hid (HB.out.on hb6)
    replace HZ := Lib.hid (HZ.out.below hb6)
    clear hown6 hb6
    simp only [Bs.v]
    have hbx := HB.out
    have hc2 : w6.cell? ⟨w.heap.size, 6, none⟩ = some (.int .u8 h.ttl) := hbx.cell 6
    have hf2 := hbx.frozen 6
    have hset := hbx.set 6 (.int .u8 b)
    rw [cells_ttl] at hset
    have hs17 : h.cells.length < n6 := by rw [H4.cells_length _ HF.out.ok]; exact hn5
    have HZ' := Lib.hid (bs_store HZ.out hbx hs17 6 (.int .u8 b))
    have HV' := Lib.hid (bs_store ho6 hbx hs17 6 (.int .u8 b))
    have HW' := Lib.hid (HW.out.setCell (p := ⟨w.heap.size, 6, none⟩) (Nat.le_refl _) (.int .u8 b))
    have HS := Lib.hid hset
    clear hset hbx ho6 HZ HW HB hs17
    go_wp2_with (refine wpList_load_blk (by rfl) 27 (.tmp 3) (by rfl) w.heap.size (by rfl) 27 _ _ HS.out Try.underlying27 rfl (size4 _ FB.out.ok) ?_)
    obtain ⟨w7, hw7⟩ : ∃ w7, w7 = w6.setCell ⟨w.heap.size, 6, none⟩ (.int .u8 b) := ⟨_, rfl⟩
    have hsz : w6.heap.size = w7.heap.size := by rw [hw7]; simp [World.setCell]
    try rw [← hw7]
    try rw [hsz]
    rw [← hw7] at HS HZ' HV' HW'
    clear hw7 hc2 hf2
    refine (put4_any (h.at_ttl b) FB.out _ 3 3 abc _ (by rw [World.size_alloc]; exact row_litF w7 _ _ abc 3 (by simp [bv, abc]) rfl) (by omega) (by simp [maxLen]) (by omega)).mono ?_
    rintro e w8 ⟨⟨A8, n8, c8, l8⟩, rfl, hl8, hown8, hb8⟩
    rw [Q6.out] at hl8 ⊢
    simp only at hl8
    subst hl8
    have HX := Lib.hid hown8.ok
    have HW := Lib.hid (bthen HW'.out (ballocd hb8))
    have HZ := Lib.hid ((HZ'.out.below (alloc_below w7 _)).below hb8)
    have HV := Lib.hid ((HV'.out.below (alloc_below w7 _)).below hb8)
    clear hown8 hb8 hsz HW' HZ' HV' HS
    simp only [Bs.v]
    go_wp2_with (first
      | (refine wpList_str (by rfl) (.tmp 75) 22 9 5 rfl Try.underlying22 Try.underlying5 Try.underlying9 _ A5 n6 c5 _ (by rfl) HZ.out.row ?_)
      | (refine wpList_str (by rfl) (.tmp 77) 22 9 5 rfl Try.underlying22 Try.underlying5 Try.underlying9 _ A6 n6 c6 _ (by rfl) HV.out.row ?_)
      | (refine wpList_str (by rfl) (.tmp 81) 22 9 5 rfl Try.underlying22 Try.underlying5 Try.underlying9 _ A8 n8 c8 _ (by rfl) HX.out.row ?_)
      | (refine wpList_str (by rfl) (.tmp 83) 22 9 5 rfl Try.underlying22 Try.underlying5 Try.underlying9 _ A6 n6 c6 _ (by rfl) HV.out.row ?_))
    go_ret
    exact ⟨rfl, HW.out⟩

set_option maxHeartbeats 4000000 in
theorem walk_Ip4Turned (w : World) (h : H4) (hf : h.fit) (b : Bs) (hb : b.ok w) (bit : Int) (hbit : 0 ≤ bit ∧ bit ≤ 255) : Calls Try.prog 7 #[.agg h.cells.toArray, b.v, .int .u8 bit] w fun e w' => e = .returned (.bool true) ∧ Below w.heap.size w w' := by
  obtain ⟨A, n, c, l⟩ := b
  have hll := hb.len
  simp only [Bs.v] at hll ⊢
  have HO := Lib.hid hb
  have HF := Lib.hid hf
  have HLL := Lib.hid hll
  obtain ⟨bit0, bit1⟩ := hbit
  clear hb hf hll
  by_cases hs : n ≤ 1000
  · have hs' : ¬ (1000 : Int) < (n : Int) := by omega
    go_enter Try.func7, Try.ntmps7
    go_wp2_with (refine wpList_box_blk rfl 27 _ rfl h.cells rfl ?_; intro w1 hb1 hB1 hs1)
    refine (awake_any w1).mono ?_
    rintro e w2 ⟨rfl, hb2⟩
    have HW := Lib.hid (bthen hB1 hb2)
    have hw2s : w.heap.size ≤ w2.heap.size := HW.out.size
    have HB := Lib.hid (hb1.on hb2)
    replace HO := Lib.hid (HO.out.below (bthen hB1 hb2))
    clear hb1 hB1 hs1 hb2
    go_wp2_with (refine wpList_load_blk (by rfl) 27 (.tmp 3) (by rfl) w.heap.size (by rfl) 27 _ _ HB.out Try.underlying27 rfl (size4 _ HF.out.ok) ?_)
    refine (put4_any h HF.out A n c l w2 HO.out.row HO.out.le HO.out.cap (by omega)).mono ?_
    rintro e w3 ⟨⟨A3, n3, c3, l3⟩, rfl, hl3, hown3, hb3⟩
    simp only at hl3
    have hn3 := hown3.ok.len
    simp only [Bs.v] at hn3 ⊢
    have HB2 := HB
    replace HW := Lib.hid (bthen HW.out hb3)
    replace HO := Lib.hid (HO.out.below hb3)
    replace HB := Lib.hid (HB.out.on hb3)
    clear hb3
    by_cases hx : h.bad
    · have hp : put4 h l = ([], 1) := by unfold put4; rw [if_pos hx]
      rw [hp] at hl3 ⊢
      simp only at hl3
      subst hl3
      obtain rfl : n3 = 0 := by simpa using hn3.symm
      clear hn3 hown3 hx
      go_wp2
      go_ret
      exact ⟨rfl, HW.out⟩
    · have h40 : h.opt.length ≤ 40 := by unfold H4.bad at hx; omega
      have hlen : 20 + h.opt.length + l.length ≤ 65535 := by rw [HLL.out]; omega
      have hp := put4_yes h hx l hlen
      rw [hp] at hl3 ⊢
      simp only at hl3
      subst hl3
      obtain ⟨S, hS⟩ : ∃ S, 20 + h.opt.length = S := ⟨_, rfl⟩
      obtain ⟨k, hk⟩ : ∃ k, k = bit.toNat % (8 * S) := ⟨_, rfl⟩
      have hkS : k < 8 * S := by rw [hk]; exact Nat.mod_lt _ (by omega)
      have hn3' : n3 = S + n := by have := pkt4_length h HF.out.ok l; have := HLL.out; omega
      subst hn3'
      have hSz : 20 + (h.opt.length : Int) = (S : Int) := by omega
      have HSz := Lib.hid hSz
      have hkk : bit % (8 * (S : Int)) = (k : Int) := by
        rw [hk, Int.natCast_emod]
        congr 1
        omega
      have HKK := Lib.hid hkk
      have HX := Lib.hid hx
      have HLN := Lib.hid hlen
      have HO3 := Lib.hid hown3
      have HS := Lib.hid hS
      have hS20 : 20 ≤ S := by omega
      have hS60 : S ≤ 60 := by omega
      have hfo : h.opt.length ≤ 1099511627776 := by omega
      clear hn3 hown3 hx hp hlen hS hk hkk hSz
      go_wp2_with (refine wpList_load_blk (by rfl) 27 (.tmp 3) (by rfl) w.heap.size (by rfl) 27 _ _ HB.out Try.underlying27 rfl (size4 _ HF.out.ok) ?_)
      refine (size4_any h HF.out.ok _ hfo).mono ?_
      rintro e w4 ⟨rfl, hb4⟩
      rw [HSz.out]
      replace HO3 := Lib.hid (HO3.out.below hb4)
      replace HW := Lib.hid (bthen HW.out hb4)
      clear hb4
      have hkk := HKK.out
      by_cases hk4 : k < 4
      · have hk4' : (k : Int) < 4 := by omega
        go_wp2
        go_ret
        exact ⟨rfl, HW.out⟩
      · have hk4' : ¬ (k : Int) < 4 := by omega
        obtain ⟨g, rfl, hg1, hg2, hcl, hfr⟩ := HO3.out.open_ (by omega)
        obtain ⟨u, hu⟩ := get_ex (pkt4 h l) (k := k / 8) (by rw [pkt4_length h HF.out.ok l, HS.out]; omega)
        have hcu := hcl (k / 8) _ (bv_get _ _ u hu)
        have hfu := hfr (k / 8)
        have HU := Lib.hid hu
        have HWg := Lib.hid (show w.heap.size ≤ g by omega)
        clear hcl hfr hu
        have hi1 : (k : Int) / 8 < ((S + n : Nat) : Int) := by omega
        have hi0 : 0 ≤ (k : Int) / 8 := by omega
        have hi2 : ((k : Int) / 8).toNat = k / 8 := by omega
        go_wp2_with fail
        obtain ⟨V, hV⟩ : ∃ V, V = UInt8.ofNat (u.toNat ^^^ 2 ^ (k % 8)) := ⟨_, rfl⟩
        have hVv : bits .xor .u8 (u.toNat : Int) (2 ^ (k % 8) % 256) = (V.toNat : Int) := by
          obtain ⟨x1, x2⟩ := xor_bit u.toNat (k % 8) u.toNat_lt (by omega)
          obtain ⟨p1, p2⟩ := pow_le7 (k % 8) (by omega)
          rw [hV, UInt8.toNat_ofNat', Nat.mod_eq_of_lt (show u.toNat ^^^ 2 ^ (k % 8) < 2 ^ 8 by omega)]
          have e1 : ((2 : Int) ^ (k % 8) % 256) = ((2 ^ (k % 8) : Nat) : Int) := by
            rw [show ((2 : Int) ^ (k % 8)) = ((2 ^ (k % 8) : Nat) : Int) from (Int.natCast_pow 2 (k % 8)).symm]
            omega
          rw [e1]
          exact u8_xor_nat _ _ u.toNat_lt (by omega)
        rw [hVv]
        have hown5 := HO3.out.set (j := k / 8) (by omega) (.int .u8 (V.toNat : Int))
        rw [← bv_set] at hown5
        have hB5 := HW.out.setCell (p := ⟨g, k / 8, none⟩) HWg.out (.int .u8 (V.toNat : Int))
        obtain ⟨w5, hw5⟩ : ∃ w5, w5 = w4.setCell ⟨g, k / 8, none⟩ (.int .u8 (V.toNat : Int)) := ⟨_, rfl⟩
        rw [← hw5] at hown5 hB5
        rw [← hw5]
        clear hw5 hVv hcu hfu
        obtain ⟨L', hL'⟩ : ∃ L', L' = (pkt4 h l).set (k / 8) V := ⟨_, rfl⟩
        rw [← hL'] at hown5
        have HB5 := Lib.hid hB5
        refine (parse4_any (some ⟨g, 0, none⟩) (S + n) c3 L' w5 hown5.row hown5.le hown5.cap (by omega)).mono ?_
        rintro e w6 ⟨rfl, hb6⟩
        have hok := par4_ok L'
        have hres := par4_turned h HF.out HX.out l HLN.out k (by omega) (by have := HS.out; omega) u HU.out (par4 L').2 (by rw [hL', hV])
        obtain ⟨hh, hhe⟩ : ∃ hh, hh = (par4 L').1 := ⟨_, rfl⟩
        obtain ⟨er, her⟩ : ∃ er, er = (par4 L').2 := ⟨_, rfl⟩
        rw [← hhe] at hok
        rw [← her] at hres
        rw [← hhe, ← her]
        have HOK := Lib.hid hok
        have HW6 := Lib.hid (bthen HB5.out hb6)
        have hcases : er = 14 ∨ ((er == 14) = false ∧ (k : Int) / 8 = 0 ∧ (er != 0) = true) ∨ (er = 13 ∧ (k : Int) / 8 = 2) ∨ (er = 13 ∧ (k : Int) / 8 = 3) := by
          rcases hres with r | ⟨r1, r2⟩ | ⟨r1, r2⟩
          · exact .inl r
          · by_cases h14 : er = 14
            · exact .inl h14
            · exact .inr (.inl ⟨by simpa using h14, by omega, by simpa using r2⟩)
          · rcases r1 with r1 | r1
            · exact .inr (.inr (.inl ⟨r2, by omega⟩))
            · exact .inr (.inr (.inr ⟨r2, by omega⟩))
        clear hhe her hok hb6 hres hL' hV hown5 hB5
        rcases hcases with rfl | ⟨r1, r2, r3⟩ | ⟨rfl, r2⟩ | ⟨rfl, r2⟩
        all_goals
          go_wp2_with (first
          | (refine wpList_alloc_blk rfl 27 rfl H4.zero.cells zero4 ?_; intro w7 hbw7 hBw7 hsw7)
          | (refine wpList_store_all rfl 27 _ _ rfl w6.heap.size hh.cells rfl rfl 27 _ hbw7 (size4 _ HOK.out) (H4.cells_same _ _ HOK.out H4.zero_ok) (H4.one _) ?_; intro w8 hbw8 hgw8 hsw8; have hBw8 : Below w6.heap.size w6 w8 := bgrown hBw7 hgw8 (by omega) (by omega)))
          go_ret
          exact ⟨rfl, bthen HW6.out hBw8⟩
  · have hs' : (1000 : Int) < (n : Int) := by omega
    go_enter Try.func7, Try.ntmps7
    go_wp2_with (refine wpList_box_blk rfl 27 _ rfl h.cells rfl ?_; intro w1 hb1 hB1 hs1)
    refine (awake_any w1).mono ?_
    rintro e w2 ⟨rfl, hb2⟩
    go_wp2
    go_ret
    exact ⟨rfl, bthen hB1 hb2⟩
end Go.Proofs.Ytehidnfkogfaoaa

/- Texts of this claim put together, in build order: each one's own remark stands ahead of it. -/
import Derived.Test.YtckbleiikldloaaDoorG18
/- What icmp4.Put, whole, and icmp4.read (layer 23) compute. No condition but sizes. -/
namespace Go.Proofs.YtckbleiikldloaaDoor
open Go.RowKit
set_option linter.unusedVariables false
set_option maxRecDepth 20000
set_option linter.unusedSimpArgs false

theorem put23p_any (m : Mp) (w : World) (hm : m.ok w) (hT : Typ23 w) (hpm : m.pn ≤ 1000000) (src dst : List UInt8) (hsl : src.length = 4) (hdl : dst.length = 4) :
    Calls Tryd.prog 8 #[.agg m.cells.toArray, .agg (bv src).toArray, .agg (bv dst).toArray] w fun e w' => ∃ A' n' c', e = .returned (.tuple #[.slice A' n' c', .int .i64 (put23 m.m src dst).2]) ∧ Own w' w.heap.size 5 1 A' n' c' (bv (put23 m.m src dst).1) ∧ Below w.heap.size w w' := by
  by_cases hb : m.m.bad
  · have hp : put23 m.m src dst = ([], 1) := by unfold put23; rw [if_pos hb]
    refine (put23p_bad m w hm src dst hb).mono ?_
    rintro e w' ⟨rfl, hb'⟩
    exact ⟨none, 0, 0, by rw [hp], by rw [hp]; exact Own.nil _ _ _ _ _, hb'⟩
  · exact put23p_ok m w hm hT hpm src dst hsl hdl hb
/-- a packet's body, if it is one of ICMP, and no piece -/
def readF4 (l : List UInt8) : List UInt8 × Int :=
  if (par4 l).2 ≠ 0 then ([], (par4 l).2) else if (par4 l).1.pro ≠ 1 ∨ (par4 l).1.more = true ∨ 0 < (par4 l).1.off then ([], 55) else if (body4 l).length < 8 then ([], 15) else if rawN (body4 l) ≠ 65535 then ([], 14) else (body4 l, 0)
theorem body4_le (l : List UInt8) : (body4 l).length ≤ l.length := by
  unfold body4
  split
  · simp only [List.length_take, List.length_drop]; omega
  · simp
set_option maxHeartbeats 1000000 in
theorem read23_any (A : Option Addr) (n c : Nat) (l : List UInt8) (w : World) (h : Row w w.heap.size 1 A n (bv l)) (hc : n ≤ c) (hcm : c ≤ maxLen) (hn : n ≤ 1000000) :
    Calls Tryd.prog 27 #[.slice A n c] w fun e w' => ∃ r : Bs, e = .returned (.tuple #[r.v, .int .i64 (readF4 l).2]) ∧ r.l = (readF4 l).1 ∧ r.ok w' ∧ Below w.heap.size w w' := by
  have hll : l.length = n := by have := h.1; rw [bv_length] at this; omega
  have P := parse4_any A n c l w h hc hcm (by omega)
  have hok := par4_ok l
  have BD := Lib.hid (fun (w' : World) (hr : Row w' w'.heap.size 1 A n (bv l)) => body4_any A n c l w' hr hc hcm (by omega))
  obtain ⟨S, hS⟩ : ∃ S, body4 l = S := ⟨_, rfl⟩
  have hSn : S.length ≤ n := by rw [← hS, ← hll]; exact body4_le l
  obtain ⟨R, hR⟩ : ∃ R, readF4 l = R := ⟨_, rfl⟩
  rw [hR]
  have hRF : R = if (par4 l).2 ≠ 0 then ([], (par4 l).2) else if (par4 l).1.pro ≠ 1 ∨ (par4 l).1.more = true ∨ 0 < (par4 l).1.off then ([], 55) else if S.length < 8 then ([], 15) else if rawN S ≠ 65535 then ([], 14) else (S, 0) := by rw [← hR]; unfold readF4; rw [hS]
  rw [hS] at BD
  clear hR hS
  cases hp : par4 l with
  | mk h4 er =>
  rw [hp] at P hok hRF
  simp only at P hok hRF
  have HP := Lib.hid P
  have HOK := Lib.hid hok
  have HH := Lib.hid h
  clear P hok hp h
  have H0 := H4.zero_ok
  by_cases he : er = 0
  · subst he
    rw [if_neg (fun h => h rfl)] at hRF
    by_cases hp1 : h4.pro = 1
    · have hp1b : (h4.pro != 1) = false := by simp [hp1]
      cases hmo : h4.more
      · by_cases hof : 0 < h4.off
        · rw [if_pos (.inr (.inr hof))] at hRF
          have HR := Lib.hid hRF
          clear hRF hp1
          go_enter Tryd.func27, Tryd.ntmps27
          go_wp2_with fail
          refine HP.out.mono ?_
          rintro e w1 ⟨rfl, hb1⟩
          go_upto_region 2 with (first
            | (refine wpList_alloc_blk rfl 56 rfl H4.zero.cells zero4 ?_; intro w2 hb2 hB2 hs2)
            | (refine wpList_store_all rfl 56 _ _ rfl w1.heap.size h4.cells rfl rfl 56 _ hb2 (size4 _ HOK.out) (H4.cells_same _ _ HOK.out H0) (H4.one _) ?_; intro w3 hb3 hg3 hs3))
          have hB3 : Below w1.heap.size w1 w3 := bgrown hB2 hg3 (by omega) (by omega)
          have HW := Lib.hid (bthen hb1 hB3)
          obtain ⟨g4, hg4⟩ : ∃ g, w1.heap.size = g := ⟨_, rfl⟩
          rw [hg4] at hb3
          try rw [hg4]
          have hd7 : w3.cell? ⟨g4, 7, none⟩ = some (.int .u8 h4.pro) := hb3.cell 7
          have hd4 : w3.cell? ⟨g4, 4, none⟩ = some (.bool h4.more) := hb3.cell 4
          have hd5 : w3.cell? ⟨g4, 5, none⟩ = some (.int .i64 h4.off) := hb3.cell 5
          clear hb2 hB2 hs2 hb3 hg3 hs3 hB3 hg4 hb1
          go_wp2_with fail
          go_ret2
          exact ⟨⟨none, 0, 0, []⟩, by rw [HR.out]; rfl, by rw [HR.out], ok_nil _, HW.out⟩
        · rw [if_neg (fun h => by rcases h with h | h | h; exact h hp1; rw [hmo] at h; cases h; exact hof h)] at hRF
          clear hp1
          by_cases h8 : S.length < 8
          · rw [if_pos h8] at hRF
            have HR := Lib.hid hRF
            have h8i : (S.length : Int) < 8 := by omega
            clear hRF
            go_enter Tryd.func27, Tryd.ntmps27
            go_wp2_with fail
            refine HP.out.mono ?_
            rintro e w1 ⟨rfl, hb1⟩
            go_upto_region 2 with (first
              | (refine wpList_alloc_blk rfl 56 rfl H4.zero.cells zero4 ?_; intro w2 hb2 hB2 hs2)
              | (refine wpList_store_all rfl 56 _ _ rfl w1.heap.size h4.cells rfl rfl 56 _ hb2 (size4 _ HOK.out) (H4.cells_same _ _ HOK.out H0) (H4.one _) ?_; intro w3 hb3 hg3 hs3))
            have hB3 : Below w1.heap.size w1 w3 := bgrown hB2 hg3 (by omega) (by omega)
            have HW := Lib.hid (bthen hb1 hB3)
            obtain ⟨g4, hg4⟩ : ∃ g, w1.heap.size = g := ⟨_, rfl⟩
            rw [hg4] at hb3
            try rw [hg4]
            have hd7 : w3.cell? ⟨g4, 7, none⟩ = some (.int .u8 h4.pro) := hb3.cell 7
            have hd4 : w3.cell? ⟨g4, 4, none⟩ = some (.bool h4.more) := hb3.cell 4
            have hd5 : w3.cell? ⟨g4, 5, none⟩ = some (.int .i64 h4.off) := hb3.cell 5
            clear hb2 hB2 hs2 hb3 hg3 hs3 hB3 hg4 hb1
            go_wp2_with fail
            refine (BD.out w3 ((HH.out.below HW.out).more HW.out.size)).mono ?_
            rintro e w4 ⟨⟨A4, n4, c4, l4⟩, rfl, hl4, ho4, hb4⟩
            dsimp only at hl4
            subst hl4
            have hn4 : l4.length = n4 := ho4.len
            subst hn4
            have HO4 := Lib.hid ho4
            replace HW := Lib.hid (bthen HW.out hb4)
            clear hb4 ho4 hd7 hd4 hd5
            dsimp only [Bs.v]
            go_wp2_with fail
            go_ret2
            exact ⟨⟨none, 0, 0, []⟩, by rw [HR.out]; rfl, by rw [HR.out], ok_nil _, HW.out⟩
          · rw [if_neg h8] at hRF
            have h8i : ¬ (S.length : Int) < 8 := by omega
            obtain ⟨b9, hb9⟩ : ∃ b, decide (rawN S = 65535) = b := ⟨_, rfl⟩
            have HB9 := Lib.hid hb9
            have HRF := Lib.hid hRF
            clear hRF hb9
            go_enter Tryd.func27, Tryd.ntmps27
            go_wp2_with fail
            refine HP.out.mono ?_
            rintro e w1 ⟨rfl, hb1⟩
            go_upto_region 2 with (first
              | (refine wpList_alloc_blk rfl 56 rfl H4.zero.cells zero4 ?_; intro w2 hb2 hB2 hs2)
              | (refine wpList_store_all rfl 56 _ _ rfl w1.heap.size h4.cells rfl rfl 56 _ hb2 (size4 _ HOK.out) (H4.cells_same _ _ HOK.out H0) (H4.one _) ?_; intro w3 hb3 hg3 hs3))
            have hB3 : Below w1.heap.size w1 w3 := bgrown hB2 hg3 (by omega) (by omega)
            have HW := Lib.hid (bthen hb1 hB3)
            obtain ⟨g4, hg4⟩ : ∃ g, w1.heap.size = g := ⟨_, rfl⟩
            rw [hg4] at hb3
            try rw [hg4]
            have hd7 : w3.cell? ⟨g4, 7, none⟩ = some (.int .u8 h4.pro) := hb3.cell 7
            have hd4 : w3.cell? ⟨g4, 4, none⟩ = some (.bool h4.more) := hb3.cell 4
            have hd5 : w3.cell? ⟨g4, 5, none⟩ = some (.int .i64 h4.off) := hb3.cell 5
            clear hb2 hB2 hs2 hb3 hg3 hs3 hB3 hg4 hb1
            go_wp2_with fail
            refine (BD.out w3 ((HH.out.below HW.out).more HW.out.size)).mono ?_
            rintro e w4 ⟨⟨A4, n4, c4, l4⟩, rfl, hl4, ho4, hb4⟩
            dsimp only at hl4
            subst hl4
            have hn4 : l4.length = n4 := ho4.len
            subst hn4
            have HO4 := Lib.hid ho4
            replace HW := Lib.hid (bthen HW.out hb4)
            clear hb4 ho4 hd7 hd4 hd5
            dsimp only [Bs.v]
            go_wp2_with fail
            refine (check_any (some ⟨w4.heap.size, 0, none⟩) 1 1 [⟨A4, l4.length, c4, l4⟩] _ (by rw [World.size_alloc]; exact Row.new (n := 1) (sz := 1) w4 _ rfl) (oks1 (HO4.out.below (alloc_below _ _))) (by omega) (by rw [flat_one]; omega)).mono ?_
            rintro e w5 ⟨rfl, hb5⟩
            rw [flat_one, HB9.out]
            have hb45 := ballocd hb5
            replace HO4 := Lib.hid (HO4.out.below hb45)
            replace HW := Lib.hid (bthen HW.out hb45)
            clear hb5 hb45
            cases b9
            · have HR := Lib.hid (HRF.out.trans (if_pos (of_decide_eq_false HB9.out)))
              go_wp2_with fail
              go_ret2
              exact ⟨⟨none, 0, 0, []⟩, by rw [HR.out]; rfl, by rw [HR.out], ok_nil _, HW.out⟩
            · have HR := Lib.hid (HRF.out.trans (if_neg (fun h => h (of_decide_eq_true HB9.out))))
              go_wp2_with fail
              go_ret2
              exact ⟨⟨A4, l4.length, c4, l4⟩, by rw [HR.out]; rfl, by rw [HR.out], HO4.out, HW.out⟩
      · rw [if_pos (.inr (.inl hmo))] at hRF
        have HR := Lib.hid hRF
        clear hRF hp1
        go_enter Tryd.func27, Tryd.ntmps27
        go_wp2_with fail
        refine HP.out.mono ?_
        rintro e w1 ⟨rfl, hb1⟩
        go_upto_region 2 with (first
          | (refine wpList_alloc_blk rfl 56 rfl H4.zero.cells zero4 ?_; intro w2 hb2 hB2 hs2)
          | (refine wpList_store_all rfl 56 _ _ rfl w1.heap.size h4.cells rfl rfl 56 _ hb2 (size4 _ HOK.out) (H4.cells_same _ _ HOK.out H0) (H4.one _) ?_; intro w3 hb3 hg3 hs3))
        have hB3 : Below w1.heap.size w1 w3 := bgrown hB2 hg3 (by omega) (by omega)
        have HW := Lib.hid (bthen hb1 hB3)
        obtain ⟨g4, hg4⟩ : ∃ g, w1.heap.size = g := ⟨_, rfl⟩
        rw [hg4] at hb3
        try rw [hg4]
        have hd7 : w3.cell? ⟨g4, 7, none⟩ = some (.int .u8 h4.pro) := hb3.cell 7
        have hd4 : w3.cell? ⟨g4, 4, none⟩ = some (.bool h4.more) := hb3.cell 4
        have hd5 : w3.cell? ⟨g4, 5, none⟩ = some (.int .i64 h4.off) := hb3.cell 5
        clear hb2 hB2 hs2 hb3 hg3 hs3 hB3 hg4 hb1
        go_wp2_with fail
        go_ret2
        exact ⟨⟨none, 0, 0, []⟩, by rw [HR.out]; rfl, by rw [HR.out], ok_nil _, HW.out⟩
    · have hp1b : (h4.pro != 1) = true := by simpa using hp1
      rw [if_pos (.inl hp1)] at hRF
      have HR := Lib.hid hRF
      clear hRF hp1
      go_enter Tryd.func27, Tryd.ntmps27
      go_wp2_with fail
      refine HP.out.mono ?_
      rintro e w1 ⟨rfl, hb1⟩
      go_upto_region 2 with (first
        | (refine wpList_alloc_blk rfl 56 rfl H4.zero.cells zero4 ?_; intro w2 hb2 hB2 hs2)
        | (refine wpList_store_all rfl 56 _ _ rfl w1.heap.size h4.cells rfl rfl 56 _ hb2 (size4 _ HOK.out) (H4.cells_same _ _ HOK.out H0) (H4.one _) ?_; intro w3 hb3 hg3 hs3))
      have hB3 : Below w1.heap.size w1 w3 := bgrown hB2 hg3 (by omega) (by omega)
      have HW := Lib.hid (bthen hb1 hB3)
      obtain ⟨g4, hg4⟩ : ∃ g, w1.heap.size = g := ⟨_, rfl⟩
      rw [hg4] at hb3
      try rw [hg4]
      have hd7 : w3.cell? ⟨g4, 7, none⟩ = some (.int .u8 h4.pro) := hb3.cell 7
      have hd4 : w3.cell? ⟨g4, 4, none⟩ = some (.bool h4.more) := hb3.cell 4
      have hd5 : w3.cell? ⟨g4, 5, none⟩ = some (.int .i64 h4.off) := hb3.cell 5
      clear hb2 hB2 hs2 hb3 hg3 hs3 hB3 hg4 hb1
      go_wp2_with fail
      go_ret2
      exact ⟨⟨none, 0, 0, []⟩, by rw [HR.out]; rfl, by rw [HR.out], ok_nil _, HW.out⟩
  · have hne : (er != 0) = true := by simpa using he
    rw [if_pos he] at hRF
    have HR := Lib.hid hRF
    clear hRF he
    go_enter Tryd.func27, Tryd.ntmps27
    go_wp2_with fail
    refine HP.out.mono ?_
    rintro e w1 ⟨rfl, hb1⟩
    go_upto_region 2 with (first
      | (refine wpList_alloc_blk rfl 56 rfl H4.zero.cells zero4 ?_; intro w2 hb2 hB2 hs2)
      | (refine wpList_store_all rfl 56 _ _ rfl w1.heap.size h4.cells rfl rfl 56 _ hb2 (size4 _ HOK.out) (H4.cells_same _ _ HOK.out H0) (H4.one _) ?_; intro w3 hb3 hg3 hs3))
    have hB3 : Below w1.heap.size w1 w3 := bgrown hB2 hg3 (by omega) (by omega)
    have HW := Lib.hid (bthen hb1 hB3)
    obtain ⟨g4, hg4⟩ : ∃ g, w1.heap.size = g := ⟨_, rfl⟩
    rw [hg4] at hb3
    try rw [hg4]
    have hd7 : w3.cell? ⟨g4, 7, none⟩ = some (.int .u8 h4.pro) := hb3.cell 7
    have hd4 : w3.cell? ⟨g4, 4, none⟩ = some (.bool h4.more) := hb3.cell 4
    have hd5 : w3.cell? ⟨g4, 5, none⟩ = some (.int .i64 h4.off) := hb3.cell 5
    clear hb2 hB2 hs2 hb3 hg3 hs3 hB3 hg4 hb1
    go_wp2_with fail
    go_ret2
    exact ⟨⟨none, 0, 0, []⟩, by rw [HR.out]; rfl, by rw [HR.out], ok_nil _, HW.out⟩
end Go.Proofs.YtckbleiikldloaaDoor

/- What icmp4.Is (layer 23) computes. No condition but sizes. -/
namespace Go.Proofs.YtckbleiikldloaaDoor
open Go.RowKit
set_option linter.unusedVariables false
set_option maxRecDepth 20000
set_option linter.unusedSimpArgs false

def errT (u : Nat) : Bool := decide (u = 3) || decide (u = 4) || decide (u = 5) || decide (u = 11) || decide (u = 12)
def headErr : List UInt8 → Bool
  | [] => false
  | u :: _ => errT u.toNat
def isF4 (l : List UInt8) : Bool := decide ((par4 l).2 = 0) && decide ((par4 l).1.pro = 1) && decide (¬ 0 < (par4 l).1.off) && headErr (body4 l)
def errs : List UInt8 := [3, 4, 5, 11, 12]
set_option maxHeartbeats 1000000 in
theorem index5_any (g : Nat) (u : Nat) (w : World) (hu : u ≤ 255) (h0 : w.cell? ⟨g, 0, none⟩ = some (.int .u8 3)) (h1 : w.cell? ⟨g, 1, none⟩ = some (.int .u8 4)) (h2 : w.cell? ⟨g, 2, none⟩ = some (.int .u8 5)) (h3 : w.cell? ⟨g, 3, none⟩ = some (.int .u8 11)) (h4 : w.cell? ⟨g, 4, none⟩ = some (.int .u8 12)) :
    Calls Tryd.prog 66 #[.slice (some ⟨g, 0, none⟩) 5 5, .int .u8 (u : Int)] w fun e w' => ∃ i : Int, e = .returned (.int .i64 i) ∧ (decide (0 ≤ i) = errT u) ∧ w = w' := by
  go_enter Tryd.func66, Tryd.ntmps66
  go_wp2_with fail
  go_loop [8] (fun i => ∃ k : Nat, k ≤ 5 ∧ i = .int .i64 (k : Nat) ∧ (1 ≤ k → u ≠ 3) ∧ (2 ≤ k → u ≠ 4) ∧ (3 ≤ k → u ≠ 5) ∧ (4 ≤ k → u ≠ 11) ∧ (5 ≤ k → u ≠ 12)) (fun i => 5 - (intOf i).toNat)
  case atStart => exact ⟨0, by omega, rfl, by omega, by omega, by omega, by omega, by omega⟩
  case round =>
    obtain ⟨k, hk, rfl, k1, k2, k3, k4, k5⟩ := hrel
    have hcase : k = 0 ∨ k = 1 ∨ k = 2 ∨ k = 3 ∨ k = 4 ∨ k = 5 := by omega
    have HK1 := Lib.hid k1
    have HK2 := Lib.hid k2
    have HK3 := Lib.hid k3
    have HK4 := Lib.hid k4
    have HK5 := Lib.hid k5
    clear k1 k2 k3 k4 k5
    rcases hcase with rfl | rfl | rfl | rfl | rfl | rfl
    · by_cases hu3 : u = 3
      · subst hu3
        go_wp2_with fail
        go_ret
        exact ⟨0, rfl, by decide, rfl⟩
      · have e3 : ((u : Int) == 3) = false := by simp; omega
        go_wp2_with fail
        go_round
        case rel => exact ⟨1, by omega, rfl, fun _ => hu3, by omega, by omega, by omega, by omega⟩
        case measure => simp [intOf]
    · by_cases hu3 : u = 4
      · subst hu3
        go_wp2_with fail
        go_ret
        exact ⟨1, rfl, by decide, rfl⟩
      · have e3 : ((u : Int) == 4) = false := by simp; omega
        go_wp2_with fail
        go_round
        case rel => exact ⟨2, by omega, rfl, fun _ => HK1.out (by omega), fun _ => hu3, by omega, by omega, by omega⟩
        case measure => simp [intOf]
    · by_cases hu3 : u = 5
      · subst hu3
        go_wp2_with fail
        go_ret
        exact ⟨2, rfl, by decide, rfl⟩
      · have e3 : ((u : Int) == 5) = false := by simp; omega
        go_wp2_with fail
        go_round
        case rel => exact ⟨3, by omega, rfl, fun _ => HK1.out (by omega), fun _ => HK2.out (by omega), fun _ => hu3, by omega, by omega⟩
        case measure => simp [intOf]
    · by_cases hu3 : u = 11
      · subst hu3
        go_wp2_with fail
        go_ret
        exact ⟨3, rfl, by decide, rfl⟩
      · have e3 : ((u : Int) == 11) = false := by simp; omega
        go_wp2_with fail
        go_round
        case rel => exact ⟨4, by omega, rfl, fun _ => HK1.out (by omega), fun _ => HK2.out (by omega), fun _ => HK3.out (by omega), fun _ => hu3, by omega⟩
        case measure => simp [intOf]
    · by_cases hu3 : u = 12
      · subst hu3
        go_wp2_with fail
        go_ret
        exact ⟨4, rfl, by decide, rfl⟩
      · have e3 : ((u : Int) == 12) = false := by simp; omega
        go_wp2_with fail
        go_round
        case rel => exact ⟨5, by omega, rfl, fun _ => HK1.out (by omega), fun _ => HK2.out (by omega), fun _ => HK3.out (by omega), fun _ => HK4.out (by omega), fun _ => hu3⟩
        case measure => simp [intOf]
    · go_wp2_with fail
      go_ret
      refine ⟨-1, rfl, ?_, rfl⟩
      have q1 := HK1.out (by omega)
      have q2 := HK2.out (by omega)
      have q3 := HK3.out (by omega)
      have q4 := HK4.out (by omega)
      have q5 := HK5.out (by omega)
      unfold errT
      rw [decide_eq_false q1, decide_eq_false q2, decide_eq_false q3, decide_eq_false q4, decide_eq_false q5]
      rfl
set_option maxHeartbeats 1000000 in
theorem contains5_any (g : Nat) (u : Nat) (w : World) (hu : u ≤ 255) (h0 : w.cell? ⟨g, 0, none⟩ = some (.int .u8 3)) (h1 : w.cell? ⟨g, 1, none⟩ = some (.int .u8 4)) (h2 : w.cell? ⟨g, 2, none⟩ = some (.int .u8 5)) (h3 : w.cell? ⟨g, 3, none⟩ = some (.int .u8 11)) (h4 : w.cell? ⟨g, 4, none⟩ = some (.int .u8 12)) :
    Calls Tryd.prog 38 #[.slice (some ⟨g, 0, none⟩) 5 5, .int .u8 (u : Int)] w fun e w' => e = .returned (.bool (errT u)) ∧ w = w' := by
  have IX := Lib.hid (index5_any g u w hu h0 h1 h2 h3 h4)
  clear h0 h1 h2 h3 h4
  go_enter Tryd.func38, Tryd.ntmps38
  go_wp2_with fail
  refine IX.out.mono ?_
  rintro e w1 ⟨i, rfl, hi, rfl⟩
  go_wp2_with fail
  go_ret
  exact ⟨by rw [← hi]; rfl, rfl⟩
set_option maxHeartbeats 1000000 in
theorem is23_any (A : Option Addr) (n c : Nat) (l : List UInt8) (w : World) (h : Row w w.heap.size 1 A n (bv l)) (hc : n ≤ c) (hcm : c ≤ maxLen) (hn : n ≤ 1000000) :
    Calls Tryd.prog 14 #[.slice A n c] w fun e w' => e = .returned (.bool (isF4 l)) ∧ Below w.heap.size w w' := by
  have hll : l.length = n := by have := h.1; rw [bv_length] at this; omega
  have P := parse4_any A n c l w h hc hcm (by omega)
  have hok := par4_ok l
  have BD := Lib.hid (fun (w' : World) (hr : Row w' w'.heap.size 1 A n (bv l)) => body4_any A n c l w' hr hc hcm (by omega))
  obtain ⟨S, hS⟩ : ∃ S, body4 l = S := ⟨_, rfl⟩
  obtain ⟨RB, hR⟩ : ∃ R, isF4 l = R := ⟨_, rfl⟩
  rw [hR]
  have hRF : RB = (decide ((par4 l).2 = 0) && decide ((par4 l).1.pro = 1) && decide (¬ 0 < (par4 l).1.off) && headErr S) := by rw [← hR]; unfold isF4; rw [hS]
  rw [hS] at BD
  clear hR hS
  cases hp : par4 l with
  | mk h4 er =>
  rw [hp] at P hok hRF
  simp only at P hok hRF
  have HP := Lib.hid P
  have HOK := Lib.hid hok
  have HH := Lib.hid h
  clear P hok hp h
  have H0 := H4.zero_ok
  by_cases he : er = 0
  · subst he
    by_cases hp1 : h4.pro = 1
    · have hp1b : (h4.pro != 1) = false := by simp [hp1]
      by_cases hof : 0 < h4.off
      · have HR := Lib.hid (show RB = false by rw [hRF, hp1, decide_eq_false (fun h : ¬ 0 < h4.off => h hof)]; rfl)
        clear hRF hp1
        go_enter Tryd.func14, Tryd.ntmps14
        go_wp2_with fail
        refine HP.out.mono ?_
        rintro e w1 ⟨rfl, hb1⟩
        go_upto_region 2 with (first
          | (refine wpList_alloc_blk rfl 56 rfl H4.zero.cells zero4 ?_; intro w2 hb2 hB2 hs2)
          | (refine wpList_store_all rfl 56 _ _ rfl w1.heap.size h4.cells rfl rfl 56 _ hb2 (size4 _ HOK.out) (H4.cells_same _ _ HOK.out H0) (H4.one _) ?_; intro w3 hb3 hg3 hs3))
        have hB3 : Below w1.heap.size w1 w3 := bgrown hB2 hg3 (by omega) (by omega)
        have HW := Lib.hid (bthen hb1 hB3)
        obtain ⟨g4, hg4⟩ : ∃ g, w1.heap.size = g := ⟨_, rfl⟩
        rw [hg4] at hb3
        try rw [hg4]
        have hd7 : w3.cell? ⟨g4, 7, none⟩ = some (.int .u8 h4.pro) := hb3.cell 7
        have hd5 : w3.cell? ⟨g4, 5, none⟩ = some (.int .i64 h4.off) := hb3.cell 5
        clear hb2 hB2 hs2 hb3 hg3 hs3 hB3 hg4 hb1
        go_wp2_with fail
        go_ret
        exact ⟨by rw [HR.out]; rfl, HW.out⟩
      · have HR := Lib.hid (show RB = headErr S by rw [hRF, hp1, decide_eq_true hof]; rfl)
        clear hRF hp1
        go_enter Tryd.func14, Tryd.ntmps14
        go_wp2_with fail
        refine HP.out.mono ?_
        rintro e w1 ⟨rfl, hb1⟩
        go_upto_region 2 with (first
          | (refine wpList_alloc_blk rfl 56 rfl H4.zero.cells zero4 ?_; intro w2 hb2 hB2 hs2)
          | (refine wpList_store_all rfl 56 _ _ rfl w1.heap.size h4.cells rfl rfl 56 _ hb2 (size4 _ HOK.out) (H4.cells_same _ _ HOK.out H0) (H4.one _) ?_; intro w3 hb3 hg3 hs3))
        have hB3 : Below w1.heap.size w1 w3 := bgrown hB2 hg3 (by omega) (by omega)
        have HW := Lib.hid (bthen hb1 hB3)
        obtain ⟨g4, hg4⟩ : ∃ g, w1.heap.size = g := ⟨_, rfl⟩
        rw [hg4] at hb3
        try rw [hg4]
        have hd7 : w3.cell? ⟨g4, 7, none⟩ = some (.int .u8 h4.pro) := hb3.cell 7
        have hd5 : w3.cell? ⟨g4, 5, none⟩ = some (.int .i64 h4.off) := hb3.cell 5
        clear hb2 hB2 hs2 hb3 hg3 hs3 hB3 hg4 hb1
        go_wp2_with fail
        refine (BD.out w3 ((HH.out.below HW.out).more HW.out.size)).mono ?_
        rintro e w4 ⟨⟨A4, n4, c4, l4⟩, rfl, hl4, ho4, hb4⟩
        dsimp only at hl4
        have hn4 : l4.length = n4 := ho4.len
        replace HW := Lib.hid (bthen HW.out hb4)
        clear hb4 hd7 hd5
        dsimp only [Bs.v]
        cases S with
        | nil =>
          subst hl4
          obtain rfl : n4 = 0 := hn4.symm
          clear ho4 hn4
          go_wp2_with fail
          go_ret
          exact ⟨by rw [HR.out]; rfl, HW.out⟩
        | cons u t =>
          subst hl4
          have hn5 : 0 < n4 := by rw [← hn4]; simp
          have hn5i : (0 : Int) < (n4 : Int) := by omega
          obtain ⟨b, o, rfl, hbb, hcell⟩ := Row.cells (n := n4) ho4.row hn5
          have hc0 : w4.cell? ⟨b, o, none⟩ = some (.int .u8 (u.toNat : Int)) := hcell 0 _ rfl
          have hub := u.toNat_lt
          obtain ⟨x, hx⟩ : ∃ x, u.toNat = x := ⟨_, rfl⟩
          have HRX : Hid (RB = errT x) := Lib.hid (by rw [HR.out, ← hx]; rfl)
          rw [hx] at hc0 hub
          have hE0 := cell_at (heap_new w4 #[.int .u8 3, .int .u8 4, .int .u8 5, .int .u8 11, .int .u8 12] 5)
          have HE0 := Lib.hid hE0
          have hb5 := alloc_below w4 (.cells #[.int .u8 3, .int .u8 4, .int .u8 5, .int .u8 11, .int .u8 12] 5)
          have HB5 := Lib.hid hb5
          have hc05 := (hb5.cell (p := ⟨b, o, none⟩) hbb).trans hc0
          clear hE0 hb5 hcell ho4 hn4 hx hc0
          go_wp2_with fail
          refine (contains5_any w4.heap.size x _ (by omega) (HE0.out 0) (HE0.out 1) (HE0.out 2) (HE0.out 3) (HE0.out 4)).mono ?_
          rintro e w6 ⟨rfl, rfl⟩
          go_wp2_with fail
          go_ret
          exact ⟨by rw [HRX.out]; rfl, bthen HW.out HB5.out⟩
    · have hp1b : (h4.pro != 1) = true := by simpa using hp1
      have HR := Lib.hid (show RB = false by rw [hRF, decide_eq_false hp1]; rfl)
      clear hRF hp1
      go_enter Tryd.func14, Tryd.ntmps14
      go_wp2_with fail
      refine HP.out.mono ?_
      rintro e w1 ⟨rfl, hb1⟩
      go_upto_region 2 with (first
        | (refine wpList_alloc_blk rfl 56 rfl H4.zero.cells zero4 ?_; intro w2 hb2 hB2 hs2)
        | (refine wpList_store_all rfl 56 _ _ rfl w1.heap.size h4.cells rfl rfl 56 _ hb2 (size4 _ HOK.out) (H4.cells_same _ _ HOK.out H0) (H4.one _) ?_; intro w3 hb3 hg3 hs3))
      have hB3 : Below w1.heap.size w1 w3 := bgrown hB2 hg3 (by omega) (by omega)
      have HW := Lib.hid (bthen hb1 hB3)
      obtain ⟨g4, hg4⟩ : ∃ g, w1.heap.size = g := ⟨_, rfl⟩
      rw [hg4] at hb3
      try rw [hg4]
      have hd7 : w3.cell? ⟨g4, 7, none⟩ = some (.int .u8 h4.pro) := hb3.cell 7
      have hd5 : w3.cell? ⟨g4, 5, none⟩ = some (.int .i64 h4.off) := hb3.cell 5
      clear hb2 hB2 hs2 hb3 hg3 hs3 hB3 hg4 hb1
      go_wp2_with fail
      go_ret
      exact ⟨by rw [HR.out]; rfl, HW.out⟩
  · have hne : (er != 0) = true := by simpa using he
    have HR := Lib.hid (show RB = false by rw [hRF, decide_eq_false he]; rfl)
    clear hRF he
    go_enter Tryd.func14, Tryd.ntmps14
    go_wp2_with fail
    refine HP.out.mono ?_
    rintro e w1 ⟨rfl, hb1⟩
    go_upto_region 2 with (first
      | (refine wpList_alloc_blk rfl 56 rfl H4.zero.cells zero4 ?_; intro w2 hb2 hB2 hs2)
      | (refine wpList_store_all rfl 56 _ _ rfl w1.heap.size h4.cells rfl rfl 56 _ hb2 (size4 _ HOK.out) (H4.cells_same _ _ HOK.out H0) (H4.one _) ?_; intro w3 hb3 hg3 hs3))
    have hB3 : Below w1.heap.size w1 w3 := bgrown hB2 hg3 (by omega) (by omega)
    have HW := Lib.hid (bthen hb1 hB3)
    obtain ⟨g4, hg4⟩ : ∃ g, w1.heap.size = g := ⟨_, rfl⟩
    rw [hg4] at hb3
    try rw [hg4]
    have hd7 : w3.cell? ⟨g4, 7, none⟩ = some (.int .u8 h4.pro) := hb3.cell 7
    have hd5 : w3.cell? ⟨g4, 5, none⟩ = some (.int .i64 h4.off) := hb3.cell 5
    clear hb2 hB2 hs2 hb3 hg3 hs3 hB3 hg4 hb1
    go_wp2_with fail
    go_ret
    exact ⟨by rw [HR.out]; rfl, HW.out⟩
end Go.Proofs.YtckbleiikldloaaDoor


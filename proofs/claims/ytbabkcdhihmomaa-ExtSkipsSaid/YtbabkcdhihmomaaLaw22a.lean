/- The walk of ExtGets (layer 22). No condition. -/
import Derived.Test.YtbabkcdhihmomaaLaw22
namespace Go.Proofs.Ytbabkcdhihmomaa
open Go.RowKit
set_option linter.unusedVariables false
set_option maxRecDepth 20000
set_option linter.unusedSimpArgs false

theorem toldG_len (zs : List UInt8) : (toldG zs).1.length ≤ 16 := by
  unfold toldG
  split
  · simp
  · split
    · simp
    · split
      · simp
      · simp only [outs_length]
        omega
set_option maxRecDepth 100000 in
set_option maxHeartbeats 4000000 in
theorem walk_ExtGets (W : World) (r : Bs) (hr : r.ok W) : Calls Try.prog 4 #[r.v] W fun e w' => e = .returned (.bool true) ∧ Below W.heap.size W w' := by
  obtain ⟨A, n, c, zs⟩ := r
  have hz : zs.length = n := hr.len
  have hrow := hr.row
  have hle := hr.le
  have hcap := hr.cap
  dsimp only at hrow hle hcap
  show Calls Try.prog 4 #[.slice A n c] W fun e w' => e = .returned (.bool true) ∧ Below W.heap.size W w'
  have AW := Lib.hid (awake22 W)
  have HROW := Lib.hid hrow
  have HZ := Lib.hid hz
  have HC := Lib.hid hcap
  clear hr hrow hz hcap
  by_cases hbig : 2000 < n
  · have hbi : (2000 : Int) < (n : Int) := by omega
    go_enter Try.func4, Try.ntmps4
    go_wp2_with fail
    refine AW.out.mono ?_
    rintro e w1 ⟨rfl, hb⟩
    have HB := Lib.hid hb
    clear hb
    go_wp2_with fail
    go_ret
    exact ⟨rfl, HB.out⟩
  · have hbi : ¬ (2000 : Int) < (n : Int) := by omega
    obtain ⟨G, hG⟩ : ∃ G, (getG zs).1 = G := ⟨_, rfl⟩
    obtain ⟨q, hq⟩ : ∃ q, (getG zs).2 = q := ⟨_, rfl⟩
    obtain ⟨m, hm⟩ : ∃ m, G.length = m := ⟨_, rfl⟩
    obtain ⟨T, hT⟩ : ∃ T, (toldG zs).1 = T := ⟨_, rfl⟩
    obtain ⟨p, hp⟩ : ∃ p, (toldG zs).2 = p := ⟨_, rfl⟩
    obtain ⟨k, hk⟩ : ∃ k, T.length = k := ⟨_, rfl⟩
    have hm2 : m ≤ 2000 := by have := getG_len zs; rw [hG, hm, HZ.out] at this; omega
    have hk2 : k ≤ 16 := by have := toldG_len zs; rw [hT, hk] at this; exact this
    have P1 := fun (w : World) (h : Row w w.heap.size 1 A n (bv zs)) => get22_any A n c zs w h hle HC.out (by omega)
    have P2 := fun (w : World) => rget22_any zs w (by rw [HZ.out]; omega)
    have P3 := fun (w : World) (h : Row w w.heap.size 1 A n (bv zs)) => told22_any A n c zs w h hle HC.out (by omega)
    have P4 := fun (w : World) => rtold22_any zs w (by rw [HZ.out]; omega)
    rw [hG, hq] at P1 P2
    rw [hm] at P2
    rw [hT, hp, hk] at P3 P4
    have H1 := Lib.hid P1
    have H2 := Lib.hid P2
    have H3 := Lib.hid P3
    have H4 := Lib.hid P4
    have HM := Lib.hid hm
    have HK := Lib.hid hk
    clear P1 P2 P3 P4 hG hq hm hT hp hk
    go_enter Try.func4, Try.ntmps4
    go_wp2_with fail
    refine AW.out.mono ?_
    rintro e w1 ⟨rfl, hb1⟩
    have HB := Lib.hid hb1
    clear hb1
    go_wp2_with fail
    refine (H1.out w1 ((HROW.out.below HB.out).more HB.out.size)).mono ?_
    rintro e w2 ⟨l2, A2, c2, rfl, hl2, ho2, hx2, hb2⟩
    have hn2 : l2.length = m := by rw [← HM.out, ← hl2, List.length_map]
    rw [hn2] at ho2 ⊢
    have HL2 := Lib.hid hl2
    have HO2 := Lib.hid ho2
    have HX2 := Lib.hid (oks22 hx2)
    replace HB := Lib.hid (bthen HB.out hb2)
    clear hl2 ho2 hx2 hb2 hn2
    go_wp2_with (refine wpList_str (by rfl) _ 26 9 5 rfl Try.underlying26 Try.underlying5 Try.underlying9 _ A n c zs rfl ((HROW.out.below HB.out)) ?_)
    refine (H2.out w2).mono ?_
    rintro e w3 ⟨A3, c3, rfl, ho3, hb3⟩
    have HO3 := Lib.hid ho3
    replace HB := Lib.hid (bthen HB.out hb3)
    replace HX2 := Lib.hid (fun x hx => (HX2.out x hx).on hb3)
    replace HO2 := Lib.hid (HO2.out.below hb3)
    clear ho3 hb3
    go_wp2_with fail
    refine (H3.out w3 ((HROW.out.below HB.out).more HB.out.size)).mono ?_
    rintro e w4 ⟨A4, c4, rfl, ho4, hb4⟩
    have HO4 := Lib.hid ho4
    replace HB := Lib.hid (bthen HB.out hb4)
    replace HX2 := Lib.hid (fun x hx => (HX2.out x hx).on hb4)
    replace HO2 := Lib.hid (HO2.out.below hb4)
    replace HO3 := Lib.hid (HO3.out.below hb4)
    clear ho4 hb4
    go_wp2_with (refine wpList_str (by rfl) _ 26 9 5 rfl Try.underlying26 Try.underlying5 Try.underlying9 _ A n c zs rfl ((HROW.out.below HB.out)) ?_)
    refine (H4.out w4).mono ?_
    rintro e w5 ⟨A5, c5, rfl, ho5, hb5⟩
    have HO5 := Lib.hid ho5
    replace HB := Lib.hid (bthen HB.out hb5)
    replace HX2 := Lib.hid (fun x hx => (HX2.out x hx).on hb5)
    replace HO2 := Lib.hid (HO2.out.below hb5)
    replace HO3 := Lib.hid (HO3.out.below hb5)
    replace HO4 := Lib.hid (HO4.out.below hb5)
    clear ho5 hb5
    go_wp2_with fail
    refine (plain22_any A2 m c2 l2 w5 HO2.out.row HX2.out (by omega)).mono ?_
    rintro e w6 ⟨A6, c6, rfl, ho6, hb6⟩
    rw [HL2.out] at ho6
    have HO6 := Lib.hid ho6
    replace HB := Lib.hid (bthen HB.out hb6)
    replace HO3 := Lib.hid (HO3.out.below hb6)
    replace HO4 := Lib.hid (HO4.out.below hb6)
    replace HO5 := Lib.hid (HO5.out.below hb6)
    clear ho6 hb6
    go_wp2_with fail
    refine (same22_any A6 A3 m c6 c3 G w6 HO6.out.row HO3.out.row (by omega)).mono ?_
    rintro e w7 ⟨rfl, hb7⟩
    replace HB := Lib.hid (bthen HB.out hb7)
    replace HO4 := Lib.hid (HO4.out.below hb7)
    replace HO5 := Lib.hid (HO5.out.below hb7)
    clear hb7
    go_wp2_with fail
    refine (exact_same A4 A5 k c4 c5 T w7 w7.heap.size HO4.out.row HO5.out.row (by omega)).mono ?_
    rintro e w8 ⟨rfl, hb8⟩
    replace HB := Lib.hid (bthen HB.out hb8)
    clear hb8
    go_wp2_with fail
    go_ret
    exact ⟨rfl, HB.out⟩
end Go.Proofs.Ytbabkcdhihmomaa

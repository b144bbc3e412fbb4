/- Texts of this claim put together, in build order: each one's own remark stands ahead of it. -/
import Derived.Test.YtdmgomknamdcfaaG02
import Derived.Test.YtdmgomknamdcfaaG29
import Derived.Test.YtdmgomknamdcfaaG31
import Derived.Deep.DeepCutAuto
import Derived.Test.YtdmgomknamdcfaaG27
import Derived.Test.YtdmgomknamdcfaaG01
import Derived.Lib.AppendZeros
/- slices.SortStableFunc turns a row of at most 60 items in rising order end to end. No condition but sizes. -/
namespace Go.Proofs.Ytdmgomknamdcfaa
open Go.RowKit
set_option linter.unusedVariables false
set_option maxRecDepth 20000
set_option linter.unusedSimpArgs false

/-- blocks of 20 turned, up to u; the rest as it was -/
def b20 (u k : Nat) : Nat := if k < u then k / 20 * 40 + 19 - k else k
/-- all blocks of 20 turned -/
def f20 (n k : Nat) : Nat := if k < n / 20 * 20 then k / 20 * 40 + 19 - k else if k < n then n / 20 * 20 + n - 1 - k else k
/-- blocks of 40 turned up to u, blocks of 20 behind it -/
def b40 (u n k : Nat) : Nat := if k < u then k / 40 * 80 + 39 - k else f20 n k
def f40 (n k : Nat) : Nat := if k < n / 40 * 40 then k / 40 * 80 + 39 - k else if k < n then n / 40 * 40 + n - 1 - k else k
theorem b20_zero (k : Nat) : b20 0 k = k := by unfold b20; rw [if_neg (by omega)]
theorem b20_step (t k : Nat) : b20 (20 * t) (revI (20 * t) (20 * t + 20) k) = b20 (20 * t + 20) k := by
 unfold b20 revI; repeat' split
 all_goals omega
theorem b20_end (t n k : Nat) (h : 20 * t ≤ n) (h2 : n < 20 * t + 20) : b20 (20 * t) (revI (20 * t) n k) = f20 n k := by
 unfold b20 revI f20; repeat' split
 all_goals omega
theorem b40_zero (n k : Nat) : b40 0 n k = f20 n k := by unfold b40; rw [if_neg (by omega)]
theorem b40_step (t n k : Nat) (h : 40 * t + 40 ≤ n) : b40 (40 * t) n (rotI (40 * t) (40 * t + 20) (40 * t + 40) k) = b40 (40 * t + 40) n k := by
 unfold b40 rotI f20; repeat' split
 all_goals omega
theorem b40_last (t n k : Nat) (h : 40 * t + 20 < n) (h2 : n < 40 * t + 40) : b40 (40 * t) n (rotI (40 * t) (40 * t + 20) n k) = f40 n k := by
 unfold b40 rotI f20 f40; repeat' split
 all_goals omega
theorem b40_none (t n k : Nat) (h : 40 * t ≤ n) (h2 : n ≤ 40 * t + 20) : b40 (40 * t) n k = f40 n k := by
 unfold b40 f20 f40; repeat' split
 all_goals omega
theorem f40_last (n k : Nat) (h : 40 < n) (h2 : n < 80) : f40 n (rotI 0 40 n k) = revI 0 n k := by
 unfold rotI f40 revI; repeat' split
 all_goals omega
theorem f20_small (n k : Nat) (h : n ≤ 20) : f20 n k = revI 0 n k := by
 unfold f20 revI; repeat' split
 all_goals omega
theorem f40_small (n k : Nat) (h : n ≤ 40) : f40 n k = revI 0 n k := by
 unfold f40 revI; repeat' split
 all_goals omega
/-- where the stretches lie that are merged -/
theorem b40_in (t n i j : Nat) (h1 : 40 * t ≤ i) (h2 : i < 40 * t + 20) (h3 : 40 * t + 20 ≤ j) (h4 : j < 40 * t + 40) (hj : j < n) : b40 (40 * t) n i < b40 (40 * t) n j ∧ b40 (40 * t) n j < n := by
 unfold b40 f20; repeat' split
 all_goals omega
theorem f40_in (n i j : Nat) (h2 : i < 40) (h3 : 40 ≤ j) (hj : j < n) (hn : n < 80) : f40 n i < f40 n j ∧ f40 n j < n := by
 unfold f40; repeat' split
 all_goals omega
theorem b20_in (u i j : Nat) (h : u ≤ i) (hj : i < j) : b20 u i < b20 u j ∧ b20 u j = j := by
 unfold b20; rw [if_neg (by omega), if_neg (by omega)]; omega
set_option maxHeartbeats 4000000 in
theorem stable_any (base : Nat) (A : Option Addr) (n c : Nat) (d : Nat → Itm) (hn : n ≤ 60) (hd : ∀ i j, i < j → j < n → (d i).1.len < (d j).1.len) (w : World) (hR : Rd w base A n c d) :
  Calls Try.prog 64 #[.slice A n c, .int .i64 (n : Nat), cmpV] w fun e w' => e = .returned (.tuple #[]) ∧ Rd w' base A n c (fun k => d (revI 0 n k)) ∧ Kept (blkS A c) w w' := by
 have HR0 := Hh hR
 have HD := Hh hd
 have HN := Hh hn
 have hn6 : (n : Int) ≤ 60 := by omega
 clear hR hd
 unfold cmpV
 go_enter Try.func64, Try.ntmps64
 go_wp2_with fail
 go_loopw [7, 8] (fun s7 s8 wr => ∃ (t : Nat), 20 * t ≤ n ∧ s7 = .int .i64 ((20 * t : Nat) : Int) ∧ s8 = .int .i64 ((20 * t + 20 : Nat) : Int) ∧ Rd wr base A n c (fun k => d (b20 (20 * t) k)) ∧ Kept (blkS A c) w wr) (fun s7 _ _ => n - (intOf s7).toNat)
 case atStart => exact ⟨0, by omega, rfl, rfl, HR0.out.congr (fun k _ => by rw [show 20 * 0 = 0 from rfl, b20_zero]), Kept.refl _ _⟩
 case round =>
  obtain ⟨t, ht, rfl, rfl, hR, hk⟩ := hrel
  clear HR0
  have HR := Hh hR
  have HK0 := Hh hk
  clear hR hk
  by_cases hlt : 20 * t + 20 ≤ n
  ·obtain ⟨u, hu⟩ : ∃ u, 20 * t = u := ⟨_, rfl⟩
   obtain ⟨v8, hv8⟩ : ∃ x, u + 20 = x := ⟨_, rfl⟩
   have HU := Hh hu
   have HV := Hh hv8
   rw [hu] at hlt ht HR
   rw [hu, hv8]
   have HI := Hh (insert_any base A n c _ u v8 (by omega) (by omega) (by omega) (by
    intro i j a1 a2 a3
    have e1 := b20_in u i j a1 a2
    exact HD.out _ _ e1.1 (by rw [e1.2]; omega)) wr HR.out)
   have h1 : (v8 : Int) ≤ (n : Int) := by omega
   have h2 : (u : Int) ≤ 60 := by omega
   clear hu hv8
   go_wp2_with fail
   have h9 := HI.out
   unfold cmpV at h9
   refine h9.mono ?_
   clear h9
   rintro e w1 ⟨rfl, hR, hk⟩
   have HR1 := Hh hR
   have HK1 := Hh (HK0.out.trans (T := blkS A c) hk (fun _ h _ => h))
   clear hR hk
   go_wp2_with fail
   go_roundw
   case rel => exact ⟨t + 1, by have := HU.out; have := HV.out; omega, by congr 1; have := HU.out; have := HV.out; omega, by congr 1; have := HU.out; have := HV.out; omega, HR1.out.congr (fun k _ => by
    have e1 := HU.out
    have e2 := HV.out
    show d (b20 u (revI u v8 k)) = d (b20 (20 * (t + 1)) k)
    rw [← e2, ← e1, b20_step]
    rfl), HK1.out⟩
   case measure => simp [intOf]; have := HU.out; have := HV.out; omega
  obtain ⟨u, hu⟩ : ∃ u, 20 * t = u := ⟨_, rfl⟩
  obtain ⟨v8, hv8⟩ : ∃ x, u + 20 = x := ⟨_, rfl⟩
  have HU := Hh hu
  have HV := Hh hv8
  rw [hu] at hlt ht HR
  rw [hu, hv8]
  have HI := Hh (insert_any base A n c _ u n (by omega) (by omega) (Nat.le_refl _) (by
   intro i j a1 a2 a3
   have e1 := b20_in u i j a1 a2
   exact HD.out _ _ e1.1 (by rw [e1.2]; omega)) wr HR.out)
  have h1 : ¬ (v8 : Int) ≤ (n : Int) := by omega
  have h2 : (u : Int) ≤ 60 := by omega
  clear hu hv8
  go_wp2_with fail
  have h9 := HI.out
  unfold cmpV at h9
  refine h9.mono ?_
  clear h9
  rintro e w1 ⟨rfl, hR, hk⟩
  have HR1 := Hh (hR.congr (e := fun k => d (f20 n k)) (fun k _ => by
   have e1 := HU.out
   show d (b20 u (revI u n k)) = d (f20 n k)
   rw [← e1, b20_end t n k (by omega) (by have := HV.out; omega)]))
  have HK1 := Hh (HK0.out.trans (T := blkS A c) hk (fun _ h _ => h))
  clear hR hk HR HK0 HI h1 h2
  go_wp2_with fail
  go_loopw [6, 7, 8, 9] (fun s6 _ _ _ wr => ∃ (s : Int) (f : Nat → Nat), s6 = .int .i64 s ∧ ((s = 20 ∧ ∀ k, f k = f20 n k) ∨ (s = 40 ∧ 20 < n ∧ ∀ k, f k = f40 n k) ∨ (s = 80 ∧ ∀ k, f k = revI 0 n k)) ∧ Rd wr base A n c (fun k => d (f k)) ∧ Kept (blkS A c) w wr) (fun s6 _ _ _ _ => 80 - (intOf s6).toNat)
  case atStart => exact ⟨20, _, rfl, .inl ⟨rfl, fun _ => rfl⟩, HR1.out, HK1.out⟩
  case round =>
   obtain ⟨s, f, rfl, hs, hR, hk⟩ := hrel
   clear HR1 HK1
   have HR := Hh hR
   have HK0 := Hh hk
   clear hR hk
   rcases hs with ⟨rfl, hf⟩ | ⟨rfl, h20, hf⟩ | ⟨rfl, hf⟩
   ·have HF := Hh hf
    clear hf
    by_cases hn2 : 20 < n
    ·have h1 : (20 : Int) < (n : Int) := by omega
     have HR2 := Hh (HR.out.congr (e := fun k => d (b40 0 n k)) (fun k _ => by rw [HF.out, b40_zero]))
     clear HR
     go_wp2_with fail
     go_loopw [7, 8] (fun s7 s8 wr => ∃ (t : Nat), 40 * t ≤ n ∧ s7 = .int .i64 ((40 * t : Nat) : Int) ∧ s8 = .int .i64 ((40 * t + 40 : Nat) : Int) ∧ Rd wr base A n c (fun k => d (b40 (40 * t) n k)) ∧ Kept (blkS A c) w wr) (fun s7 _ _ => n - (intOf s7).toNat)
     case atStart => exact ⟨0, by omega, rfl, rfl, HR2.out, HK0.out⟩
     case round =>
      obtain ⟨t, ht, rfl, rfl, hR, hk⟩ := hrel
      clear HR2 HK0
      have HR := Hh hR
      have HK0 := Hh hk
      clear hR hk
      by_cases hlt : 40 * t + 40 ≤ n
      ·obtain ⟨u, hu⟩ : ∃ u, 40 * t = u := ⟨_, rfl⟩
       obtain ⟨v8, hv8⟩ : ∃ x, u + 40 = x := ⟨_, rfl⟩
       obtain ⟨m8, hm8⟩ : ∃ x, u + 20 = x := ⟨_, rfl⟩
       have HU := Hh hu
       have HV := Hh hv8
       have HM := Hh hm8
       rw [hu] at hlt ht HR
       rw [hu, hv8]
       have HI := Hh (merge_any _ u m8 v8 (Nat.le_refl _) base A n c _ (by omega) (by omega) (by omega) (by omega) (by
        intro i j a1 a2 a3 a4
        have e1 := b40_in t n i j (by omega) (by omega) (by omega) (by omega) (by omega)
        rw [hu] at e1
        exact HD.out _ _ e1.1 e1.2) wr HR.out)
       have h1 : (v8 : Int) ≤ (n : Int) := by omega
       have h2 : (u : Int) ≤ 60 := by omega
       have h3 : (u : Int) + 20 = (m8 : Int) := by omega
       have H3 := Hh h3
       clear hu hv8 hm8 h3
       go_wp2_with fail
       rw [H3.out]
       have h9 := HI.out
       unfold cmpV at h9
       refine h9.mono ?_
       clear h9
       rintro e w1 ⟨rfl, hR, hk⟩
       have HR1 := Hh hR
       have HK1 := Hh (HK0.out.trans (T := blkS A c) hk (fun _ h _ => h))
       clear hR hk
       go_wp2_with fail
       go_roundw
       case rel => exact ⟨t + 1, by have := HU.out; have := HV.out; omega, by congr 1; have := HU.out; have := HV.out; omega, by congr 1; have := HU.out; have := HV.out; omega, HR1.out.congr (fun k _ => by
        have e1 := HU.out
        have e2 := HV.out
        have e3 := HM.out
        show d (b40 u n (rotI u m8 v8 k)) = d (b40 (40 * (t + 1)) n k)
        rw [← e2, ← e3, ← e1, b40_step t n k (by omega)]
        rfl), HK1.out⟩
       case measure => simp [intOf]; have := HU.out; have := HV.out; omega
      obtain ⟨u, hu⟩ : ∃ u, 40 * t = u := ⟨_, rfl⟩
      obtain ⟨v8, hv8⟩ : ∃ x, u + 40 = x := ⟨_, rfl⟩
      obtain ⟨m8, hm8⟩ : ∃ x, u + 20 = x := ⟨_, rfl⟩
      have HU := Hh hu
      have HV := Hh hv8
      have HM := Hh hm8
      rw [hu] at hlt ht HR
      rw [hu, hv8]
      have h1 : ¬ (v8 : Int) ≤ (n : Int) := by omega
      have h2 : (u : Int) ≤ 60 := by omega
      have h3 : (u : Int) + 20 = (m8 : Int) := by omega
      have H3 := Hh h3
      clear h3
      by_cases hm : m8 < n
      ·have HI := Hh (merge_any _ u m8 n (Nat.le_refl _) base A n c _ (by omega) (by omega) (by omega) (by omega) (by
        intro i j a1 a2 a3 a4
        have e1 := b40_in t n i j (by omega) (by omega) (by omega) (by omega) (by omega)
        rw [hu] at e1
        exact HD.out _ _ e1.1 e1.2) wr HR.out)
       have h4 : (m8 : Int) < (n : Int) := by omega
       clear hu hv8 hm8
       go_upto_region 14 with fail
       rw [H3.out]
       go_wp2_with fail
       have h9 := HI.out
       unfold cmpV at h9
       refine h9.mono ?_
       clear h9
       rintro e w1 ⟨rfl, hR, hk⟩
       have HR1 := Hh (hR.congr (e := fun k => d (f40 n k)) (fun k _ => by
        have e1 := HU.out
        have e3 := HM.out
        show d (b40 u n (rotI u m8 n k)) = d (f40 n k)
        rw [← e3, ← e1, b40_last t n k (by omega) (by have := HV.out; omega)]))
       have HK1 := Hh (HK0.out.trans (T := blkS A c) hk (fun _ h _ => h))
       clear hR hk
       go_wp2_with fail
       go_roundw
       case rel => exact ⟨40, _, rfl, .inr (.inl ⟨rfl, hn2, fun _ => rfl⟩), HR1.out, HK1.out⟩
       case measure => simp [intOf]
      have h4 : ¬ (m8 : Int) < (n : Int) := by omega
      have HR1 := Hh (HR.out.congr (e := fun k => d (f40 n k)) (fun k _ => by
       show d (b40 u n k) = d (f40 n k)
       rw [← hu, b40_none t n k (by omega) (by omega)]))
      clear hu hv8 hm8
      go_upto_region 14 with fail
      rw [H3.out]
      go_wp2_with fail
      go_roundw
      case rel => exact ⟨40, _, rfl, .inr (.inl ⟨rfl, hn2, fun _ => rfl⟩), HR1.out, HK0.out⟩
      case measure => simp [intOf]
    have h1 : ¬ (20 : Int) < (n : Int) := by omega
    go_wp2_with fail
    exact bodyPost_end (results_none rfl _ _ _) rfl ⟨rfl, HR.out.congr (fun k _ => by rw [HF.out, f20_small n k (by omega)]), HK0.out⟩
   ·have HF := Hh hf
    clear hf
    by_cases hn2 : 40 < n
    ·have h1 : (40 : Int) < (n : Int) := by omega
     have h2 : ¬ (80 : Int) ≤ (n : Int) := by omega
     have HI := Hh (merge_any _ 0 40 n (Nat.le_refl _) base A n c _ (by omega) (by omega) (by omega) (by omega) (by
      intro i j a1 a2 a3 a4
      have e1 := f40_in n i j a2 a3 a4 (by omega)
      rw [← HF.out i, ← HF.out j] at e1
      exact HD.out _ _ e1.1 e1.2) wr HR.out)
     go_wp2_with fail
     go_loopw [7, 8] (fun s7 s8 wq => s7 = .int .i64 0 ∧ s8 = .int .i64 80 ∧ wq = wr) (fun _ _ _ => 0)
     case atStart => exact ⟨rfl, rfl, rfl⟩
     case round =>
      obtain ⟨rfl, rfl, rfl⟩ := hrel
      go_wp2_with fail
      have h9 := HI.out
      unfold cmpV at h9
      refine h9.mono ?_
      clear h9
      rintro e w1 ⟨rfl, hR, hk⟩
      have HR1 := Hh (hR.congr (e := fun k => d (revI 0 n k)) (fun k _ => by
       show d (f (rotI 0 40 n k)) = d (revI 0 n k)
       rw [HF.out, f40_last n k (by omega) (by omega)]))
      have HK1 := Hh (HK0.out.trans (T := blkS A c) hk (fun _ h _ => h))
      clear hR hk
      go_wp2_with fail
      go_roundw
      case rel => exact ⟨80, _, rfl, .inr (.inr ⟨rfl, fun _ => rfl⟩), HR1.out, HK1.out⟩
      case measure => simp [intOf]
    have h1 : ¬ (40 : Int) < (n : Int) := by omega
    go_wp2_with fail
    exact bodyPost_end (results_none rfl _ _ _) rfl ⟨rfl, HR.out.congr (fun k _ => by rw [HF.out, f40_small n k (by omega)]), HK0.out⟩
   have HF := Hh hf
   clear hf
   have h1 : ¬ (80 : Int) < (n : Int) := by omega
   go_wp2_with fail
   exact bodyPost_end (results_none rfl _ _ _) rfl ⟨rfl, HR.out.congr (fun k _ => by rw [HF.out]), HK0.out⟩
set_option maxHeartbeats 1000000 in
theorem sortstable_any (base : Nat) (A : Option Addr) (n c : Nat) (d : Nat → Itm) (hn : n ≤ 60) (hd : ∀ i j, i < j → j < n → (d i).1.len < (d j).1.len) (w : World) (hR : Rd w base A n c d) :
  Calls Try.prog 41 #[.slice A n c, cmpV] w fun e w' => e = .returned (.tuple #[]) ∧ Rd w' base A n c (fun k => d (revI 0 n k)) ∧ Kept (blkS A c) w w' := by
 have HI := Hh (stable_any base A n c d hn hd w hR)
 clear hR hd
 unfold cmpV
 go_enter Try.func41, Try.ntmps41
 go_wp2_with fail
 have h9 := HI.out
 unfold cmpV at h9
 refine h9.mono ?_
 clear h9
 rintro e w1 ⟨rfl, hR, hk⟩
 have HR1 := Hh hR
 have HK1 := Hh hk
 clear hR hk
 go_wp2_with fail
 exact bodyPost_end (results_none rfl _ _ _) rfl ⟨rfl, HR1.out, HK1.out⟩
end Go.Proofs.Ytdmgomknamdcfaa

/- Plain laws of what covers a prefix, and what it covers (layer 10). No condition. -/
namespace Go.Proofs.Ytdmgomknamdcfaa
set_option linter.unusedVariables false
set_option linter.unusedSimpArgs false

/-- x covers p, and is another one -/
def overB (p : Px) (x : Itm) : Bool := covP x.1 p && !decide (x.1 = p)
def underB (p : Px) (x : Itm) : Bool := covP p x.1
theorem cov_iff {p q : Px} (hp : p.good) (hq : q.good) : covP p q = true ↔ p.six = q.six ∧ p.bits <+: q.bits := by
 unfold covP hasA
 rw [Bool.and_eq_true, Bool.and_eq_true, decide_eq_true_eq, decide_eq_true_eq, covers_iff hp hq]
 constructor
 ·rintro ⟨h1, h2⟩
  exact ⟨by simpa using h1, h2⟩
 rintro ⟨h1, h2⟩
 exact ⟨by simpa using h1, h2⟩
/-- of two that cover a prefix, and stand in order, the first one is the shorter one -/
theorem over_len {p x y : Px} (hp : p.good) (hx : x.good) (hy : y.good) (h1 : covP x p = true) (h2 : covP y p = true) (h : ltB x.bits y.bits = true) : x.len < y.len := by
 have b1 := ((cov_iff hx hp).1 h1).2
 have b2 := ((cov_iff hy hp).1 h2).2
 have lx := hx.bits_length
 have ly := hy.bits_length
 have gx := hx.ge
 have gy := hy.ge
 rcases Nat.lt_or_ge x.bits.length y.bits.length with hl | hl
 ·omega
 exfalso
 obtain ⟨r, hr⟩ := List.prefix_of_prefix_length_le b2 b1 hl
 rw [← hr] at h
 cases r with
 | nil => rw [List.append_nil, ltB_irrefl] at h; cases h
 | cons b r =>
  have h3 := ltB_trans _ _ _ h (ltB_longer y.bits r b)
  rw [ltB_irrefl] at h3
  cases h3
/-- the items that cover a prefix rise in length -/
theorem over_rise {s : Bool} {L : List Itm} (h : Lok s L) {p : Px} (hp : p.good) : (L.filter (overB p)).Pairwise fun x y => x.1.len < y.1.len := by
 have h1 : L.Pairwise fun x y => ltB x.1.bits y.1.bits = true := by
  have := h.sorted
  unfold Sorted at this
  exact List.pairwise_map.1 this
 refine (h1.filter (overB p)).imp_of_mem ?_
 intro x y hx hy hlt
 obtain ⟨mx, cx⟩ := List.mem_filter.1 hx
 obtain ⟨my, cy⟩ := List.mem_filter.1 hy
 unfold overB at cx cy
 rw [Bool.and_eq_true] at cx cy
 exact over_len hp (h.good x mx) (h.good y my) cx.1 cy.1 hlt
theorem rowD_rev (n : Nat) (d : Nat → Itm) : rowD n (fun k => d (revI 0 n k)) = (rowD n d).reverse := by
 apply List.ext_getElem?
 intro k
 by_cases h : k < n
 ·rw [rowD_get _ h, List.getElem?_reverse (by rw [rowD_length]; exact h), rowD_length, rowD_get _ (by omega)]
  congr 2
  unfold revI
  rw [if_pos (by omega)]
  omega
 rw [List.getElem?_eq_none (by rw [rowD_length]; omega), List.getElem?_eq_none (by rw [List.length_reverse, rowD_length]; omega)]
/-- what fib's Above tells, and Below -/
def aboveF (L : List Itm) (p : Px) : List Itm := if chkP p = 0 then (L.filter (overB p)).reverse else []
def belowF (L : List Itm) (p : Px) : List Itm := if chkP p = 0 then L.filter (underB p) else []
end Go.Proofs.Ytdmgomknamdcfaa

/- What slices.Grow (of nothing) and slices.Concat compute. No condition but sizes. -/
namespace Go.Proofs.Ytdmgomknamdcfaa
open Go.RowKit
set_option linter.unusedVariables false
set_option maxRecDepth 20000

theorem info_items : (Try.prog.info? 35).map (fun i => (i.zero, i.size, i.bytes)) = some (some (.agg #[.bool false, .int .u8 0, .int .u8 0, .int .u8 0, .int .u8 0, .int .u8 0, .int .u8 0, .int .u8 0, .int .u8 0, .int .u8 0, .int .u8 0, .int .u8 0, .int .u8 0, .int .u8 0, .int .u8 0, .int .u8 0, .int .u8 0, .int .i64 0, .int .i64 0]), 19, 40) := by kernel_rfl

set_option maxHeartbeats 400000 in
theorem grow_items (m : Int) (w : World) (hm0 : 0 ≤ m) (hm : m ≤ 1099511627776) :
  Calls Try.prog 79 #[.slice none 0 0, .int .i64 m] w fun e w' => ∃ A' c', e = .returned (.slice A' 0 c') ∧ Own w' w.heap.size 35 19 A' 0 c' [] ∧ Below w.heap.size w w' := by
 obtain ⟨m, rfl⟩ := Int.eq_ofNat_of_zero_le hm0
 rcases Nat.eq_zero_or_pos m with h0 | h0
 ·subst h0
  go_enter Try.func79, Try.ntmps79
  go_wp2_with fail
  go_ret
  exact ⟨none, 0, rfl, Own.nil _ _ _ _ _, Below.refl _ _⟩
 obtain ⟨i0, hi0, hz0, hz1, hz2⟩ := info_parts info_items
 have hrun := Lib.run_append_nil_zeros (P := Try.prog) w 40 3 40 35 i0 _ .i64 .i64 Try.underlying40 Try.underlying3 hi0 hz0 m h0 (by omega) (by omega) (by rw [hz2]; omega)
 have HR := Hh hrun
 clear hrun
 go_enter Try.func79, Try.ntmps79
 go_wp2_with (at_builtin; refine Lib.wpList_append_run _ rfl _ _ _ _ rfl _ _ rfl rfl _ _ HR.out ?_)
 go_ret
 refine ⟨_, _, rfl, ?_, ((Below.refl _ _).drew).alloc (Nat.le_refl _) _⟩
 refine ⟨rfl, Nat.zero_le _, grownCap_le_maxLen _ _ _ _ (by simp only [maxLen]; omega), .inr ⟨_, _, rfl, Nat.le_refl _, heap_alloc_new w.drew _, ?_, by simp⟩⟩
 have := grownCap_ge w m 0 35
 simp only [Array.size_append, size_zeroCells, ← Nat.add_mul]
 rw [show m + (grownCap w m 0 35 - m) = grownCap w m 0 35 by omega]
 rfl

set_option maxHeartbeats 1000000 in
theorem concat_items (R : Option Addr) (k c : Nat) (rows : List Sl) (w : World) (h : Row w w.heap.size 1 R k (rows.map Sl.v)) (hr : ∀ r ∈ rows, r.ok 19 w) (hk : k ≤ 1099511627776) (ht : lenV rows ≤ 1099511627776) :
  Calls Try.prog 66 #[.slice R k c] w fun e w' => ∃ A' c', e = .returned (.slice A' (lenV rows) c') ∧ Own w' w.heap.size 35 19 A' (lenV rows) c' (flatV rows) ∧ Below w.heap.size w w' := by
 have hkl : rows.length = k := by have := h.1; simpa using this
 go_enter Try.func66, Try.ntmps66
 go_wp2_with fail
 go_loop [3, 11] (fun s j => ∃ i : Nat, i ≤ k ∧ j = .int .i64 i ∧ s = .int .i64 (lenV (rows.take i) : Nat)) (fun _ j => k - (intOf j).toNat)
 case atStart => exact ⟨0, Nat.zero_le _, rfl, rfl⟩
 case round =>
  obtain ⟨i, hi, rfl, rfl⟩ := hrel
  by_cases hlt : i < k
  ·obtain ⟨r, hri⟩ := get_ex rows (k := i) (by omega)
   obtain ⟨b, o, rfl, hbB, hcell⟩ := h.2 (by omega)
   have hcr := hcell i r.v (by simp [hri])
   unfold Sl.v at hcr
   have hn := lenV_take_le rows (i + 1)
   have HS := Hh (take_snoc rows i r hri)
   rw [HS.out, lenV_snoc] at hn
   have HL := Hh hkl
   clear hcell hri hr hkl
   generalize hd : lenV (rows.take i) = done at hn ⊢
   have HD := Hh hd
   clear hd
   obtain ⟨rA, rn, rc, rl⟩ := r
   simp only at hcr hn HS
   go_wp2_with fail
   go_round
   case rel => exact ⟨i + 1, by omega, by go_num, by rw [HS.out, lenV_snoc, HD.out]; go_num⟩
   case measure => simp [intOf]; omega
  have : i = k := by omega
  subst this
  have htk : rows.take i = rows := List.take_of_length_le (by omega)
  rw [htk]
  generalize hL : lenV rows = tot at ht ⊢
  have HL := Hh hL
  have HK := Hh hkl
  clear htk hkl hL
  go_wp2_with fail
  refine (grow_items _ _ (by omega) (by omega)).mono ?_
  rintro e w1 ⟨A', c', rfl, hown, hb⟩
  clear hlt
  go_wp2_with fail
  go_loopw [6, 27] (fun s j wr => ∃ (m : Nat) (A2 : Option Addr) (c2 : Nat), m ≤ i ∧ j = .int .i64 m ∧ s = .slice A2 (lenV (rows.take m)) c2 ∧ Own wr w.heap.size 35 19 A2 (lenV (rows.take m)) c2 (flatV (rows.take m)) ∧ Below w.heap.size w wr) (fun _ j _ => i - (intOf j).toNat)
  case atStart => exact ⟨0, A', c', Nat.zero_le _, rfl, rfl, hown, hb⟩
  case round =>
   obtain ⟨m, A2, c2, hm, rfl, rfl, hown2, hb2⟩ := hrel
   clear hown hb
   by_cases hlt : m < i
   ·obtain ⟨r, hri⟩ := get_ex rows (k := m) (by have := HK.out; omega)
    have hrok := hr r (List.mem_of_getElem? hri)
    obtain ⟨b, o, rfl, hbB, hcell⟩ := h.2 (by omega)
    have hcr := (hb2.cell (p := ⟨b, o + m, none⟩) hbB).trans (hcell m r.v (by simp [hri]))
    unfold Sl.v at hcr
    have hn := lenV_take_le rows (m + 1)
    have HS := Hh (take_snoc rows m r hri)
    rw [HS.out, lenV_snoc, HL.out] at hn
    clear hcell hri hr
    have hrow := hrok.row.below hb2
    have hone := hrok.one
    generalize hd : lenV (rows.take m) = done at hn hown2 ⊢
    have HD := Hh hd
    clear hd hrok
    obtain ⟨rA, rn, rc, rl⟩ := r
    simp only at hcr hn HS hrow hone
    have HO := Hh hown2
    have HR := Hh hrow
    have H1 := Hh hone
    clear hown2 hrow hone h
    go_wp2_with (at_builtin; refine wpList_append_Own _ rfl _ _ 40 rfl w.heap.size 35 _ 19 40 Try.underlying40 info_items rfl (by decide) _ _ _ _ rfl HO.out w.heap.size _ _ _ rl rfl HR.out H1.out (by simp only [maxLen]; omega) (by omega) hb2.size ?_; intro A3 c3 w3 hown3 hg3 _)
    have hb3 := hb2.grown hg3 hb2.size (fun g hg => (HO.out.lt g hg).1)
    go_roundw
    case rel =>
     refine ⟨m + 1, A3, c3, by omega, by go_num, ?_, ?_, hb3⟩
     ·rw [HS.out, lenV_snoc, HD.out]
     rw [HS.out, lenV_snoc, HD.out, flatV_snoc]; exact hown3
    case measure => simp [intOf]; omega
   have : m = i := by omega
   subst this
   rw [List.take_of_length_le (by have := HK.out; omega), HL.out] at hown2
   rw [List.take_of_length_le (by have := HK.out; omega), HL.out]
   clear h hr
   go_wp2_with fail
   go_ret
   exact ⟨A2, c2, by rw [HL.out]; rfl, by rw [HL.out]; exact hown2, hb2⟩

end Go.Proofs.Ytdmgomknamdcfaa


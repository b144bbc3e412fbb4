/- The walk of ExtBack (layer 22). No condition. -/
import Derived.Test.YtbabkcdhihmomaaLaw22b
namespace Go.Proofs.Ytbabkcdhihmomaa
open Go.RowKit
set_option linter.unusedVariables false
set_option maxRecDepth 20000
set_option linter.unusedSimpArgs false

theorem stack_cases (s : List Ent) (hf : ∀ x ∈ s, x.fit) : ((stack22 s).1 = [] ∧ ((stack22 s).2 != 0) = true) ∨ ((stack22 s).2 = 0 ∧ s.length ≤ 16 ∧ (∀ x ∈ s, x.good) ∧ (stack22 s).1 = hd22 (obsB [⟨1, 1, s.flatMap packL⟩]) ∧ (stack22 s).1.length ≤ 100 ∧ toldG (stack22 s).1 = (s, 0)) := by
  unfold stack22
  by_cases h16 : 16 < s.length
  · rw [if_pos h16]
    exact .inl ⟨rfl, rfl⟩
  · rw [if_neg h16]
    by_cases hg : s.all (fun x => decide x.good) = true
    · rw [if_pos hg]
      have hgd : ∀ x ∈ s, x.good := fun x hx => by simpa using List.all_eq_true.1 hg x hx
      have hl := packs_len s hgd
      have hob : obB ⟨1, 1, s.flatMap packL⟩ = obsB [⟨1, 1, s.flatMap packL⟩] := by simp [obsB]
      refine .inr ⟨rfl, by omega, hgd, by rw [hob], ?_, ?_⟩
      · rw [hd22_length, obB_length]
        simp only [hl]
        omega
      · rw [hob]
        exact told_of _ (by
          intro x hx
          obtain rfl := List.mem_singleton.1 hx
          exact ⟨by unfold Ob.good; simp only [hl]; simp; omega, by simp, by simp⟩) s hf hgd (by omega) rfl
    · rw [if_neg hg]
      exact .inl ⟨rfl, rfl⟩
theorem ext_cases (l : List Xo) (w : World) (hok : ∀ x ∈ l, x.ok w) : ((ext22 (l.map Xo.ob)).2 = 1 ∧ (ext22 (l.map Xo.ob)).1 = []) ∨ ((ext22 (l.map Xo.ob)).2 = 0 ∧ (∀ x ∈ l.map Xo.ob, x.fine) ∧ (ext22 (l.map Xo.ob)).1 = hd22 (obsB (l.map Xo.ob))) := by
  unfold ext22
  by_cases hg : (l.map Xo.ob).all Ob.good = true
  · rw [if_pos hg]
    refine .inr ⟨rfl, fun y hy => ?_, rfl⟩
    obtain ⟨x, hx, rfl⟩ := List.mem_map.1 hy
    exact ⟨List.all_eq_true.1 hg _ (List.mem_map.2 ⟨x, hx, rfl⟩), (hok x hx).cls, (hok x hx).kind⟩
  · rw [if_neg hg]
    exact .inl ⟨rfl, rfl⟩
set_option maxRecDepth 100000 in
set_option maxHeartbeats 8000000 in
theorem walk_ExtBack (W : World) (r : Xs) (hr : r.ok W) (A1 : Option Addr) (n1 c1 : Nat) (s : List Ent) (hs : Row W W.heap.size 4 A1 n1 (evs s)) (hsc : n1 ≤ c1) (hscm : c1 ≤ maxLen) (hwf : ∀ x ∈ s, x.wf) (bit : Int) (hbit : 0 ≤ bit ∧ bit ≤ 65535) :
    Calls Try.prog 5 #[r.v, .slice A1 n1 c1, .int .u16 bit] W fun e w' => e = .returned (.bool true) ∧ Below W.heap.size W w' := by
  obtain ⟨A, n, c, l⟩ := r
  have hrow := hr.row
  have hle := hr.le
  have hcap := hr.cap
  have hall := hr.all
  dsimp only at hrow hle hcap hall
  show Calls Try.prog 5 #[.slice A n c, .slice A1 n1 c1, .int .u16 bit] W fun e w' => e = .returned (.bool true) ∧ Below W.heap.size W w'
  obtain ⟨hbit0, hbit1⟩ := hbit
  have hlen : l.length = n := xo_len hrow
  have hslen : s.length = n1 := ent_len hs
  have AW := Lib.hid (awake22 W)
  have HROW := Lib.hid hrow
  have HS := Lib.hid hs
  have HALL := Lib.hid hall
  have HF := Lib.hid (fun x hx => (hwf x hx).fit)
  have HL := Lib.hid hlen
  have HSL := Lib.hid hslen
  have SM := Lib.hid (fun (w : World) (h : Row w w.heap.size 3 A n (xos l)) (h2 : ∀ x ∈ l, x.ok w) => small22_any A n c l w h h2 (by omega))
  have hn1 : n1 ≤ maxLen := by omega
  unfold maxLen at hn1
  clear hr hrow hcap hall hs hwf hlen hslen hscm
  by_cases hsm : (l.all (fun x => decide (x.n ≤ 1100)) && decide (n ≤ 10)) = true
  · rw [hsm] at SM
    rw [Bool.and_eq_true, List.all_eq_true] at hsm
    have hn10 : n ≤ 10 := by simpa using hsm.2
    clear hsm
    by_cases h40 : 40 < n1
    · have h40i : (40 : Int) < (n1 : Int) := by omega
      go_enter Try.func5, Try.ntmps5
      go_wp2_with fail
      refine AW.out.mono ?_
      rintro e w1 ⟨rfl, hb1⟩
      have HB := Lib.hid hb1
      clear hb1
      go_wp2_with fail
      refine (SM.out w1 ((HROW.out.below HB.out).more HB.out.size) (fun x hx => (HALL.out x hx).on HB.out)).mono ?_
      rintro e w2 ⟨rfl, rfl⟩
      go_wp2_with fail
      go_ret
      exact ⟨rfl, HB.out⟩
    · have h40i : ¬ (40 : Int) < (n1 : Int) := by omega
      have P1 := fun (w : World) (h : Row w w.heap.size 3 A n (xos l)) (h2 : ∀ x ∈ l, x.ok w) => put22_any A n c l w h h2 (by omega)
      have P3 := fun (w : World) (h : Row w w.heap.size 4 A1 n1 (evs s)) => stack22p_any A1 n1 c1 s w h HF.out (by omega)
      have SC := stack_cases s HF.out
      obtain ⟨T, hT⟩ : ∃ T, (stack22 s).1 = T := ⟨_, rfl⟩
      obtain ⟨p, hp⟩ : ∃ p, (stack22 s).2 = p := ⟨_, rfl⟩
      obtain ⟨k, hk⟩ : ∃ k, T.length = k := ⟨_, rfl⟩
      rw [hT, hp] at P3 SC
      rw [hk] at P3 SC
      have H3 := Lib.hid P3
      have HSC := Lib.hid SC
      have HK := Lib.hid hk
      clear P3 hT hp hk SC
      rcases ext_cases l W HALL.out with ⟨hq, hF⟩ | ⟨hq, hfine, hF⟩
      · rw [hq, hF] at P1
        have H1 := Lib.hid P1
        clear P1 hq hF
        go_enter Try.func5, Try.ntmps5
        go_wp2_with fail
        refine AW.out.mono ?_
        rintro e w1 ⟨rfl, hb1⟩
        have HB := Lib.hid hb1
        clear hb1
        go_wp2_with fail
        refine (SM.out w1 ((HROW.out.below HB.out).more HB.out.size) (fun x hx => (HALL.out x hx).on HB.out)).mono ?_
        rintro e w2 ⟨rfl, rfl⟩
        go_wp2_with fail
        refine (H1.out w2 ((HROW.out.below HB.out).more HB.out.size) (fun x hx => (HALL.out x hx).on HB.out)).mono ?_
        rintro e w3 ⟨A3, c3, rfl, ho3, hb3⟩
        have HO3 := Lib.hid ho3
        replace HB := Lib.hid (bthen HB.out hb3)
        clear ho3 hb3
        go_wp2_with fail
        rcases HSC.out with ⟨hT, hp⟩ | ⟨hp, h16, hgd, _, hk100, htl⟩
        · subst hT
          obtain rfl : k = 0 := HK.out.symm
          go_wp2_with fail
          refine (H3.out _ ((HS.out.below HB.out).more HB.out.size)).mono ?_
          rintro e wa ⟨Aa, ca, rfl, hoa, hba⟩
          replace HB := Lib.hid (bthen HB.out hba)
          clear hoa hba
          go_wp2_with fail
          go_ret
          exact ⟨rfl, HB.out⟩
        · subst hp
          have HTL := Lib.hid htl
          clear htl h16 hgd
          go_wp2_with fail
          refine (H3.out _ ((HS.out.below HB.out).more HB.out.size)).mono ?_
          rintro e wa ⟨Aa, ca, rfl, hoa, hba⟩
          have HOA := Lib.hid hoa
          replace HB := Lib.hid (bthen HB.out hba)
          clear hoa hba
          go_wp2_with fail
          refine (told22_any Aa k ca T wa HOA.out.row HOA.out.le HOA.out.cap (by omega)).mono ?_
          rintro e wb ⟨Ab, cb, rfl, hob, hbb⟩
          rw [HTL.out] at hob ⊢
          dsimp only at hob ⊢
          rw [HSL.out] at hob ⊢
          have HOB := Lib.hid hob
          replace HB := Lib.hid (bthen HB.out hbb)
          clear hob hbb
          go_wp2_with fail
          refine (exact_same A1 Ab n1 c1 cb s wb wb.heap.size ((HS.out.below HB.out).more HB.out.size) HOB.out.row (by omega)).mono ?_
          rintro e wc ⟨rfl, hbc⟩
          replace HB := Lib.hid (bthen HB.out hbc)
          clear hbc
          go_wp2_with fail
          go_ret
          exact ⟨rfl, HB.out⟩
      · rw [hq, hF] at P1
        obtain ⟨F, hFF⟩ : ∃ F, hd22 (obsB (l.map Xo.ob)) = F := ⟨_, rfl⟩
        rw [hFF] at P1
        obtain ⟨m, hm⟩ : ∃ m, F.length = m := ⟨_, rfl⟩
        have hm4 : 4 ≤ m := by rw [← hm, ← hFF, hd22_length]; omega
        have hm5 : m ≤ 11044 := by
          have h9 := obsB_length (l.map Xo.ob) (fun x hx => (hfine x hx).good)
          rw [← hm, ← hFF, hd22_length]
          rw [List.length_map, HL.out] at h9
          omega
        rw [hm] at P1
        have HGF := Lib.hid (show getG F = (l.map Xo.ob, 0) by rw [← hFF]; exact getG_hd _ hfine)
        have HRF := Lib.hid (show rawN F = 65535 by rw [← hFF]; exact raw_hd22 _)
        have HF4 := Lib.hid (show 4 ≤ F.length by omega)
        have HM := Lib.hid hm
        have H1 := Lib.hid P1
        obtain ⟨k9, hk9⟩ : ∃ k9, k9 = bit.toNat % (8 * m) := ⟨_, rfl⟩
        have hk9m : k9 < 8 * m := by rw [hk9]; exact Nat.mod_lt _ (by omega)
        have HKK := Lib.hid (show bit % (8 * (m : Int)) = (k9 : Int) by
          rw [hk9, Int.natCast_emod]
          congr 1
          omega)
        clear P1 hq hF hFF hm hfine hk9
        go_enter Try.func5, Try.ntmps5
        go_wp2_with fail
        refine AW.out.mono ?_
        rintro e w1 ⟨rfl, hb1⟩
        have HB := Lib.hid hb1
        clear hb1
        go_wp2_with fail
        refine (SM.out w1 ((HROW.out.below HB.out).more HB.out.size) (fun x hx => (HALL.out x hx).on HB.out)).mono ?_
        rintro e w2 ⟨rfl, rfl⟩
        go_wp2_with fail
        refine (H1.out w2 ((HROW.out.below HB.out).more HB.out.size) (fun x hx => (HALL.out x hx).on HB.out)).mono ?_
        rintro e w3 ⟨A3, c3, rfl, ho3, hb3⟩
        have HO3 := Lib.hid ho3
        have HB2S := Lib.hid (show W.heap.size ≤ w2.heap.size from HB.out.size)
        replace HB := Lib.hid (bthen HB.out hb3)
        clear ho3 hb3
        go_wp2_with fail
        refine (get22_any A3 m c3 F w3 HO3.out.row HO3.out.le HO3.out.cap (by omega)).mono ?_
        rintro e w4 ⟨l4, A4, c4, rfl, hl4, ho4, hx4, hb4⟩
        rw [HGF.out] at hl4 ⊢
        have hn4 : l4.length = n := by have h9 := congrArg List.length hl4; simp only [List.length_map] at h9; rw [HL.out] at h9; exact h9
        rw [hn4] at ho4 ⊢
        have HO4 := Lib.hid ho4
        have HX4 := Lib.hid (oks22 hx4)
        have HL4 := Lib.hid (show l4.map Xo.ob = l.map Xo.ob from hl4)
        replace HB := Lib.hid (bthen HB.out hb4)
        replace HO3 := Lib.hid (HO3.out.below hb4)
        clear ho4 hx4 hl4 hb4 hn4
        go_wp2_with fail
        refine (plain22_any A n c l w4 ((HROW.out.below HB.out).more HB.out.size) (fun x hx => (HALL.out x hx).on HB.out) (by omega)).mono ?_
        rintro e w5 ⟨A5, c5, rfl, ho5, hb5⟩
        have HO5 := Lib.hid ho5
        replace HB := Lib.hid (bthen HB.out hb5)
        replace HO3 := Lib.hid (HO3.out.below hb5)
        replace HO4 := Lib.hid (HO4.out.below hb5)
        replace HX4 := Lib.hid (fun x hx => (HX4.out x hx).on hb5)
        clear ho5 hb5
        go_wp2_with fail
        refine (plain22_any A4 n c4 l4 w5 HO4.out.row HX4.out (by omega)).mono ?_
        rintro e w6 ⟨A6, c6, rfl, ho6, hb6⟩
        rw [HL4.out] at ho6
        have HO6 := Lib.hid ho6
        replace HB := Lib.hid (bthen HB.out hb6)
        replace HO3 := Lib.hid (HO3.out.below hb6)
        replace HO5 := Lib.hid (HO5.out.below hb6)
        clear ho6 hb6
        go_wp2_with fail
        refine (same22_any A5 A6 n c5 c6 (l.map Xo.ob) w6 HO5.out.row HO6.out.row (by omega)).mono ?_
        rintro e w7 ⟨rfl, hb7⟩
        replace HB := Lib.hid (bthen HB.out hb7)
        replace HO3 := Lib.hid (HO3.out.below hb7)
        clear hb7
        obtain ⟨g, rfl, hg1, hg2, hcl, hfr⟩ := HO3.out.open_ (by omega)
        have hkk := HKK.out
        obtain ⟨u, hu⟩ := get_ex F (k := k9 / 8) (by rw [HM.out]; omega)
        have hcu := hcl (k9 / 8) _ (bv_get _ _ u hu)
        have hfu := hfr (k9 / 8)
        have HU := Lib.hid hu
        have HWg := Lib.hid (show W.heap.size ≤ g from Nat.le_trans HB2S.out hg1)
        clear hcl hfr hu
        have hi1 : (k9 : Int) / 8 < (m : Int) := by omega
        have hi0 : 0 ≤ (k9 : Int) / 8 := by omega
        have hi2 : ((k9 : Int) / 8).toNat = k9 / 8 := by omega
        go_wp2_with fail
        obtain ⟨V, hV⟩ : ∃ V, V = UInt8.ofNat (u.toNat ^^^ 2 ^ (k9 % 8)) := ⟨_, rfl⟩
        have hVv : bits .xor .u8 (u.toNat : Int) (2 ^ (k9 % 8) % 256) = (V.toNat : Int) := by
          obtain ⟨x1, x2⟩ := xor_bitX u.toNat (k9 % 8) u.toNat_lt (by omega)
          obtain ⟨p1, p2⟩ := pow_le7X (k9 % 8) (by omega)
          rw [hV, UInt8.toNat_ofNat', Nat.mod_eq_of_lt (show u.toNat ^^^ 2 ^ (k9 % 8) < 2 ^ 8 by omega)]
          have e1 : ((2 : Int) ^ (k9 % 8) % 256) = ((2 ^ (k9 % 8) : Nat) : Int) := by
            rw [show ((2 : Int) ^ (k9 % 8)) = ((2 ^ (k9 % 8) : Nat) : Int) from (Int.natCast_pow 2 (k9 % 8)).symm]
            omega
          rw [e1]
          exact u8_xor_nat _ _ u.toNat_lt (by omega)
        rw [hVv]
        have hown5 := HO3.out.set (j := k9 / 8) (by omega) (.int .u8 (V.toNat : Int))
        rw [← bv_set] at hown5
        have hB5 := HB.out.setCell (p := ⟨g, k9 / 8, none⟩) HWg.out (.int .u8 (V.toNat : Int))
        obtain ⟨w8, hw8⟩ : ∃ w8, w8 = w7.setCell ⟨g, k9 / 8, none⟩ (.int .u8 (V.toNat : Int)) := ⟨_, rfl⟩
        rw [← hw8] at hown5 hB5
        rw [← hw8]
        have hturn := getG_turned F HF4.out HRF.out (k9 / 8) u (k9 % 8) (by omega) HU.out
        rw [← hV] at hturn
        obtain ⟨L', hL'⟩ : ∃ L', L' = F.set (k9 / 8) V := ⟨_, rfl⟩
        rw [← hL'] at hown5 hturn
        replace HB := Lib.hid hB5
        clear hw8 hVv hcu hfu HO3 hkk
        refine (get22_any (some ⟨g, 0, none⟩) m c3 L' w8 hown5.row hown5.le hown5.cap (by omega)).mono ?_
        rintro e w9 ⟨l9, A9, c9, rfl, hl9, ho9, hx9, hb9⟩
        replace HB := Lib.hid (bthen HB.out hb9)
        clear hl9 ho9 hx9 hb9 hB5 hown5
        obtain ⟨er, her⟩ : ∃ er, (getG L').2 = er := ⟨_, rfl⟩
        rw [her] at hturn ⊢
        clear her hL' hV
        rcases hturn with rfl | rfl
        all_goals
          rcases HSC.out with ⟨hT, hp⟩ | ⟨hp, h16, hgd, _, hk100, htl⟩
          · subst hT
            obtain rfl : k = 0 := HK.out.symm
            go_wp2_with fail
            refine (H3.out _ ((HS.out.below HB.out).more HB.out.size)).mono ?_
            rintro e wa ⟨Aa, ca, rfl, hoa, hba⟩
            replace HB := Lib.hid (bthen HB.out hba)
            clear hoa hba
            go_wp2_with fail
            go_ret
            exact ⟨rfl, HB.out⟩
          · subst hp
            have HTL := Lib.hid htl
            clear htl h16 hgd
            go_wp2_with fail
            refine (H3.out _ ((HS.out.below HB.out).more HB.out.size)).mono ?_
            rintro e wa ⟨Aa, ca, rfl, hoa, hba⟩
            have HOA := Lib.hid hoa
            replace HB := Lib.hid (bthen HB.out hba)
            clear hoa hba
            go_wp2_with fail
            refine (told22_any Aa k ca T wa HOA.out.row HOA.out.le HOA.out.cap (by omega)).mono ?_
            rintro e wb ⟨Ab, cb, rfl, hob, hbb⟩
            rw [HTL.out] at hob ⊢
            dsimp only at hob ⊢
            rw [HSL.out] at hob ⊢
            have HOB := Lib.hid hob
            replace HB := Lib.hid (bthen HB.out hbb)
            clear hob hbb
            go_wp2_with fail
            refine (exact_same A1 Ab n1 c1 cb s wb wb.heap.size ((HS.out.below HB.out).more HB.out.size) HOB.out.row (by omega)).mono ?_
            rintro e wc ⟨rfl, hbc⟩
            replace HB := Lib.hid (bthen HB.out hbc)
            clear hbc
            go_wp2_with fail
            go_ret
            exact ⟨rfl, HB.out⟩
  · have hsf : (l.all (fun x => decide (x.n ≤ 1100)) && decide (n ≤ 10)) = false := by simpa using hsm
    rw [hsf] at SM
    clear hsm hsf
    go_enter Try.func5, Try.ntmps5
    go_wp2_with fail
    refine AW.out.mono ?_
    rintro e w1 ⟨rfl, hb1⟩
    have HB := Lib.hid hb1
    clear hb1
    go_wp2_with fail
    refine (SM.out w1 ((HROW.out.below HB.out).more HB.out.size) (fun x hx => (HALL.out x hx).on HB.out)).mono ?_
    rintro e w2 ⟨rfl, rfl⟩
    go_wp2_with fail
    go_ret
    exact ⟨rfl, HB.out⟩
end Go.Proofs.Ytbabkcdhihmomaa

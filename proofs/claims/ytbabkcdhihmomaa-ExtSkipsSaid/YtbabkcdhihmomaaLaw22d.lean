/- The walk of ExtSkips (layer 22). No condition. -/
import Derived.Test.YtbabkcdhihmomaaLaw22c
namespace Go.Proofs.Ytbabkcdhihmomaa
open Go.RowKit
set_option linter.unusedVariables false
set_option maxRecDepth 20000
set_option linter.unusedSimpArgs false

set_option maxHeartbeats 1000000 in
theorem stack22p_all (A : Option Addr) (n c : Nat) (l : List Ent) (w : World) (hr : Row w w.heap.size 4 A n (evs l)) (hf : ∀ x ∈ l, x.fit) (hn : n ≤ maxLen) :
    Calls Try.prog 12 #[.slice A n c] w fun e w' => ∃ A' c', e = .returned (.tuple #[.slice A' (stack22 l).1.length c', .int .i64 (stack22 l).2]) ∧ Own w' w.heap.size 5 1 A' (stack22 l).1.length c' (bv (stack22 l).1) ∧ Below w.heap.size w w' := by
  have hlen := ent_len hr
  unfold maxLen at hn
  by_cases h16 : 16 < n
  · have h16' : (16 : Int) < (n : Int) := by omega
    have hx : Hid (stack22 l = ([], 51)) := Lib.hid (by unfold stack22; rw [if_pos (by omega)])
    clear hr hf
    go_enter Try.func12, Try.ntmps12
    go_wp2_with fail
    go_ret2
    exact ⟨none, 0, by rw [hx.out]; rfl, by rw [hx.out]; exact Own.nil _ _ _ _ _, Below.refl _ _⟩
  · exact stack22p_any A n c l w hr hf (by omega)
/-- an object that is no label stack any more -/
def fixX (x : Xo) : Xo := if x.cls = 1 ∧ x.kind = 1 then { x with kind := 2 } else x
theorem fixX_ok {x : Xo} {w : World} (h : x.ok w) : (fixX x).ok w := by
  unfold fixX
  split
  · exact ⟨h.cls, by show (0 : Int) ≤ 2 ∧ (2 : Int) ≤ 255; omega, h.row, h.le, h.cap⟩
  · exact h
theorem fixX_lab (x : Xo) : (fixX x).ob.lab = false := by
  unfold fixX
  split
  · simp [Ob.lab, Xo.ob]
  · rename_i h
    simp only [Ob.lab, Xo.ob, Bool.and_eq_false_iff, beq_eq_false_iff_ne]
    by_cases h1 : x.cls = 1
    · exact .inr fun h2 => h ⟨h1, h2⟩
    · exact .inl h1
theorem find_skip (a b : List Ob) (y : Ob) (hy : y.lab = true) (ha : ∀ x ∈ a, x.lab = false) : (a ++ [y] ++ b).find? Ob.lab = some y := by
  rw [List.append_assoc, List.find?_append, List.find?_eq_none.2 (fun x hx => by simp [ha x hx])]
  simp [hy]
set_option maxRecDepth 100000 in
set_option maxHeartbeats 8000000 in
theorem walk_ExtSkips (W : World) (r : Xs) (hr : r.ok W) (A1 : Option Addr) (n1 c1 : Nat) (s : List Ent) (hs : Row W W.heap.size 4 A1 n1 (evs s)) (hsc : n1 ≤ c1) (hscm : c1 ≤ maxLen) (hwf : ∀ x ∈ s, x.wf) (r2 : Xs) (hr2 : r2.ok W) :
    Calls Try.prog 6 #[r.v, .slice A1 n1 c1, r2.v] W fun e w' => e = .returned (.bool true) ∧ Below W.heap.size W w' := by
  obtain ⟨A, n, c, l⟩ := r
  obtain ⟨AB, nB, cB, lB⟩ := r2
  have hrow := hr.row
  have hle := hr.le
  have hcap := hr.cap
  have hall := hr.all
  have hrow2 := hr2.row
  have hle2 := hr2.le
  have hcap2 := hr2.cap
  have hall2 := hr2.all
  dsimp only at hrow hle hcap hall hrow2 hle2 hcap2 hall2
  show Calls Try.prog 6 #[.slice A n c, .slice A1 n1 c1, .slice AB nB cB] W fun e w' => e = .returned (.bool true) ∧ Below W.heap.size W w'
  have hlen : l.length = n := xo_len hrow
  have hlen2 : lB.length = nB := xo_len hrow2
  have hslen : s.length = n1 := ent_len hs
  have AW := Lib.hid (awake22 W)
  have HROW := Lib.hid hrow
  have HROW2 := Lib.hid hrow2
  have HS := Lib.hid hs
  have HALL := Lib.hid hall
  have HALL2 := Lib.hid hall2
  have HF := Lib.hid (fun x hx => (hwf x hx).fit)
  have HL := Lib.hid hlen
  have HL2 := Lib.hid hlen2
  have HSL := Lib.hid hslen
  have hn1 : n1 ≤ maxLen := by omega
  have SM := Lib.hid (fun (w : World) (h : Row w w.heap.size 3 A n (xos l)) (h2 : ∀ x ∈ l, x.ok w) => small22_any A n c l w h h2 (by omega))
  have SM2 := Lib.hid (fun (w : World) (h : Row w w.heap.size 3 AB nB (xos lB)) (h2 : ∀ x ∈ lB, x.ok w) => small22_any AB nB cB lB w h h2 (by omega))
  have P3 := fun (w : World) (h : Row w w.heap.size 4 A1 n1 (evs s)) => stack22p_all A1 n1 c1 s w h HF.out hn1
  have SC := stack_cases s HF.out
  obtain ⟨T, hT⟩ : ∃ T, (stack22 s).1 = T := ⟨_, rfl⟩
  obtain ⟨p, hp⟩ : ∃ p, (stack22 s).2 = p := ⟨_, rfl⟩
  obtain ⟨k, hk⟩ : ∃ k, T.length = k := ⟨_, rfl⟩
  rw [hT, hp] at P3 SC
  rw [hk] at P3 SC
  have H3 := Lib.hid P3
  have HSC := Lib.hid SC
  have HK := Lib.hid hk
  obtain ⟨q1, hq1⟩ : ∃ q, (l.all (fun x => decide (x.n ≤ 1100)) && decide (n ≤ 10)) = q := ⟨_, rfl⟩
  obtain ⟨q2, hq2⟩ : ∃ q, (lB.all (fun x => decide (x.n ≤ 1100)) && decide (nB ≤ 10)) = q := ⟨_, rfl⟩
  have HQ1 := Lib.hid hq1
  have HQ2 := Lib.hid hq2
  rw [hq1] at SM
  rw [hq2] at SM2
  clear P3 hT hp hk SC hr hr2 hrow hrow2 hcap hcap2 hall hall2 hs hwf hlen hlen2 hslen hscm hq1 hq2
  go_enter Try.func6, Try.ntmps6
  go_wp2_with fail
  refine AW.out.mono ?_
  rintro e w1 ⟨rfl, hb1⟩
  have HB := Lib.hid hb1
  clear hb1
  go_wp2_with fail
  refine (SM.out w1 ((HROW.out.below HB.out).more HB.out.size) (fun x hx => (HALL.out x hx).on HB.out)).mono ?_
  rintro e w2 ⟨rfl, rfl⟩
  go_wp2_with fail
  refine (SM2.out w2 ((HROW2.out.below HB.out).more HB.out.size) (fun x hx => (HALL2.out x hx).on HB.out)).mono ?_
  rintro e w3 ⟨rfl, rfl⟩
  go_wp2_with fail
  refine (H3.out w3 ((HS.out.below HB.out).more HB.out.size)).mono ?_
  rintro e w4 ⟨A4, c4, rfl, ho4, hb4⟩
  have HO4 := Lib.hid ho4
  replace HB := Lib.hid (bthen HB.out hb4)
  clear ho4 hb4
  cases q1
  · go_wp2_with fail
    go_ret
    exact ⟨rfl, HB.out⟩
  cases q2
  · go_wp2_with fail
    go_ret
    exact ⟨rfl, HB.out⟩
  rcases HSC.out with ⟨_, hp⟩ | ⟨hp, h16, hgd, hTe, hk100, htl⟩
  · go_wp2_with fail
    go_ret
    exact ⟨rfl, HB.out⟩
  subst hp
  have hn10 : n ≤ 10 := by have h9 := HQ1.out; rw [Bool.and_eq_true] at h9; simpa using h9.2
  have hnB10 : nB ≤ 10 := by have h9 := HQ2.out; rw [Bool.and_eq_true] at h9; simpa using h9.2
  have hSl : (s.flatMap packL).length ≤ 64 := by rw [packs_len s hgd]; omega
  have hfine1 : (⟨1, 1, s.flatMap packL⟩ : Ob).fine := ⟨by unfold Ob.good; simp only [packs_len s hgd]; simp; omega, by simp, by simp⟩
  obtain ⟨S, hS⟩ : ∃ S, s.flatMap packL = S := ⟨_, rfl⟩
  have HSS := Lib.hid hS
  rw [hS] at hTe hfine1
  have HG := Lib.hid (show getG T = ([⟨1, 1, S⟩], 0) by rw [hTe]; exact getG_hd _ (fun x hx => by obtain rfl := List.mem_singleton.1 hx; exact hfine1))
  have HGD := Lib.hid hgd
  have HFN := Lib.hid hfine1
  have h16n : n1 ≤ 16 := by have := HSL.out; omega
  clear htl hTe hgd hfine1 h16 hSl hS
  go_wp2_with fail
  refine (get22_any A4 k c4 T w4 HO4.out.row HO4.out.le HO4.out.cap (by omega)).mono ?_
  rintro e w5 ⟨l5, A5, c5, rfl, hl5, ho5, hx5, hb5⟩
  rw [HG.out] at hl5 ⊢
  have hn5 : l5.length = 1 := by have h9 := congrArg List.length hl5; simpa using h9
  rw [hn5] at ho5 ⊢
  have HX5 := Lib.hid (oks22 hx5)
  have HL5 := Lib.hid (show l5.map Xo.ob = [⟨1, 1, S⟩] from hl5)
  replace HB := Lib.hid (bthen HB.out hb5)
  have HR5 := Lib.hid ho5.row
  obtain ⟨N, hN⟩ : ∃ N, w5.heap.size = N := ⟨_, rfl⟩
  rw [hN] at HR5
  have HN := Lib.hid hN
  have hWN : W.heap.size ≤ N := by rw [← hN]; exact HB.out.size
  clear hl5 ho5 hx5 hb5 hn5 hN HO4
  go_wp2_with fail
  go_loopw [14, 15] (fun v i wr => ∃ (j : Nat) (A2 : Option Addr) (c2 : Nat), j ≤ n ∧ i = .int .i64 (j : Nat) ∧ v = .slice A2 j c2 ∧ Own wr N 51 3 A2 j c2 (xos ((l.take j).map fixX)) ∧ Below N w5 wr) (fun _ i _ => n - (intOf i).toNat)
  case atStart => exact ⟨0, none, 0, by omega, rfl, rfl, Own.nil _ _ _ _ _, Below.refl _ _⟩
  case round =>
    obtain ⟨j, A2, c2, hj, rfl, rfl, hown, hbe⟩ := hrel
    have HOB := Lib.hid hown
    have HBE := Lib.hid hbe
    have HBW := Lib.hid (show Below W.heap.size W wr from HB.out.trans (hbe.mono hWN))
    have hNr : N ≤ wr.heap.size := by have := hbe.size; have := HN.out; omega
    clear hown hbe
    by_cases hlt : j < n
    · obtain ⟨x, hx⟩ : ∃ x, l[j]? = some x := ⟨_, List.getElem?_eq_getElem (by rw [HL.out]; omega)⟩
      obtain ⟨b, o, hA, hbb, a0, a1, a2⟩ := xo_row (HROW.out.below HBW.out) j x hx
      subst hA
      have hbw : b < wr.heap.size := Nat.lt_of_lt_of_le hbb HBW.out.size
      have hkn : (j : Int) < (n : Int) := by omega
      have HTK := Lib.hid (show (l.take (j + 1)).map fixX = (l.take j).map fixX ++ [fixX x] by rw [take_snoc l j x hx, List.map_append]; rfl)
      obtain ⟨cl, kd, XA, xn, xc, bd⟩ := x
      dsimp only at a0 a1 a2
      clear hx hbb
      by_cases h1 : cl = 1
      · by_cases h2 : kd = 1
        · subst h1 h2
          have hfx : fixX ⟨1, 1, XA, xn, xc, bd⟩ = ⟨1, 2, XA, xn, xc, bd⟩ := rfl
          rw [hfx] at HTK
          clear hfx
          go_wp2_with (at_builtin; refine wpList_append_Own _ rfl _ _ 22 rfl N 51 _ 3 32 Try.underlying22 infoXo rfl (by decide) A2 j c2 _ rfl ((HOB.out.alloc _).alloc _) _ _ 1 1 (Xo.cells ⟨1, 2, XA, xn, xc, bd⟩) rfl (by have h9 := row_newX (wr.alloc (.cells #[.int .u8 1, .int .u8 2, .slice XA xn xc] 51)) ⟨1, 2, XA, xn, xc, bd⟩; rw [World.size_alloc] at h9; exact h9) (by simp [Xo.cells, Value.oneCell']) (by simp only [maxLen]; omega) (by omega) (by simp; omega) ?_; intro A7 c7 w7 hown7 hg7 _)
          go_roundw
          case rel =>
            refine ⟨j + 1, A7, c7, by omega, by simp, rfl, ?_, ?_⟩
            · rw [HTK.out, xos_append]
              exact hown7
            · exact bgrown' ((HBE.out.alloc hNr _).alloc (by simp; omega) _) hg7 (by simp; omega) (fun r hr => (HOB.out.lt r hr).1)
          case measure => simp [intOf]; omega
        · have g2 : (kd == 1) = false := by simpa using h2
          subst h1
          have hfx : fixX ⟨1, kd, XA, xn, xc, bd⟩ = ⟨1, kd, XA, xn, xc, bd⟩ := if_neg (fun h => h2 h.2)
          rw [hfx] at HTK
          clear hfx h2
          go_wp2_with (at_builtin; refine wpList_append_Own _ rfl _ _ 22 rfl N 51 _ 3 32 Try.underlying22 infoXo rfl (by decide) A2 j c2 _ rfl ((HOB.out.alloc _).alloc _) _ _ 1 1 (Xo.cells ⟨1, kd, XA, xn, xc, bd⟩) rfl (by have h9 := row_newX (wr.alloc (.cells #[.int .u8 1, .int .u8 kd, .slice XA xn xc] 51)) ⟨1, kd, XA, xn, xc, bd⟩; rw [World.size_alloc] at h9; exact h9) (by simp [Xo.cells, Value.oneCell']) (by simp only [maxLen]; omega) (by omega) (by simp; omega) ?_; intro A7 c7 w7 hown7 hg7 _)
          go_roundw
          case rel =>
            refine ⟨j + 1, A7, c7, by omega, by simp, rfl, ?_, ?_⟩
            · rw [HTK.out, xos_append]
              exact hown7
            · exact bgrown' ((HBE.out.alloc hNr _).alloc (by simp; omega) _) hg7 (by simp; omega) (fun r hr => (HOB.out.lt r hr).1)
          case measure => simp [intOf]; omega
      · have g1 : (cl == 1) = false := by simpa using h1
        have hfx : fixX ⟨cl, kd, XA, xn, xc, bd⟩ = ⟨cl, kd, XA, xn, xc, bd⟩ := if_neg (fun h => h1 h.1)
        rw [hfx] at HTK
        clear hfx h1
        go_wp2_with (at_builtin; refine wpList_append_Own _ rfl _ _ 22 rfl N 51 _ 3 32 Try.underlying22 infoXo rfl (by decide) A2 j c2 _ rfl ((HOB.out.alloc _).alloc _) _ _ 1 1 (Xo.cells ⟨cl, kd, XA, xn, xc, bd⟩) rfl (by have h9 := row_newX (wr.alloc (.cells #[.int .u8 cl, .int .u8 kd, .slice XA xn xc] 51)) ⟨cl, kd, XA, xn, xc, bd⟩; rw [World.size_alloc] at h9; exact h9) (by simp [Xo.cells, Value.oneCell']) (by simp only [maxLen]; omega) (by omega) (by simp; omega) ?_; intro A7 c7 w7 hown7 hg7 _)
        go_roundw
        case rel =>
          refine ⟨j + 1, A7, c7, by omega, by simp, rfl, ?_, ?_⟩
          · rw [HTK.out, xos_append]
            exact hown7
          · exact bgrown' ((HBE.out.alloc hNr _).alloc (by simp; omega) _) hg7 (by simp; omega) (fun r hr => (HOB.out.lt r hr).1)
        case measure => simp [intOf]; omega
    · have hkn : ¬ (j : Int) < (n : Int) := by omega
      obtain rfl : j = n := by omega
      have hta : (l.take j).map fixX = l.map fixX := by rw [← HL.out, List.take_length]
      rw [hta] at HOB
      clear hta
      have hone : ∀ (L : List Xo), ∀ u ∈ xos L, u.oneCell' = true := fun L u hu => by
        unfold xos at hu
        obtain ⟨x, _, hx⟩ := List.mem_flatMap.1 hu
        exact oneXo x u hx
      have HONE := Lib.hid hone
      clear hone
      go_wp2_with (first
        | (at_builtin; refine wpList_append_Own _ rfl _ _ 22 rfl N 51 _ 3 32 Try.underlying22 infoXo rfl (by decide) A2 j c2 _ rfl HOB.out _ A5 1 c5 (xos l5) rfl (HR5.out.below HBE.out) (HONE.out l5) (by simp only [maxLen]; omega) (by omega) hNr ?_; intro A7 c7 w7 hown7 hg7 _; have HO7 := Lib.hid hown7; have HB7 := Lib.hid (show Below N w5 w7 from bgrown' HBE.out hg7 hNr (fun r hr => (HOB.out.lt r hr).1)); clear hown7 hg7)
        | (at_builtin; refine wpList_append_Own _ rfl _ _ 22 rfl N 51 _ 3 32 Try.underlying22 infoXo rfl (by decide) A7 (j + 1) c7 _ rfl HO7.out _ AB nB cB (xos lB) rfl (HROW2.out.below (HB.out.trans (HB7.out.mono hWN))) (HONE.out lB) (by simp only [maxLen]; omega) (by omega) (by have h8 := HB7.out.size; have h9 := HN.out; omega) ?_; intro A8 c8 w8 hown8 hg8 _; have HO8 := Lib.hid hown8; have HB8 := Lib.hid (show Below N w5 w8 from bgrown' HB7.out hg8 (by have h8 := HB7.out.size; have h9 := HN.out; omega) (fun r hr => (HO7.out.lt r hr).1)); clear hown8 hg8))
      have hok8 : ∀ x ∈ l.map fixX ++ l5 ++ lB, x.ok w8 := fun x hx => by
        have hb8 : Below w5.heap.size w5 w8 := by rw [HN.out]; exact HB8.out
        rcases List.mem_append.1 hx with hx | hx
        · rcases List.mem_append.1 hx with hx | hx
          · obtain ⟨y, hy, rfl⟩ := List.mem_map.1 hx
            exact fixX_ok ((HALL.out y hy).on (bthen HB.out hb8))
          · exact (HX5.out x hx).on hb8
        · exact (HALL2.out x hx).on (bthen HB.out hb8)
      have hrow8 : Row w8 w8.heap.size 3 A8 (j + 1 + nB) (xos (l.map fixX ++ l5 ++ lB)) := by
        rw [xos_append, xos_append]
        exact HO8.out.row
      have hfd : ((l.map fixX ++ l5 ++ lB).map Xo.ob).find? Ob.lab = some ⟨1, 1, S⟩ := by
        rw [List.map_append, List.map_append, HL5.out]
        refine find_skip _ _ _ rfl (fun y hy => ?_)
        obtain ⟨z, hz, rfl⟩ := List.mem_map.1 hy
        obtain ⟨x, _, rfl⟩ := List.mem_map.1 hz
        exact fixX_lab x
      have EC := ext_cases (l.map fixX ++ l5 ++ lB) w8 hok8
      have P8 := put22_any A8 (j + 1 + nB) c8 (l.map fixX ++ l5 ++ lB) w8 hrow8 hok8 (by omega)
      replace HB := Lib.hid (HB.out.trans (HB8.out.mono hWN))
      rcases EC with ⟨hq, hF⟩ | ⟨hq, hfine, hF⟩
      · rw [hq, hF] at P8
        have HP := Lib.hid P8
        clear P8 hq hF hfd hrow8 hok8
        refine HP.out.mono ?_
        rintro e w9 ⟨A9, c9, rfl, ho9, hb9⟩
        replace HB := Lib.hid (bthen HB.out hb9)
        clear ho9 hb9
        go_wp2_with fail
        go_ret
        exact ⟨rfl, HB.out⟩
      · have hSS : (⟨1, 1, S⟩ : Ob) = ⟨1, 1, s.flatMap packL⟩ := by rw [HSS.out]
        have hT9 := told_of _ hfine s HF.out HGD.out (by rw [HSL.out]; exact h16n) (by rw [hfd, hSS])
        have hlen9 := obsB_length ((l.map fixX ++ l5 ++ lB).map Xo.ob) (fun x hx => (hfine x hx).good)
        have hl5n : l5.length = 1 := by have h9 := congrArg List.length HL5.out; simpa using h9
        rw [List.length_map, List.length_append, List.length_append, List.length_map, HL.out, HL2.out, hl5n] at hlen9
        rw [hq, hF] at P8
        obtain ⟨F, hFF⟩ : ∃ F, hd22 (obsB ((l.map fixX ++ l5 ++ lB).map Xo.ob)) = F := ⟨_, rfl⟩
        rw [hFF] at P8 hT9
        obtain ⟨m, hm⟩ : ∃ m, F.length = m := ⟨_, rfl⟩
        have hm5 : m ≤ 100000 := by
          rw [← hm, ← hFF, hd22_length]
          omega
        rw [hm] at P8
        have HP := Lib.hid P8
        have HT9 := Lib.hid hT9
        clear P8 hq hF hFF hm hfine hT9 hlen9 hl5n hSS hfd hrow8 hok8
        refine HP.out.mono ?_
        rintro e w9 ⟨A9, c9, rfl, ho9, hb9⟩
        have HO9 := Lib.hid ho9
        replace HB := Lib.hid (bthen HB.out hb9)
        clear ho9 hb9
        go_wp2_with fail
        refine (told22_any A9 m c9 F w9 HO9.out.row HO9.out.le HO9.out.cap (by omega)).mono ?_
        rintro e wb ⟨Ab, cb, rfl, hob, hbb⟩
        rw [HT9.out] at hob ⊢
        dsimp only at hob ⊢
        rw [HSL.out] at hob ⊢
        have HOB := Lib.hid hob
        replace HB := Lib.hid (bthen HB.out hbb)
        clear hob hbb
        go_wp2_with fail
        refine (exact_same Ab A1 n1 cb c1 s wb wb.heap.size HOB.out.row ((HS.out.below HB.out).more HB.out.size) (by omega)).mono ?_
        rintro e wc ⟨rfl, hbc⟩
        replace HB := Lib.hid (bthen HB.out hbc)
        clear hbc
        go_wp2_with fail
        go_ret
        exact ⟨rfl, HB.out⟩
end Go.Proofs.Ytbabkcdhihmomaa

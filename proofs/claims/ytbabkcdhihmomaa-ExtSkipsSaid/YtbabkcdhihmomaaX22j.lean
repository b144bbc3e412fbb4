/- What the reference's Told (layer 22) computes. No condition but sizes. -/
import Derived.Test.YtbabkcdhihmomaaX22i
import Derived.Test.YtbabkcdhihmomaaX22g
namespace Go.Proofs.Ytbabkcdhihmomaa
open Go.RowKit
set_option linter.unusedVariables false
set_option maxRecDepth 20000
set_option linter.unusedSimpArgs false

theorem find_first (l : List Ob) : ∀ (j : Nat) (x : Ob), l[j]? = some x → x.lab = true → (∀ (k : Nat) (y : Ob), k < j → l[k]? = some y → y.lab = false) → l.find? Ob.lab = some x := by
  induction l with
  | nil => intro j x h; simp at h
  | cons a l ih =>
    intro j x hx hl hb
    cases j with
    | zero =>
      simp at hx
      subst hx
      simp [hl]
    | succ j =>
      have ha := hb 0 a (by omega) rfl
      rw [List.find?_cons, ha]
      exact ih j x (by simpa using hx) hl (fun k y hk hy => hb (k + 1) y (by omega) (by simpa using hy))
theorem find_none (l : List Ob) (h : ∀ (k : Nat) (y : Ob), k < l.length → l[k]? = some y → y.lab = false) : l.find? Ob.lab = none := by
  rw [List.find?_eq_none]
  intro x hx
  obtain ⟨k, hk, he⟩ := List.mem_iff_getElem.1 hx
  have := h k x hk (by rw [List.getElem?_eq_getElem hk, he])
  simp [this]

set_option maxRecDepth 100000 in
set_option maxHeartbeats 4000000 in
theorem rtold22_any (zs : List UInt8) (w : World) (hmax : zs.length ≤ 1000000000) :
    Calls Try.prog 17 #[str zs] w fun e w' => ∃ (A' : Option Addr) (c' : Nat), e = .returned (.tuple #[.slice A' (toldG zs).1.length c', .int .i64 (toldG zs).2]) ∧ Own w' w.heap.size 54 4 A' (toldG zs).1.length c' (evs (toldG zs).1) ∧ Below w.heap.size w w' := by
  have HG := Lib.hid (rget22_any zs w hmax)
  have HLN := Lib.hid (getG_len zs)
  have HMO := Lib.hid (getG_mod zs)
  by_cases h0 : (getG zs).2 = 0
  · rw [h0] at HG
    obtain ⟨L, hL⟩ : ∃ L, (getG zs).1 = L := ⟨_, rfl⟩
    have HT : Hid (toldG zs = match L.find? Ob.lab with | none => ([], 31) | some x => if 64 < x.body.length then ([], 51) else (outs x.body (x.body.length / 4), 0)) := Lib.hid (by unfold toldG; rw [if_neg (fun h => h h0), hL]; cases L.find? Ob.lab <;> rfl)
    rw [hL] at HG HLN HMO
    obtain ⟨n, hn⟩ : ∃ n, L.length = n := ⟨_, rfl⟩
    have hnm : n ≤ 1000000000 := by have := HLN.out; omega
    have HNN := Lib.hid hn
    rw [hn] at HG
    clear h0 hL hn
    go_enter Try.func17, Try.ntmps17
    go_wp2_with fail
    refine HG.out.mono ?_
    rintro e w1 ⟨A1, c1, rfl, hown, hb⟩
    have HR := Lib.hid hown.row
    have HB := Lib.hid hb
    clear hown hb
    go_wp2_with fail
    go_loopw [6] (fun i wr => ∃ j : Nat, j ≤ n ∧ i = .int .i64 (j : Nat) ∧ (∀ (k : Nat) (y : Ob), k < j → L[k]? = some y → y.lab = false) ∧ Below w1.heap.size w1 wr) (fun i _ => n - (intOf i).toNat)
    case atStart => exact ⟨0, by omega, rfl, fun k y h => by omega, Below.refl _ _⟩
    case round =>
      obtain ⟨j, hj, rfl, hbf, hBe⟩ := hrel
      have HBF := Lib.hid hbf
      have HBE := Lib.hid hBe
      clear hbf hBe
      by_cases hlt : j < n
      · obtain ⟨x, hx⟩ : ∃ x, L[j]? = some x := ⟨_, List.getElem?_eq_getElem (by rw [HNN.out]; omega)⟩
        obtain ⟨b, o, rfl, hbb, a0, a1, a2⟩ := ob_row (HR.out.below HBE.out) j x hx
        have hbw : b < wr.heap.size := Nat.lt_of_lt_of_le hbb HBE.out.size
        have hxm := HMO.out x (List.mem_of_getElem? hx)
        have hxm2 := hxm.2
        have HXM := Lib.hid hxm.1
        have HX := Lib.hid hx
        have hji : (j : Int) < (n : Int) := by omega
        obtain ⟨cl, kd, bd⟩ := x
        dsimp only at a0 a1 a2 hxm2
        clear hx hxm
        by_cases h1 : cl = 1
        · subst h1
          have g1 : ((1 : Int) != 1) = false := by decide
          by_cases h2 : kd = 1
          · subst h2
            have HF := Lib.hid (find_first L j ⟨1, 1, bd⟩ HX.out rfl HBF.out)
            by_cases h64 : 64 < bd.length
            · have h64i : (64 : Int) < (bd.length : Int) := by omega
              go_wp2_with fail
              go_ret2
              refine ⟨none, 0, ?_, ?_, bthen HB.out HBE.out⟩
              · rw [HT.out, HF.out]; simp only [if_pos h64]; rfl
              · rw [HT.out, HF.out]; simp only [if_pos h64]; exact Own.nil _ _ _ _ _
            · have h64i : ¬ (64 : Int) < (bd.length : Int) := by omega
              obtain ⟨g, hg⟩ : ∃ g, wr.heap.size = g := ⟨_, rfl⟩
              have HGG := Lib.hid hg
              have hwr : w1.heap.size ≤ g := by rw [← hg]; exact HBE.out.size
              rw [hg] at hbw
              obtain ⟨w5, hw5⟩ : ∃ q, q = wr := ⟨_, rfl⟩
              subst hw5
              clear hg
              go_wp2_with fail
              go_loopw [7, 8] (fun v k ws => ∃ (q : Nat) (A2 : Option Addr) (c2 : Nat), 4 * q ≤ bd.length ∧ k = .int .i64 ((4 * q : Nat) : Int) ∧ v = .slice A2 q c2 ∧ Own ws g 54 4 A2 q c2 (evs (outs bd q)) ∧ Below g w5 ws) (fun _ k _ => bd.length - (intOf k).toNat)
              case atStart => exact ⟨0, none, 0, by omega, rfl, rfl, Own.nil _ _ _ _ _, Below.refl _ _⟩
              case round =>
                obtain ⟨q, A2, c2, hq, rfl, rfl, hown2, hb2⟩ := hrel
                have HO2 := Lib.hid hown2
                have HB2 := Lib.hid hb2
                have c0 := (hb2.cell (p := ⟨b, o + j * 3, none⟩) hbw).trans a0
                have c1' := (hb2.cell (p := ⟨b, o + j * 3 + 1, none⟩) hbw).trans a1
                have c2' := (hb2.cell (p := ⟨b, o + j * 3 + 2, none⟩) hbw).trans a2
                have hgs : g ≤ wr.heap.size := by have := hb2.size; have := HGG.out; omega
                clear hown2 hb2
                by_cases hql : 4 * q < bd.length
                · have hqi : (((4 * q : Nat) : Int)) < (bd.length : Int) := by omega
                  have hqi2 : ((4 * q : Nat) : Int) ≤ (bd.length : Int) := by omega
                  have hxm1 := HXM.out
                  try dsimp only at hxm1
                  have hq4 : 4 * q + 4 ≤ bd.length := by omega
                  obtain ⟨K, hK⟩ : ∃ K, 4 * q = K := ⟨_, rfl⟩
                  have UP := runpack_any (bd.drop (4 * q))
                  have HN : Hid (unpN (bd.drop (4 * q)) = 0) := Lib.hid (by unfold unpN; rw [if_neg (by rw [List.length_drop]; omega)])
                  obtain ⟨E, hEE⟩ : ∃ E, entAt bd q = E := ⟨_, rfl⟩
                  rw [HN.out, show unpE (bd.drop (4 * q)) = E from hEE] at UP
                  have HEE := Lib.hid hEE
                  have HSD := Lib.hid (str_drop bd (4 * q))
                  rw [hK] at HSD UP hqi hqi2 ⊢
                  obtain ⟨lb, cl, bt, tt⟩ := E
                  dsimp only at UP
                  have HUP := Lib.hid UP
                  have HK := Lib.hid hK
                  clear UP hEE hxm1 hK
                  go_wp2_with fail
                  rw [HSD.out]
                  refine (HUP.out _ (by rw [List.length_drop]; omega)).mono ?_
                  rintro e w6 ⟨rfl, hb6⟩
                  have ho6 := HO2.out.below hb6
                  have HO6 := Lib.hid ho6
                  have HB6 := Lib.hid (HB2.out.trans (hb6.mono hgs))
                  have hg6 : g ≤ w6.heap.size := Nat.le_trans hgs hb6.size
                  clear c0 c1' c2' ho6 hb6
                  go_wp2_with (at_builtin; refine wpList_append_Own _ rfl _ _ 23 rfl g 54 _ 4 16 Try.underlying23 infoEntry rfl (by decide) A2 q c2 _ rfl ((HO6.out.alloc _).alloc _) _ _ 1 1 (Ent.cells ⟨lb, cl, bt, tt⟩) rfl (by have h9 := row_newE (w6.alloc (.cells #[.int .i64 lb, .int .u8 cl, .bool bt, .int .u8 tt] 54)) ⟨lb, cl, bt, tt⟩; rw [World.size_alloc] at h9; exact h9) (by simp [Ent.cells, Value.oneCell']) (by simp only [maxLen]; omega) (by omega) (by simp; omega) ?_; intro A5 c5 w7 hown7 hg7 _)
                  go_roundw
                  case rel =>
                    refine ⟨q + 1, A5, c5, by omega, by rw [← HK.out]; congr 1, rfl, ?_, ?_⟩
                    · rw [outs_succ, evs_append, HEE.out, show evs [(⟨lb, cl, bt, tt⟩ : Ent)] = Ent.cells ⟨lb, cl, bt, tt⟩ by simp [evs]]
                      exact hown7
                    · exact bgrown' (((HB6.out).alloc hg6 _).alloc (by simp; omega) _) hg7 (by simp; omega) (fun r hr => (HO6.out.lt r hr).1)
                  case measure =>
                    have := HK.out
                    simp [intOf]
                    omega
                · have hqi : ¬ (((4 * q : Nat) : Int)) < (bd.length : Int) := by omega
                  have hqe : bd.length / 4 = q := by omega
                  have HQE := Lib.hid hqe
                  clear hqe
                  go_wp2_with fail
                  go_ret2
                  refine ⟨A2, c2, ?_, ?_, bthen HB.out (HBE.out.trans ((HB2.out.mono hwr)))⟩
                  · rw [HT.out, HF.out]; simp only [if_neg h64, HQE.out, outs_length]; rfl
                  · rw [HT.out, HF.out]; simp only [if_neg h64, HQE.out, outs_length]; exact HO2.out.mono (by have := HB.out.size; omega)
          · have g2 : (kd != 1) = true := by simpa using h2
            go_wp2_with fail
            go_roundw
            case rel => exact ⟨j + 1, by omega, by simp, fun k y hk hy => by
              rcases Nat.lt_or_ge k j with h | h
              · exact HBF.out k y h hy
              · obtain rfl : k = j := by omega
                rw [HX.out] at hy
                injection hy with hy
                subst hy
                simp [Ob.lab, h2], HBE.out⟩
            case measure => simp [intOf]; omega
        · have g1 : (cl != 1) = true := by simpa using h1
          go_wp2_with fail
          go_roundw
          case rel => exact ⟨j + 1, by omega, by simp, fun k y hk hy => by
            rcases Nat.lt_or_ge k j with h | h
            · exact HBF.out k y h hy
            · obtain rfl : k = j := by omega
              rw [HX.out] at hy
              injection hy with hy
              subst hy
              simp [Ob.lab, h1], HBE.out⟩
          case measure => simp [intOf]; omega
      · have hji : ¬ (j : Int) < (n : Int) := by omega
        obtain rfl : j = n := by omega
        have HF := Lib.hid (find_none L (fun k y hk hy => HBF.out k y (by rw [← HNN.out]; exact hk) hy))
        go_wp2_with fail
        go_ret2
        refine ⟨none, 0, ?_, ?_, bthen HB.out HBE.out⟩
        · rw [HT.out, HF.out]; rfl
        · rw [HT.out, HF.out]; exact Own.nil _ _ _ _ _
  · have HT : Hid (toldG zs = ([], (getG zs).2)) := Lib.hid (by unfold toldG; rw [if_pos h0])
    obtain ⟨q, hq⟩ : ∃ q, (getG zs).2 = q := ⟨_, rfl⟩
    rw [hq] at HG HT h0
    have hb' : (q != 0) = true := by simpa using h0
    clear hq h0
    go_enter Try.func17, Try.ntmps17
    go_wp2_with fail
    refine HG.out.mono ?_
    rintro e w1 ⟨A1, c1, rfl, _, hb⟩
    have HB := Lib.hid hb
    clear hb
    go_wp2_with fail
    go_ret2
    exact ⟨none, 0, by rw [HT.out]; rfl, by rw [HT.out]; exact Own.nil _ _ _ _ _, HB.out⟩
end Go.Proofs.Ytbabkcdhihmomaa

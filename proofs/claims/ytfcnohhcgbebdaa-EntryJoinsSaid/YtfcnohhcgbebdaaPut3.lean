/- What entry.Put and the reference's Put compute. No condition but sizes. -/
import Derived.Test.YtfcnohhcgbebdaaStackF
namespace Go.Proofs.Ytfcnohhcgbebdaa
open Go.RowKit
set_option linter.unusedVariables false
set_option linter.unusedSimpArgs false

/-- an entry with its bottom bit as told -/
def Ent.at (x : Ent) (b : Bool) : Ent := ⟨x.label, x.cls, b, x.ttl⟩
theorem Ent.fit.at {x : Ent} (h : x.fit) (b : Bool) : (x.at b).fit := ⟨h.l0, h.l1, h.c0, h.c1, h.t0, h.t1⟩
theorem good_at (x : Ent) (b : Bool) : (x.at b).good ↔ x.good := Iff.rfl
/-- the bytes of entry i of the stack -/
def pieceAt (l : List Ent) (i : Nat) : List UInt8 := match l[i]? with | some x => packL (x.at (decide (i + 1 = l.length))) | none => []
/-- the bytes of the first k entries of the stack -/
def piecesTo (l : List Ent) (k : Nat) : List UInt8 := ((List.range k).map (pieceAt l)).flatten
theorem piecesTo_succ (l : List Ent) (k : Nat) : piecesTo l (k + 1) = piecesTo l k ++ pieceAt l k := by simp [piecesTo, List.range_succ]
theorem packL_len (x : Ent) : (packL x).length ≤ 4 := by
  unfold packL
  split
  · simp [toBe_length]
  · simp
theorem pieceAt_len (l : List Ent) (k : Nat) : (pieceAt l k).length ≤ 4 := by
  unfold pieceAt
  split
  · exact packL_len _
  · simp
theorem piecesTo_len (l : List Ent) (k : Nat) : (piecesTo l k).length ≤ 4 * k := by
  induction k with
  | zero => simp [piecesTo]
  | succ k ih =>
    rw [piecesTo_succ, List.length_append]
    have := pieceAt_len l k
    omega
def goodAll (l : List Ent) : Prop := ∀ x ∈ l, x.good
instance (l : List Ent) : Decidable (goodAll l) := inferInstanceAs (Decidable (∀ x ∈ l, x.good))
def putL (l : List Ent) : List UInt8 × Int := if 16 < l.length then ([], 51) else if goodAll l then (piecesTo l l.length, 0) else ([], 1)
theorem putL_many {l : List Ent} (h : 16 < l.length) : putL l = ([], 51) := by unfold putL; rw [if_pos h]
theorem putL_bad {l : List Ent} (h : ¬ 16 < l.length) {k : Nat} {x : Ent} (hx : l[k]? = some x) (hb : ¬ x.good) : putL l = ([], 1) := by
  unfold putL
  rw [if_neg h, if_neg (fun hg => hb (hg x (List.mem_of_getElem? hx)))]
theorem putL_yes {l : List Ent} (h : ¬ 16 < l.length) (hg : goodAll l) : putL l = (piecesTo l l.length, 0) := by
  unfold putL
  rw [if_neg h, if_pos hg]
theorem goodAll_of {l : List Ent} (h : ∀ i x, i < l.length → l[i]? = some x → x.good) : goodAll l := by
  intro x hx
  obtain ⟨i, hi⟩ := List.getElem?_of_mem hx
  exact h i x (List.getElem?_eq_some_iff.1 hi).1 hi

set_option maxHeartbeats 4000000 in
theorem put_any (A : Option Addr) (n c : Nat) (l : List Ent) (w : World) (hr : Row w w.heap.size 4 A n (evs l)) (hf : ∀ x ∈ l, x.fit) (hn : n ≤ 1099511627776) :
    Calls Try.prog 16 #[.slice A n c] w fun e w' => ∃ A' c', e = .returned (.tuple #[.slice A' (putL l).1.length c', .int .i64 (putL l).2]) ∧ Own w' w.heap.size 5 1 A' (putL l).1.length c' (bv (putL l).1) ∧ Below w.heap.size w w' := by
  have hl := ent_len hr
  by_cases h16 : 16 < n
  · have h16i : (16 : Int) < (n : Int) := by omega
    rw [putL_many (by omega)]
    go_enter Try.func16, Try.ntmps16
    go_wp2
    go_ret2
    exact ⟨none, 0, rfl, Own.nil _ _ _ _ _, Below.refl _ _⟩
  · have h16i : ¬ (16 : Int) < (n : Int) := by omega
    have HR := Lib.hid hr
    have HF := Lib.hid hf
    have HL := Lib.hid hl
    have H16 := Lib.hid h16
    clear hr hf hl
    go_enter Try.func16, Try.ntmps16
    go_wp2_with fail
    go_loopw [4, 14] (fun o i wr => ∃ (k : Nat) (A2 : Option Addr) (c2 : Nat), k ≤ n ∧ o = .slice A2 (piecesTo l k).length c2 ∧ i = .int .i64 (k : Nat) ∧ (∀ j x, j < k → l[j]? = some x → x.good) ∧ Own wr w.heap.size 5 1 A2 (piecesTo l k).length c2 (bv (piecesTo l k)) ∧ Below w.heap.size w wr) (fun _ i _ => n - (intOf i).toNat)
    case atStart => exact ⟨0, none, 0, by omega, rfl, rfl, fun j x h => by omega, Own.nil _ _ _ _ _, Below.refl _ _⟩
    case round =>
      obtain ⟨k, A2, c2, hk, rfl, rfl, hgood, hown, hb⟩ := hrel
      by_cases hlt : k < n
      · obtain ⟨x, hx⟩ : ∃ x, l[k]? = some x := ⟨_, List.getElem?_eq_getElem (by have := HL.out; omega)⟩
        obtain ⟨b, o, rfl, hb1, a0, a1, a2, a3⟩ := ent_row (HR.out.below hb) k x hx
        have hsz := hb.size
        have HB := Lib.hid hb
        have HG := Lib.hid hgood
        have HO := Lib.hid hown
        have HX := Lib.hid hx
        have hlt1 : b < wr.heap.size := by omega
        obtain ⟨bt, hbt⟩ : ∃ bt, decide (k + 1 = n) = bt := ⟨_, rfl⟩
        have hbti : (((k : Int) == (n : Int) - 1) : Bool) = bt := by
          rw [← hbt]
          by_cases h : k + 1 = n
          · rw [decide_eq_true h]; simp; omega
          · rw [decide_eq_false h]; simp; omega
        have hpc : pieceAt l k = packL (x.at bt) := by unfold pieceAt; rw [hx, HL.out, hbt]
        have hfit := (HF.out x (List.mem_of_getElem? hx)).at bt
        have HP := Lib.hid hpc
        have HT := Lib.hid hfit
        have hplen := piecesTo_len l k
        have hpl4 := packL_len (x.at bt)
        clear hx hb hgood hown hpc hfit hbt
        go_wp2_with fail
        refine (pack_any (x.at bt) HT.out _).mono ?_
        rintro e w3 ⟨⟨A3, n3, c3, l3⟩, rfl, ho3, hl3, hb3⟩
        simp only at hl3
        subst hl3
        have hn3 := ho3.len
        simp only [Bs.v] at hn3 ⊢
        subst hn3
        have HW3 := Lib.hid (HB.out.trans ((ballocd hb3).mono hsz))
        have HO3 := Lib.hid ((HO.out.alloc (.cells #[.int .i64 x.label, .int .u8 x.cls, .bool bt, .int .u8 x.ttl] 23)).below hb3)
        have HX3 := Lib.hid ho3
        clear a0 a1 a2 a3 hb3 ho3 HO hbti
        by_cases hg : x.good
        · rw [show packE (x.at bt) = 0 from if_pos hg]
          go_wp2_with (at_builtin; refine wpList_append_Own _ rfl _ _ 24 rfl w.heap.size 5 _ 1 1 Try.underlying24 infoByte rfl (by decide) _ _ _ _ rfl HO3.out w3.heap.size _ _ _ (bv (packL (x.at bt))) rfl HX3.out.row (bv_one _) (by simp only [maxLen]; omega) (by omega) HW3.out.size ?_; intro A4 c4 w4 hown4 hg4 _)
          go_roundw
          case rel =>
            refine ⟨k + 1, A4, c4, by omega, by rw [piecesTo_succ, List.length_append, HP.out], by simp, fun j y hj hy => ?_, by rw [piecesTo_succ, List.length_append, HP.out, bv_append]; exact hown4, HW3.out.grown hg4 HW3.out.size (fun g hk => (HO3.out.lt g hk).1)⟩
            rcases Nat.lt_or_ge j k with h | h
            · exact HG.out j y h hy
            · have : j = k := by omega
              subst this
              rw [HX.out] at hy
              cases hy
              exact hg
          case measure => simp [intOf]; omega
        · rw [show packE (x.at bt) = 1 from if_neg hg]
          go_wp2
          go_ret2
          rw [putL_bad (by rw [HL.out]; exact H16.out) HX.out hg]
          exact ⟨none, 0, rfl, Own.nil _ _ _ _ _, HW3.out⟩
      · have : k = n := by omega
        subst this
        have hG : goodAll l := goodAll_of fun i x hi hx => hgood i x (by rw [← HL.out]; exact hi) hx
        have HY := Lib.hid (putL_yes (by rw [HL.out]; exact H16.out) hG)
        have hB := hb
        have HO := Lib.hid hown
        clear hgood hown hb
        go_wp2
        go_ret2
        rw [HY.out, HL.out]
        exact ⟨A2, c2, rfl, HO.out, hB⟩

set_option maxHeartbeats 4000000 in
theorem rput_any (A : Option Addr) (n c : Nat) (l : List Ent) (w : World) (hr : Row w w.heap.size 4 A n (evs l)) (hf : ∀ x ∈ l, x.fit) (hn : n ≤ 1099511627776) :
    Calls Try.prog 17 #[.slice A n c] w fun e w' => e = .returned (.tuple #[str (putL l).1, .int .i64 (putL l).2]) ∧ Below w.heap.size w w' := by
  have hl := ent_len hr
  by_cases h16 : 16 < n
  · have h16i : (16 : Int) < (n : Int) := by omega
    rw [putL_many (by omega)]
    go_enter Try.func17, Try.ntmps17
    go_wp2
    go_ret2
    exact ⟨rfl, Below.refl _ _⟩
  · have h16i : ¬ (16 : Int) < (n : Int) := by omega
    have HR := Lib.hid hr
    have HF := Lib.hid hf
    have HL := Lib.hid hl
    have H16 := Lib.hid h16
    clear hr hf hl
    go_enter Try.func17, Try.ntmps17
    go_wp2_with fail
    go_loopw [4, 5] (fun o i wr => ∃ (k : Nat), k ≤ n ∧ o = str (piecesTo l k) ∧ i = .int .i64 (k : Nat) ∧ (∀ j x, j < k → l[j]? = some x → x.good) ∧ Below w.heap.size w wr) (fun _ i _ => n - (intOf i).toNat)
    case atStart => exact ⟨0, by omega, rfl, rfl, fun j x h => by omega, Below.refl _ _⟩
    case round =>
      obtain ⟨k, hk, rfl, rfl, hgood, hb⟩ := hrel
      by_cases hlt : k < n
      · obtain ⟨x, hx⟩ : ∃ x, l[k]? = some x := ⟨_, List.getElem?_eq_getElem (by have := HL.out; omega)⟩
        obtain ⟨b, o, rfl, hb1, a0, a1, a2, a3⟩ := ent_row (HR.out.below hb) k x hx
        have hsz := hb.size
        have HB := Lib.hid hb
        have HG := Lib.hid hgood
        have HX := Lib.hid hx
        have hlt1 : b < wr.heap.size := by omega
        obtain ⟨bt, hbt⟩ : ∃ bt, decide (k + 1 = n) = bt := ⟨_, rfl⟩
        have hbti : (((k : Int) == (n : Int) - 1) : Bool) = bt := by
          rw [← hbt]
          by_cases h : k + 1 = n
          · rw [decide_eq_true h]; simp; omega
          · rw [decide_eq_false h]; simp; omega
        have hpc : pieceAt l k = packL (x.at bt) := by unfold pieceAt; rw [hx, HL.out, hbt]
        have hfit := (HF.out x (List.mem_of_getElem? hx)).at bt
        have HP := Lib.hid hpc
        have HT := Lib.hid hfit
        have hplen := piecesTo_len l k
        have hpl4 := packL_len (x.at bt)
        clear hx hb hgood hpc hfit hbt
        go_wp2_with fail
        refine (rpack_any (x.at bt) HT.out _).mono ?_
        rintro e w3 ⟨rfl, hb3⟩
        have HW3 := Lib.hid (HB.out.trans ((ballocd hb3).mono hsz))
        clear a0 a1 a2 a3 hb3 hbti
        by_cases hg : x.good
        · rw [show packE (x.at bt) = 0 from if_pos hg]
          go_wp2_with fail
          go_roundw
          case rel =>
            refine ⟨k + 1, by omega, by rw [piecesTo_succ, HP.out]; simp [ba_append], by simp, fun j y hj hy => ?_, HW3.out⟩
            rcases Nat.lt_or_ge j k with h | h
            · exact HG.out j y h hy
            · have : j = k := by omega
              subst this
              rw [HX.out] at hy
              cases hy
              exact hg
          case measure => simp [intOf]; omega
        · rw [show packE (x.at bt) = 1 from if_neg hg]
          go_wp2
          go_ret2
          rw [putL_bad (by rw [HL.out]; exact H16.out) HX.out hg]
          exact ⟨rfl, HW3.out⟩
      · have : k = n := by omega
        subst this
        have hG : goodAll l := goodAll_of fun i x hi hx => hgood i x (by rw [← HL.out]; exact hi) hx
        have HY := Lib.hid (putL_yes (by rw [HL.out]; exact H16.out) hG)
        have hB := hb
        clear hgood hb
        go_wp2
        go_ret2
        rw [HY.out, HL.out]
        exact ⟨rfl, hB⟩
end Go.Proofs.Ytfcnohhcgbebdaa

/- What special's names are, and what its functions on them, and the reference's, compute. Condition: the package's table of names stands as laid. -/
import Derived.Test.YtfpieennbgmdhaaDoorSpecial
namespace Go.Proofs.YtfpieennbgmdhaaDoor
open Go.RowKit Go.Maps
set_option linter.unusedVariables false

/-- strings as cells -/
def svs (l : List (List UInt8)) : List Value := l.map fun s => str s
theorem svs_length (l : List (List UInt8)) : (svs l).length = l.length := by simp [svs]
theorem svs_get (l : List (List UInt8)) (k : Nat) (s : List UInt8) (h : l[k]? = some s) : (svs l)[k]? = some (str s) := by simp [svs, h]
/-- where a string stands first; below 0: nowhere -/
def idxL (s : List UInt8) : List (List UInt8) → Nat → Int
  | [], _ => -1
  | x :: r, k => if x = s then k else idxL s r (k + 1)
theorem drop_cons {α : Type} (l : List α) (k : Nat) (u : α) (h : l[k]? = some u) : l.drop k = u :: l.drop (k + 1) := by
  obtain ⟨hk, rfl⟩ := List.getElem?_eq_some_iff.1 h
  exact List.drop_eq_getElem_cons hk
theorem str_ne (a b : List UInt8) : ((ByteArray.mk a.toArray).toList == (ByteArray.mk b.toArray).toList) = decide (a = b) := by
  rw [ByteArray.toList_eq, ByteArray.toList_eq, Bool.eq_iff_iff]
  simp

set_option maxHeartbeats 1000000 in
theorem index_any (A : Option Addr) (n c : Nat) (l : List (List UInt8)) (s : List UInt8) (w : World) (hr : Row w w.heap.size 1 A n (svs l)) (hn : n ≤ 1099511627776) :
    Calls Tryd.prog 14 #[.slice A n c, str s] w fun e w' => e = .returned (.int .i64 (idxL s l 0)) ∧ w = w' := by
  have hlen : l.length = n := by have := hr.1; rw [svs_length] at this; omega
  have HR := Lib.hid hr
  clear hr
  go_enter Tryd.func14, Tryd.ntmps14
  go_wp2_with fail
  go_loop [5, 8] (fun _ x => ∃ k : Nat, k ≤ n ∧ x = .int .i64 k ∧ idxL s l 0 = idxL s (l.drop k) k) (fun _ x => n - (intOf x).toNat)
  case atStart => exact ⟨0, by omega, rfl, rfl⟩
  case round =>
    obtain ⟨k, hk, rfl, hi⟩ := hrel
    have HI := Lib.hid hi
    clear hi
    by_cases hlt : k < n
    · obtain ⟨x, hx⟩ := get_ex l (k := k) (by omega)
      obtain ⟨b, o, rfl, hb, hcell⟩ := HR.out.2 (by omega)
      have hc := hcell k _ (svs_get l k x hx)
      have HD := Lib.hid (drop_cons l k x hx)
      clear hx hcell
      by_cases he : s = x
      · have hE : (s == x) = true := by simpa using he
        have HE := Lib.hid he
        clear he
        go_wp2
        go_ret
        refine ⟨ret_int ?_, rfl⟩
        rw [HI.out, HD.out]
        unfold idxL
        rw [if_pos HE.out.symm]
      · have hE : (s == x) = false := by simpa using he
        have HE := Lib.hid he
        clear he
        go_wp2
        go_round
        case rel =>
          refine ⟨k + 1, by omega, by simp, ?_⟩
          rw [HI.out, HD.out]
          conv => lhs; unfold idxL
          rw [if_neg (fun e => HE.out e.symm)]
        case measure => simp [intOf]; omega
    · obtain rfl : k = n := by omega
      go_wp2
      go_ret
      refine ⟨ret_int ?_, rfl⟩
      rw [HI.out, List.drop_of_length_le (by omega)]
      rfl

/-- the labels' names -/
def nameL : List (List UInt8) := [[110, 117, 108, 108, 52], [97, 108, 101, 114, 116], [110, 117, 108, 108, 54], [105, 109, 112, 108, 105, 99, 105, 116], [], [], [], [101, 110, 116, 114, 111, 112, 121], [], [], [], [], [], [99, 104, 97, 110, 110, 101, 108], [119, 97, 116, 99, 104], [109, 111, 114, 101]]
/-- the name of a label -/
def nameF (n : Int) : List UInt8 := if isB n = true then nameL.getD n.toNat [] else []
/-- the label of a name -/
def labelF (s : List UInt8) : Int := if s = [] then -1 else idxL s nameL 0
/-- the table of names stands as laid -/
def Named (w : World) : Prop := 0 < w.heap.size ∧ ∀ j s, nameL[j]? = some s → w.cell? ⟨0, j, none⟩ = some (str s)
theorem Named.below {w w' : World} (h : Named w) (hb : Below w.heap.size w w') : Named w' :=
  ⟨Nat.lt_of_lt_of_le h.1 hb.size, fun j s hj => (hb.cell (p := ⟨0, j, none⟩) h.1).trans (h.2 j s hj)⟩
theorem Named.row {w : World} (h : Named w) : Row w w.heap.size 1 (some ⟨0, 0, none⟩) 16 (svs nameL) :=
  ⟨rfl, fun _ => ⟨0, 0, rfl, h.1, fun j u hu => by
    unfold svs at hu
    rw [List.getElem?_map] at hu
    cases hj : nameL[j]? with
    | none => rw [hj] at hu; cases hu
    | some s => rw [hj] at hu; cases hu; rw [Nat.zero_add]; exact h.2 j s hj⟩⟩

theorem name_any (n : Int) (w : World) (hN : Named w) (h0 : -9223372036854775808 ≤ n) (h1 : n ≤ 9223372036854775807) :
    Calls Tryd.prog 9 #[.int .i64 n] w fun e w' => e = .returned (str (nameF n)) ∧ w = w' := by
  cases hb : isB n
  · have HB := Lib.hid hb
    have hF : nameF n = [] := by unfold nameF; rw [hb]; rfl
    rw [hF]
    clear hb hF
    go_enter Tryd.func9, Tryd.ntmps9
    go_wp2_with (refine (is_any n _).mono ?_; rintro e w' ⟨rfl, rfl⟩; rw [HB.out])
    go_ret
    exact ⟨rfl, rfl⟩
  · have HB := Lib.hid hb
    have hn : 0 ≤ n ∧ n < 16 := of_decide_eq_true hb
    obtain ⟨k, rfl⟩ := Int.eq_ofNat_of_zero_le hn.1
    have hk : k < 16 := by omega
    obtain ⟨s, hs⟩ := get_ex nameL (k := k) hk
    have hF : nameF (k : Int) = s := by unfold nameF; rw [hb, if_pos rfl, Int.toNat_natCast, List.getD_eq_getElem?_getD, hs]; rfl
    have hc := hN.2 k s hs
    rw [hF]
    clear hb hF hn hs
    go_enter Tryd.func9, Tryd.ntmps9
    go_wp2_with (refine (is_any (k : Int) _).mono ?_; rintro e w' ⟨rfl, rfl⟩; rw [HB.out])
    go_ret
    exact ⟨rfl, rfl⟩

theorem label_any (s : List UInt8) (w : World) (hN : Named w) :
    Calls Tryd.prog 8 #[str s] w fun e w' => e = .returned (.int .i64 (labelF s)) ∧ w = w' := by
  unfold labelF
  have HR := Lib.hid hN.row
  clear hN
  by_cases h : s = []
  · subst h
    go_enter Tryd.func8, Tryd.ntmps8
    go_wp2
    go_ret
    exact ⟨rfl, rfl⟩
  · rw [if_neg h]
    have h1 : (s == []) = false := by simpa using h
    have h2 : s.isEmpty = false := by simpa using h
    clear h
    go_enter Tryd.func8, Tryd.ntmps8
    go_wp2_with (refine (index_any _ _ _ nameL s _ HR.out (by omega)).mono ?_; rintro e w' ⟨rfl, rfl⟩)
    go_ret
    exact ⟨rfl, rfl⟩

set_option maxHeartbeats 2000000 in
theorem rname_any (n : Int) (w : World) : Calls Tryd.prog 10 #[.int .i64 n] w fun e w' => e = .returned (str (nameF n)) ∧ w = w' := by
  by_cases c0 : n = 0
  · subst c0
    go_enter Tryd.func10, Tryd.ntmps10
    go_wp2
    go_ret
    exact ⟨rfl, rfl⟩
  by_cases c1 : n = 1
  · subst c1
    go_enter Tryd.func10, Tryd.ntmps10
    go_wp2
    go_ret
    exact ⟨rfl, rfl⟩
  by_cases c2 : n = 2
  · subst c2
    go_enter Tryd.func10, Tryd.ntmps10
    go_wp2
    go_ret
    exact ⟨rfl, rfl⟩
  by_cases c3 : n = 3
  · subst c3
    go_enter Tryd.func10, Tryd.ntmps10
    go_wp2
    go_ret
    exact ⟨rfl, rfl⟩
  by_cases c7 : n = 7
  · subst c7
    go_enter Tryd.func10, Tryd.ntmps10
    go_wp2
    go_ret
    exact ⟨rfl, rfl⟩
  by_cases c13 : n = 13
  · subst c13
    go_enter Tryd.func10, Tryd.ntmps10
    go_wp2
    go_ret
    exact ⟨rfl, rfl⟩
  by_cases c14 : n = 14
  · subst c14
    go_enter Tryd.func10, Tryd.ntmps10
    go_wp2
    go_ret
    exact ⟨rfl, rfl⟩
  by_cases c15 : n = 15
  · subst c15
    go_enter Tryd.func10, Tryd.ntmps10
    go_wp2
    go_ret
    exact ⟨rfl, rfl⟩
  have hF : nameF n = [] := by
    unfold nameF
    split
    · rename_i h
      have hn : 0 ≤ n ∧ n < 16 := of_decide_eq_true h
      have : n = 4 ∨ n = 5 ∨ n = 6 ∨ n = 8 ∨ n = 9 ∨ n = 10 ∨ n = 11 ∨ n = 12 := by omega
      rcases this with rfl | rfl | rfl | rfl | rfl | rfl | rfl | rfl <;> rfl
    · rfl
  have e0 : (n == 0) = false := by simpa using c0
  have e1 : (n == 1) = false := by simpa using c1
  have e2 : (n == 2) = false := by simpa using c2
  have e3 : (n == 3) = false := by simpa using c3
  have e7 : (n == 7) = false := by simpa using c7
  have e13 : (n == 13) = false := by simpa using c13
  have e14 : (n == 14) = false := by simpa using c14
  have e15 : (n == 15) = false := by simpa using c15
  rw [hF]
  clear c0 c1 c2 c3 c7 c13 c14 c15 hF
  go_enter Tryd.func10, Tryd.ntmps10
  go_wp2
  go_ret
  exact ⟨rfl, rfl⟩

theorem idxL_cons (s x : List UInt8) (l : List (List UInt8)) (k : Nat) : idxL s (x :: l) k = if x = s then (k : Int) else idxL s l (k + 1) := by rw [idxL]
set_option maxHeartbeats 1000000 in
theorem rlabel_any (s : List UInt8) (w : World) :
    Calls Tryd.prog 11 #[str s] w fun e w' => e = .returned (.int .i64 (labelF s)) ∧ w = w' := by
  unfold labelF
  by_cases h : s = []
  · subst h
    rw [if_pos rfl]
    go_enter Tryd.func11, Tryd.ntmps11
    go_wp2_with fail
    go_loop [3] (fun x => ∃ k : Nat, k ≤ 16 ∧ x = .int .i64 k) (fun x => 16 - (intOf x).toNat)
    case atStart => exact ⟨0, by omega, rfl⟩
    case round =>
      obtain ⟨k, hk, rfl⟩ := hrel
      by_cases hlt : k < 16
      · have hI : (k : Int) < 16 := by omega
        go_wp2
        go_round
        case rel => exact ⟨k + 1, by omega, by simp⟩
        case measure => simp [intOf]; omega
      · have hI : ¬ (k : Int) < 16 := by omega
        go_wp2
        go_ret
        exact ⟨rfl, rfl⟩
  · rw [if_neg h]
    have h1 : (s != []) = true := by simpa using h
    have h2 : (!s.isEmpty) = true := by simpa using h
    have h3 : s.isEmpty = false := by simpa using h
    clear h
    go_enter Tryd.func11, Tryd.ntmps11
    go_wp2_with fail
    go_loop [3] (fun x => ∃ k : Nat, k ≤ 16 ∧ x = .int .i64 k ∧ idxL s nameL 0 = idxL s (nameL.drop k) k) (fun x => 16 - (intOf x).toNat)
    case atStart => exact ⟨0, by omega, rfl, rfl⟩
    case round =>
      obtain ⟨k, hk, rfl, hi⟩ := hrel
      have HI := Lib.hid hi
      clear hi
      by_cases hlt : k < 16
      · have hI : (k : Int) < 16 := by omega
        obtain ⟨x, hx⟩ := get_ex nameL (k := k) hlt
        have hF : nameF (k : Int) = x := by unfold nameF; rw [isB_yes (by omega), if_pos rfl, Int.toNat_natCast, List.getD_eq_getElem?_getD, hx]; rfl
        have HF := Lib.hid hF
        have HD := Lib.hid (drop_cons nameL k x hx)
        clear hF hx
        by_cases he : x = s
        · have hE : (x == s) = true := by simpa using he
          have HE := Lib.hid he
          clear he
          go_wp2_with (refine (rname_any (k : Int) _).mono ?_; rintro e w' ⟨rfl, rfl⟩; rw [HF.out])
          go_ret
          refine ⟨ret_int ?_, rfl⟩
          rw [HI.out, HD.out, idxL_cons, if_pos HE.out]
        · have hE : (x == s) = false := by simpa using he
          have HE := Lib.hid he
          clear he
          go_wp2_with (refine (rname_any (k : Int) _).mono ?_; rintro e w' ⟨rfl, rfl⟩; rw [HF.out])
          go_round
          case rel =>
            refine ⟨k + 1, by omega, by simp, ?_⟩
            rw [HI.out, HD.out, idxL_cons, if_neg HE.out]
          case measure => simp [intOf]; omega
      · obtain rfl : k = 16 := by omega
        go_wp2
        go_ret
        exact ⟨ret_int (by rw [HI.out]; rfl), rfl⟩

/-- entries of a new block -/
theorem ent_lit (w : World) (l : List Ent) (t : TypeId) (n : Nat) (hn : l.length = n) : Row (w.alloc (.cells (evs l).toArray t)) (w.heap.size + 1) 4 (some ⟨w.heap.size, 0, none⟩) n (evs l) := by
  have := Row.new (n := n) (sz := 4) (e := t) w (evs l).toArray (by simp [evs_length, hn])
  exact this

set_option maxHeartbeats 4000000 in
theorem awake_any (w : World) (hN : Named w) : Calls Tryd.prog 5 #[] w fun e w' => e = .returned (.bool true) ∧ Below w.heap.size w w' := by
  have HN := Lib.hid hN
  clear hN
  go_enter Tryd.func5, Tryd.ntmps5
  go_wp2_with fail
  refine (of_any _ 1 1 [⟨0, 0, true, 0⟩] _ (by rw [World.size_alloc]; exact ent_lit w [⟨0, 0, true, 0⟩] 31 1 rfl) (by omega) (by simp; decide)).mono ?_
  rintro e w1 ⟨rfl, hb1⟩
  have hB1 := ballocd hb1
  clear hb1
  rw [show ofF [⟨0, 0, true, 0⟩] = 1 from rfl]
  go_wp2_with fail
  refine (of_any _ 1 1 [⟨2, 0, true, 0⟩] _ (by rw [World.size_alloc]; exact ent_lit w1 [⟨2, 0, true, 0⟩] 31 1 rfl) (by omega) (by simp; decide)).mono ?_
  rintro e w2 ⟨rfl, hb2⟩
  have hB2 := bthen hB1 (ballocd hb2)
  clear hb2 hB1
  rw [show ofF [⟨2, 0, true, 0⟩] = 2 from rfl]
  go_wp2_with fail
  refine (of_any _ 2 2 [⟨7, 0, false, 0⟩, ⟨16, 0, false, 0⟩] _ (by rw [World.size_alloc]; exact ent_lit w2 [⟨7, 0, false, 0⟩, ⟨16, 0, false, 0⟩] 31 2 rfl) (by omega) (by simp; decide)).mono ?_
  rintro e w3 ⟨rfl, hb3⟩
  have hB3 := bthen hB2 (ballocd hb3)
  clear hb3 hB2
  rw [show ofF [⟨7, 0, false, 0⟩, ⟨16, 0, false, 0⟩] = 3 from rfl]
  go_wp2_with fail
  refine (of_any _ 1 1 [⟨16, 0, false, 0⟩] _ (by rw [World.size_alloc]; exact ent_lit w3 [⟨16, 0, false, 0⟩] 31 1 rfl) (by omega) (by simp; decide)).mono ?_
  rintro e w4 ⟨rfl, hb4⟩
  have hB4 := bthen hB3 (ballocd hb4)
  clear hb4 hB3
  rw [show ofF [⟨16, 0, false, 0⟩] = 0 from rfl]
  go_wp2_with fail
  refine (of_any _ 1 1 [⟨14, 0, false, 0⟩] _ (by rw [World.size_alloc]; exact ent_lit w4 [⟨14, 0, false, 0⟩] 31 1 rfl) (by omega) (by simp; decide)).mono ?_
  rintro e w5 ⟨rfl, hb5⟩
  have hB5 := bthen hB4 (ballocd hb5)
  clear hb5 hB4
  rw [show ofF [⟨14, 0, false, 0⟩] = 4 from rfl]
  go_wp2_with fail
  refine (of_any none 0 0 [] _ (Row.nil _ _ _ _) (by omega) (by simp)).mono ?_
  rintro e w6 ⟨rfl, hb6⟩
  have hB6 := bthen hB5 hb6
  clear hb6 hB5
  rw [show ofF [] = 5 from rfl]
  have HN6 := Lib.hid (HN.out.below hB6)
  go_wp2_with fail
  refine (name_any 7 _ HN6.out (by omega) (by omega)).mono ?_
  rintro e w' ⟨rfl, rfl⟩
  rw [show nameF 7 = [101, 110, 116, 114, 111, 112, 121] from rfl]
  go_wp2_with fail
  refine (label_any [97, 108, 101, 114, 116] _ HN6.out).mono ?_
  rintro e w' ⟨rfl, rfl⟩
  rw [show labelF [97, 108, 101, 114, 116] = 1 from rfl]
  go_wp2_with fail
  refine (label_any [] _ HN6.out).mono ?_
  rintro e w' ⟨rfl, rfl⟩
  rw [show labelF [] = -1 from rfl]
  go_wp2_with fail
  refine (is_any 15 _).mono ?_
  rintro e w' ⟨rfl, rfl⟩
  rw [show isB 15 = true from rfl]
  go_wp2_with fail
  refine (is_any 16 _).mono ?_
  rintro e w' ⟨rfl, rfl⟩
  rw [show isB 16 = false from rfl]
  go_wp2
  go_ret
  exact ⟨rfl, hB6⟩
end Go.Proofs.YtfpieennbgmdhaaDoor

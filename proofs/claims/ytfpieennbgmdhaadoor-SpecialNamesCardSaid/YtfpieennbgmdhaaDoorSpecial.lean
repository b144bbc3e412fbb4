/- What the functions of special, and the reference's, compute: what is to be done with a stack. No condition but sizes. -/
import Derived.Test.YtfpieennbgmdhaaDoorEnt
import Derived.Test.YtfpieennbgmdhaaDoorMapII
namespace Go.Proofs.YtfpieennbgmdhaaDoor
open Go.RowKit Go.Maps
set_option linter.unusedVariables false

/-- whether a label is special -/
def isB (n : Int) : Bool := decide (0 ≤ n ∧ n < 16)
theorem isB_yes {n : Int} (h : 0 ≤ n ∧ n < 16) : isB n = true := decide_eq_true h
theorem isB_no {n : Int} (h : ¬ (0 ≤ n ∧ n < 16)) : isB n = false := decide_eq_false h

theorem is_any (n : Int) (w : World) : Calls Tryd.prog 12 #[.int .i64 n] w fun e w' => e = .returned (.bool (isB n)) ∧ w = w' := by
  by_cases h0 : 0 ≤ n <;> by_cases h1 : n < 16
  all_goals
    go_enter Tryd.func12, Tryd.ntmps12
    go_wp2
    go_ret
    refine ⟨ret_bool ?_, rfl⟩
    first | exact (isB_yes (by omega)).symm | exact (isB_no (by omega)).symm

theorem ris_any (n : Int) (w : World) : Calls Tryd.prog 13 #[.int .i64 n] w fun e w' => e = .returned (.bool (isB n)) ∧ w = w' := by
  by_cases h0 : 0 ≤ n <;> by_cases h1 : n < 16
  all_goals
    go_enter Tryd.func13, Tryd.ntmps13
    go_wp2
    go_ret
    refine ⟨ret_bool ?_, rfl⟩
    first | exact (isB_yes (by omega)).symm | exact (isB_no (by omega)).symm

/-- what is to be done with a stack: its top label, whether it is the bottom, the label below -/
def ofN (n : Int) (bot : Bool) (sec : Option Int) : Int :=
  if 16 ≤ n then 0 else if n = 0 ∧ bot = true then 1 else if n = 2 ∧ bot = true then 2 else
  if n = 7 ∧ bot = false ∧ (sec.map isB) = some false then 3 else if n = 1 ∨ n = 13 ∨ n = 14 then 4 else 5
def ofF (l : List Ent) : Int := match l with | [] => 5 | e :: r => ofN e.label e.bot (r.head?.map (·.label))

theorem keyI (x : Int) (h : (Lit.int .i64 x).wf = true) : keyOf Tryd.prog 3 (.int .i64 x) = some (.int .i64 x) := Go.Maps.keyOf_int_mk Tryd.underlying3 h
theorem lawI : Keyed Tryd.prog 3 := int_keyed Tryd.underlying3
theorem zeroI (w : World) : (zeroValue 3).run Tryd.prog w = .ok (.int .i64 0) w := by kernel_rfl

set_option maxHeartbeats 1000000 in
theorem of_nil (A : Option Addr) (c : Nat) (w : World) : Calls Tryd.prog 6 #[.slice A 0 c] w fun e w' => e = .returned (.int .i64 5) ∧ w = w' := by
  go_enter Tryd.func6, Tryd.ntmps6
  go_wp2
  go_ret
  exact ⟨rfl, rfl⟩

set_option maxHeartbeats 1000000 in
theorem of_look (b o len cap : Nat) (n k t : Int) (bot : Bool) (w : World) (hl : 0 < len) (hm : len ≤ 1099511627776)
    (a0 : w.cell? ⟨b, o, none⟩ = some (.int .i64 n)) (a1 : w.cell? ⟨b, o + 1, none⟩ = some (.int .u8 k)) (a2 : w.cell? ⟨b, o + 2, none⟩ = some (.bool bot)) (a3 : w.cell? ⟨b, o + 3, none⟩ = some (.int .u8 t)) (h : 16 ≤ n) :
    Calls Tryd.prog 6 #[.slice (some ⟨b, o, none⟩) len cap] w fun e w' => e = .returned (.int .i64 0) ∧ Below w.heap.size w w' := by
  go_enter Tryd.func6, Tryd.ntmps6
  go_wp2
  go_ret
  exact ⟨rfl, (Below.refl _ _).alloc (Nat.le_refl _) _⟩

/-- the map's pairs -/
def does0 : List (Int × Int) := [(14, 4), (13, 4), (1, 4)]
/-- what the map says -/
def saysN (l : List (Int × Int)) (n : Int) : Int := if (pairAt l n).isSome then (pairAt l n).getD 0 else 5

theorem box_kept {w w' : World} {r g : Nat} {cs : Array Value} {t : TypeId} (hg : w.grownBy w' (some r)) (h : w.heap[g]? = some (.cells cs t (0, 0))) (hne : g ≠ r) : w'.heap[g]? = some (.cells cs t (0, 0)) :=
  (hg.block g (heap_lt h) (fun e => by injection e with e; exact hne e)).trans h
theorem box_under (w : World) (cs : Array Value) (t : TypeId) (o : Obj) : ((w.alloc (.cells cs t)).alloc o).heap[w.heap.size]? = some (.cells cs t (0, 0)) :=
  (heap_alloc_old _ _ (by simp)).trans (heap_new w cs t)

set_option maxHeartbeats 2000000 in
theorem of_bot (b o len cap : Nat) (n k t : Int) (w : World) (hl : 0 < len) (hm : len ≤ 1099511627776)
    (a0 : w.cell? ⟨b, o, none⟩ = some (.int .i64 n)) (a1 : w.cell? ⟨b, o + 1, none⟩ = some (.int .u8 k)) (a2 : w.cell? ⟨b, o + 2, none⟩ = some (.bool true)) (a3 : w.cell? ⟨b, o + 3, none⟩ = some (.int .u8 t)) (h : n < 16) (hn : (Lit.int .i64 n).wf = true) :
    Calls Tryd.prog 6 #[.slice (some ⟨b, o, none⟩) len cap] w fun e w' => e = .returned (.int .i64 (saysN ((2, 2) :: (0, 1) :: does0) n)) ∧ Below w.heap.size w w' := by
  have HM : Hid (((w.alloc (.cells #[.int .i64 n, .int .u8 k, .bool true, .int .u8 t] 31)).alloc (.map #[] 0)).ownsMap Tryd.prog 3 (plainElem Tryd.prog 3) (w.heap.size + 1) 0 (mapOf .i64 .i64 [])) := by
    have := World.ownsMap_made (H := Unit) (w.alloc (.cells #[.int .i64 n, .int .u8 k, .bool true, .int .u8 t] 31)) Tryd.prog 3 (plainElem Tryd.prog 3)
    rw [World.size_alloc] at this
    exact Lib.hid this
  have hmm := @run_makeMap Tryd.prog
  have HK := Lib.hid (keyI n hn)
  have HB0 := Lib.hid (box_under w #[.int .i64 n, .int .u8 k, .bool true, .int .u8 t] 31 (.map #[] 0))
  have hB0 : Below w.heap.size w ((w.alloc (.cells #[.int .i64 n, .int .u8 k, .bool true, .int .u8 t] 31)).alloc (.map #[] 0)) := ((Below.refl _ _).alloc (Nat.le_refl _) _).alloc (by simp) _
  clear hn
  unfold saysN
  cases hp : (pairAt ((2, 2) :: (0, 1) :: does0) n).isSome
  all_goals
    replace hp := Lib.hid hp
    go_enter Tryd.func6, Tryd.ntmps6
    go_wp2_with (first
      | (refine wpList_lookup_pairs _ rfl _ _ 32 rfl 3 3 .i64 .i64 lawI Tryd.underlying32 Tryd.underlying3 (zeroI _) (w.heap.size + 1) _ ((2, 2) :: (0, 1) :: does0) rfl hm5 n rfl HK.out ?_; rw [hp.out])
      | (refine wpList_mapUpdate_own _ rfl (.tmp 21) (.const (.int .i64 2)) (.const (.int .i64 2)) 32 rfl 3 3 lawI Tryd.underlying32 _ _ _ _ rfl hm4 (by decide) _ _ _ rfl rfl (keyI 2 (by decide)) _ [] (plainElem_int Tryd.underlying3 (by decide)) ?_; intro w5 hm5 hg5; have HB5 := box_kept hg5 HB4.out (by omega); have c50 := cell_at HB5 0; have hB5 := hB4.grown hg5 (by have := hB4.size; omega) (fun k hk => by injection hk with hk; omega); replace HB5 := Lib.hid HB5)
      | (refine wpList_mapUpdate_own _ rfl (.tmp 20) (.const (.int .i64 0)) (.const (.int .i64 1)) 32 rfl 3 3 lawI Tryd.underlying32 _ _ _ _ rfl hm3 (by decide) _ _ _ rfl rfl (keyI 0 (by decide)) _ [] (plainElem_int Tryd.underlying3 (by decide)) ?_; intro w4 hm4 hg4; have HB4 := Lib.hid (box_kept hg4 HB3.out (by omega)); have hB4 := hB3.grown hg4 (by have := hB3.size; omega) (fun k hk => by injection hk with hk; omega); clear c32)
      | (refine wpList_insert_own _ rfl (.tmp 16) (.const (.int .i64 14)) (.const (.int .i64 4)) 32 rfl 3 3 lawI Tryd.underlying32 _ _ _ _ rfl hm2 (by decide) _ _ _ rfl rfl (keyI 14 (by decide)) _ [] (plainElem_int Tryd.underlying3 (by decide)) ?_; intro w3 hm3 hg3; have HB3 := box_kept hg3 (box_kept hg2 (box_kept hg1 HB0.out (by omega)) (by omega)) (by omega); have c32 := cell_at HB3 2; have hB3 := ((hB0.grown hg1 (by simp; omega) (fun k hk => by injection hk with hk; omega)).grown hg2 (by have := hg1.size; simp at this; omega) (fun k hk => by injection hk with hk; omega)).grown hg3 (by have := hg1.size; have := hg2.size; simp at *; omega) (fun k hk => by injection hk with hk; omega); replace HB3 := Lib.hid HB3)
      | (refine wpList_insert_own _ rfl (.tmp 16) (.const (.int .i64 13)) (.const (.int .i64 4)) 32 rfl 3 3 lawI Tryd.underlying32 _ _ _ _ rfl hm1 (by decide) _ _ _ rfl rfl (keyI 13 (by decide)) _ [] (plainElem_int Tryd.underlying3 (by decide)) ?_; intro w2 hm2 hg2)
      | (refine wpList_insert_own _ rfl (.tmp 16) (.const (.int .i64 1)) (.const (.int .i64 4)) 32 rfl 3 3 lawI Tryd.underlying32 _ _ _ _ rfl HM.out (by decide) _ _ _ rfl rfl (keyI 1 (by decide)) _ [] (plainElem_int Tryd.underlying3 (by decide)) ?_; intro w1 hm1 hg1))
    go_ret
    exact ⟨by simp, hB5⟩

set_option maxHeartbeats 2000000 in
theorem of_one (b o cap : Nat) (n k t : Int) (w : World)
    (a0 : w.cell? ⟨b, o, none⟩ = some (.int .i64 n)) (a1 : w.cell? ⟨b, o + 1, none⟩ = some (.int .u8 k)) (a2 : w.cell? ⟨b, o + 2, none⟩ = some (.bool false)) (a3 : w.cell? ⟨b, o + 3, none⟩ = some (.int .u8 t)) (h : n < 16) (hn : (Lit.int .i64 n).wf = true) :
    Calls Tryd.prog 6 #[.slice (some ⟨b, o, none⟩) 1 cap] w fun e w' => e = .returned (.int .i64 (saysN does0 n)) ∧ Below w.heap.size w w' := by
  have HM : Hid (((w.alloc (.cells #[.int .i64 n, .int .u8 k, .bool false, .int .u8 t] 31)).alloc (.map #[] 0)).ownsMap Tryd.prog 3 (plainElem Tryd.prog 3) (w.heap.size + 1) 0 (mapOf .i64 .i64 [])) := by
    have := World.ownsMap_made (H := Unit) (w.alloc (.cells #[.int .i64 n, .int .u8 k, .bool false, .int .u8 t] 31)) Tryd.prog 3 (plainElem Tryd.prog 3)
    rw [World.size_alloc] at this
    exact Lib.hid this
  have hmm := @run_makeMap Tryd.prog
  have HK := Lib.hid (keyI n hn)
  have HB0 := Lib.hid (box_under w #[.int .i64 n, .int .u8 k, .bool false, .int .u8 t] 31 (.map #[] 0))
  have hB0 : Below w.heap.size w ((w.alloc (.cells #[.int .i64 n, .int .u8 k, .bool false, .int .u8 t] 31)).alloc (.map #[] 0)) := ((Below.refl _ _).alloc (Nat.le_refl _) _).alloc (by simp) _
  clear hn
  unfold saysN
  cases hp : (pairAt does0 n).isSome
  all_goals
    replace hp := Lib.hid hp
    go_enter Tryd.func6, Tryd.ntmps6
    go_wp2_with (first
      | (refine wpList_lookup_pairs _ rfl _ _ 32 rfl 3 3 .i64 .i64 lawI Tryd.underlying32 Tryd.underlying3 (zeroI _) (w.heap.size + 1) _ does0 rfl hm3 n rfl HK.out ?_; rw [hp.out])
      | (refine wpList_insert_own _ rfl (.tmp 16) (.const (.int .i64 14)) (.const (.int .i64 4)) 32 rfl 3 3 lawI Tryd.underlying32 _ _ _ _ rfl hm2 (by decide) _ _ _ rfl rfl (keyI 14 (by decide)) _ [] (plainElem_int Tryd.underlying3 (by decide)) ?_; intro w3 hm3 hg3; have HB3 := box_kept hg3 (box_kept hg2 (box_kept hg1 HB0.out (by omega)) (by omega)) (by omega); have c32 := cell_at HB3 2; have c30 := cell_at HB3 0; have hB3 := ((hB0.grown hg1 (by simp; omega) (fun k hk => by injection hk with hk; omega)).grown hg2 (by have := hg1.size; simp at this; omega) (fun k hk => by injection hk with hk; omega)).grown hg3 (by have := hg1.size; have := hg2.size; simp at *; omega) (fun k hk => by injection hk with hk; omega); replace HB3 := Lib.hid HB3)
      | (refine wpList_insert_own _ rfl (.tmp 16) (.const (.int .i64 13)) (.const (.int .i64 4)) 32 rfl 3 3 lawI Tryd.underlying32 _ _ _ _ rfl hm1 (by decide) _ _ _ rfl rfl (keyI 13 (by decide)) _ [] (plainElem_int Tryd.underlying3 (by decide)) ?_; intro w2 hm2 hg2)
      | (refine wpList_insert_own _ rfl (.tmp 16) (.const (.int .i64 1)) (.const (.int .i64 4)) 32 rfl 3 3 lawI Tryd.underlying32 _ _ _ _ rfl HM.out (by decide) _ _ _ rfl rfl (keyI 1 (by decide)) _ [] (plainElem_int Tryd.underlying3 (by decide)) ?_; intro w1 hm1 hg1))
    go_ret
    exact ⟨by simp, hB3⟩

set_option maxHeartbeats 2000000 in
theorem of_two (b o len cap : Nat) (n k t m : Int) (w : World) (hb : b < w.heap.size) (hl : 1 < len) (hm : len ≤ 1099511627776)
    (a0 : w.cell? ⟨b, o, none⟩ = some (.int .i64 n)) (a1 : w.cell? ⟨b, o + 1, none⟩ = some (.int .u8 k)) (a2 : w.cell? ⟨b, o + 2, none⟩ = some (.bool false)) (a3 : w.cell? ⟨b, o + 3, none⟩ = some (.int .u8 t)) (a4 : w.cell? ⟨b, o + 4, none⟩ = some (.int .i64 m)) (h : n < 16) (hn : (Lit.int .i64 n).wf = true) :
    Calls Tryd.prog 6 #[.slice (some ⟨b, o, none⟩) len cap] w fun e w' => e = .returned (.int .i64 (saysN (if isB m = true then does0 else (7, 3) :: does0) n)) ∧ Below w.heap.size w w' := by
  have HM : Hid (((w.alloc (.cells #[.int .i64 n, .int .u8 k, .bool false, .int .u8 t] 31)).alloc (.map #[] 0)).ownsMap Tryd.prog 3 (plainElem Tryd.prog 3) (w.heap.size + 1) 0 (mapOf .i64 .i64 [])) := by
    have := World.ownsMap_made (H := Unit) (w.alloc (.cells #[.int .i64 n, .int .u8 k, .bool false, .int .u8 t] 31)) Tryd.prog 3 (plainElem Tryd.prog 3)
    rw [World.size_alloc] at this
    exact Lib.hid this
  have hmm := @run_makeMap Tryd.prog
  have HK := Lib.hid (keyI n hn)
  have HB0 := Lib.hid (box_under w #[.int .i64 n, .int .u8 k, .bool false, .int .u8 t] 31 (.map #[] 0))
  have hB0 : Below w.heap.size w ((w.alloc (.cells #[.int .i64 n, .int .u8 k, .bool false, .int .u8 t] 31)).alloc (.map #[] 0)) := ((Below.refl _ _).alloc (Nat.le_refl _) _).alloc (by simp) _
  clear hn
  unfold saysN
  have hl' : (1 : Int) < (len : Int) := by omega
  have hl0 : 0 < len := by omega
  have hL := Lib.hid hl
  have H4 := Lib.hid a4
  clear hl a4
  cases hbm : isB m
  · simp only [Bool.false_eq_true, if_false]
    have HBM := Lib.hid hbm
    clear hbm
    cases hp : (pairAt ((7, 3) :: does0) n).isSome
    all_goals
      replace hp := Lib.hid hp
      go_enter Tryd.func6, Tryd.ntmps6
      go_wp2_with (first
      | (refine wpList_lookup_pairs _ rfl _ _ 32 rfl 3 3 .i64 .i64 lawI Tryd.underlying32 Tryd.underlying3 (zeroI _) (w.heap.size + 1) _ ((7, 3) :: does0) rfl hm4 n rfl HK.out ?_; rw [hp.out])
      | (refine wpList_mapUpdate_own _ rfl (.tmp 33) (.const (.int .i64 7)) (.const (.int .i64 3)) 32 rfl 3 3 lawI Tryd.underlying32 _ _ _ _ rfl hm3 (by decide) _ _ _ rfl rfl (keyI 7 (by decide)) _ [] (plainElem_int Tryd.underlying3 (by decide)) ?_; intro w4 hm4 hg4; have HB4 := box_kept hg4 HB3.out (by omega); have c40 := cell_at HB4 0; have hB4 := hB3.grown hg4 (by have := hB3.size; omega) (fun k hk => by injection hk with hk; omega); replace HB4 := Lib.hid HB4; clear c32 c30)
      | (refine (is_any m _).mono ?_; rintro e w' ⟨rfl, rfl⟩; rw [HBM.out])
      | (refine wpList_insert_own _ rfl (.tmp 16) (.const (.int .i64 14)) (.const (.int .i64 4)) 32 rfl 3 3 lawI Tryd.underlying32 _ _ _ _ rfl hm2 (by decide) _ _ _ rfl rfl (keyI 14 (by decide)) _ [] (plainElem_int Tryd.underlying3 (by decide)) ?_; intro w3 hm3 hg3; have HB3 := box_kept hg3 (box_kept hg2 (box_kept hg1 HB0.out (by omega)) (by omega)) (by omega); have c32 := cell_at HB3 2; have c30 := cell_at HB3 0; have hB3 := ((hB0.grown hg1 (by simp; omega) (fun k hk => by injection hk with hk; omega)).grown hg2 (by have := hg1.size; simp at this; omega) (fun k hk => by injection hk with hk; omega)).grown hg3 (by have := hg1.size; have := hg2.size; simp at *; omega) (fun k hk => by injection hk with hk; omega); replace HB3 := Lib.hid HB3; have c4 := (hB3.cell (p := ⟨b, o + 4, none⟩) hb).trans H4.out)
      | (refine wpList_insert_own _ rfl (.tmp 16) (.const (.int .i64 13)) (.const (.int .i64 4)) 32 rfl 3 3 lawI Tryd.underlying32 _ _ _ _ rfl hm1 (by decide) _ _ _ rfl rfl (keyI 13 (by decide)) _ [] (plainElem_int Tryd.underlying3 (by decide)) ?_; intro w2 hm2 hg2)
      | (refine wpList_insert_own _ rfl (.tmp 16) (.const (.int .i64 1)) (.const (.int .i64 4)) 32 rfl 3 3 lawI Tryd.underlying32 _ _ _ _ rfl HM.out (by decide) _ _ _ rfl rfl (keyI 1 (by decide)) _ [] (plainElem_int Tryd.underlying3 (by decide)) ?_; intro w1 hm1 hg1))
      go_ret
      exact ⟨by simp, hB4⟩
  · simp only [if_true]
    have HBM := Lib.hid hbm
    clear hbm
    cases hp : (pairAt does0 n).isSome
    all_goals
      replace hp := Lib.hid hp
      go_enter Tryd.func6, Tryd.ntmps6
      go_wp2_with (first
      | (refine wpList_lookup_pairs _ rfl _ _ 32 rfl 3 3 .i64 .i64 lawI Tryd.underlying32 Tryd.underlying3 (zeroI _) (w.heap.size + 1) _ does0 rfl hm3 n rfl HK.out ?_; rw [hp.out])
      | (refine (is_any m _).mono ?_; rintro e w' ⟨rfl, rfl⟩; rw [HBM.out])
      | (refine wpList_insert_own _ rfl (.tmp 16) (.const (.int .i64 14)) (.const (.int .i64 4)) 32 rfl 3 3 lawI Tryd.underlying32 _ _ _ _ rfl hm2 (by decide) _ _ _ rfl rfl (keyI 14 (by decide)) _ [] (plainElem_int Tryd.underlying3 (by decide)) ?_; intro w3 hm3 hg3; have HB3 := box_kept hg3 (box_kept hg2 (box_kept hg1 HB0.out (by omega)) (by omega)) (by omega); have c32 := cell_at HB3 2; have c30 := cell_at HB3 0; have hB3 := ((hB0.grown hg1 (by simp; omega) (fun k hk => by injection hk with hk; omega)).grown hg2 (by have := hg1.size; simp at this; omega) (fun k hk => by injection hk with hk; omega)).grown hg3 (by have := hg1.size; have := hg2.size; simp at *; omega) (fun k hk => by injection hk with hk; omega); replace HB3 := Lib.hid HB3; have c4 := (hB3.cell (p := ⟨b, o + 4, none⟩) hb).trans H4.out)
      | (refine wpList_insert_own _ rfl (.tmp 16) (.const (.int .i64 13)) (.const (.int .i64 4)) 32 rfl 3 3 lawI Tryd.underlying32 _ _ _ _ rfl hm1 (by decide) _ _ _ rfl rfl (keyI 13 (by decide)) _ [] (plainElem_int Tryd.underlying3 (by decide)) ?_; intro w2 hm2 hg2)
      | (refine wpList_insert_own _ rfl (.tmp 16) (.const (.int .i64 1)) (.const (.int .i64 4)) 32 rfl 3 3 lawI Tryd.underlying32 _ _ _ _ rfl HM.out (by decide) _ _ _ rfl rfl (keyI 1 (by decide)) _ [] (plainElem_int Tryd.underlying3 (by decide)) ?_; intro w1 hm1 hg1))
      go_ret
      exact ⟨by simp, hB3⟩

theorem pair0 (n : Int) : pairAt does0 n = if 14 = n then some 4 else if 13 = n then some 4 else if 1 = n then some 4 else none := by simp [does0, pairAt_cons, pairAt_nil]
theorem ofN_else (n : Int) (b : Bool) (s : Option Int) (h : n < 16) (c0 : ¬ n = 0) (c2 : ¬ n = 2) (c7 : ¬ n = 7) (c1 : ¬ n = 1) (c13 : ¬ n = 13) (c14 : ¬ n = 14) : ofN n b s = 5 := by
  unfold ofN
  rw [if_neg (by omega), if_neg (by omega), if_neg (by omega), if_neg (by omega), if_neg (by omega)]
theorem pair_none {l : List (Int × Int)} {n : Int} (h : pairAt l n = none) : saysN l n = 5 := by unfold saysN; rw [h]; rfl
theorem says_bot (n : Int) (s : Option Int) (h : n < 16) : saysN ((2, 2) :: (0, 1) :: does0) n = ofN n true s := by
  by_cases c0 : n = 0
  · subst c0
    rfl
  by_cases c2 : n = 2
  · subst c2
    rfl
  by_cases c7 : n = 7
  · subst c7
    rfl
  by_cases c1 : n = 1
  · subst c1
    rfl
  by_cases c13 : n = 13
  · subst c13
    rfl
  by_cases c14 : n = 14
  · subst c14
    rfl
  rw [ofN_else n true s h c0 c2 c7 c1 c13 c14]
  refine pair_none ?_
  rw [pairAt_cons, pairAt_cons, pair0, if_neg (by omega), if_neg (by omega), if_neg (by omega), if_neg (by omega), if_neg (by omega)]
theorem says_one (n : Int) (h : n < 16) : saysN does0 n = ofN n false none := by
  by_cases c0 : n = 0
  · subst c0
    rfl
  by_cases c2 : n = 2
  · subst c2
    rfl
  by_cases c7 : n = 7
  · subst c7
    rfl
  by_cases c1 : n = 1
  · subst c1
    rfl
  by_cases c13 : n = 13
  · subst c13
    rfl
  by_cases c14 : n = 14
  · subst c14
    rfl
  rw [ofN_else n false none h c0 c2 c7 c1 c13 c14]
  refine pair_none ?_
  rw [pair0, if_neg (by omega), if_neg (by omega), if_neg (by omega)]
theorem says_two (n m : Int) (h : n < 16) : saysN (if isB m = true then does0 else (7, 3) :: does0) n = ofN n false (some m) := by
  by_cases c0 : n = 0
  · subst c0
    cases hb : isB m <;> simp [ofN, hb] <;> rfl
  by_cases c2 : n = 2
  · subst c2
    cases hb : isB m <;> simp [ofN, hb] <;> rfl
  by_cases c7 : n = 7
  · subst c7
    cases hb : isB m <;> simp [ofN, hb] <;> rfl
  by_cases c1 : n = 1
  · subst c1
    cases hb : isB m <;> simp [ofN, hb] <;> rfl
  by_cases c13 : n = 13
  · subst c13
    cases hb : isB m <;> simp [ofN, hb] <;> rfl
  by_cases c14 : n = 14
  · subst c14
    cases hb : isB m <;> simp [ofN, hb] <;> rfl
  rw [ofN_else n false (some m) h c0 c2 c7 c1 c13 c14]
  refine pair_none ?_
  split
  · rw [pair0, if_neg (by omega), if_neg (by omega), if_neg (by omega)]
  · rw [pairAt_cons, pair0, if_neg (by omega), if_neg (by omega), if_neg (by omega), if_neg (by omega)]

theorem of_any (A : Option Addr) (len cap : Nat) (l : List Ent) (w : World) (hr : Row w w.heap.size 4 A len (evs l)) (hm : len ≤ 1099511627776) (hl : ∀ x ∈ l, (Lit.int .i64 x.label).wf = true) :
    Calls Tryd.prog 6 #[.slice A len cap] w fun e w' => e = .returned (.int .i64 (ofF l)) ∧ Below w.heap.size w w' := by
  have hlen := ent_len hr
  rcases l with _ | ⟨x, r⟩
  · obtain rfl : len = 0 := hlen.symm
    refine (of_nil A cap w).mono ?_
    rintro e w' ⟨rfl, rfl⟩
    exact ⟨rfl, Below.refl _ _⟩
  · obtain ⟨b, o, rfl, hb, a0, a1, a2, a3⟩ := ent_row hr 0 x rfl
    simp only [Nat.zero_mul, Nat.add_zero] at a0 a1 a2 a3
    have hw := hl x (by simp)
    simp only [List.length_cons] at hlen
    by_cases h16 : 16 ≤ x.label
    · refine (of_look b o len cap x.label x.cls x.ttl x.bot w (by omega) hm a0 a1 a2 a3 h16).mono ?_
      rintro e w' ⟨rfl, hb⟩
      refine ⟨ret_int ?_, hb⟩
      simp only [ofF, ofN]
      rw [if_pos h16]
    · have h16' : x.label < 16 := by omega
      obtain ⟨n, k, bot, t⟩ := x
      simp only at *
      cases bot
      · rcases r with _ | ⟨y, r⟩
        · obtain rfl : len = 1 := by simpa using hlen.symm
          refine (of_one b o cap n k t w a0 a1 a2 a3 h16' hw).mono ?_
          rintro e w' ⟨rfl, hb⟩
          exact ⟨ret_int (says_one n h16'), hb⟩
        · obtain ⟨b', o', hA, _, a4, _⟩ := ent_row hr 1 y rfl
          cases hA
          simp only [Nat.one_mul] at a4
          simp only [List.length_cons] at hlen
          refine (of_two b o len cap n k t y.label w hb (by omega) hm a0 a1 a2 a3 a4 h16' hw).mono ?_
          rintro e w' ⟨rfl, hb⟩
          exact ⟨ret_int (says_two n _ h16'), hb⟩
      · refine (of_bot b o len cap n k t w (by omega) hm a0 a1 a2 a3 h16' hw).mono ?_
        rintro e w' ⟨rfl, hb⟩
        exact ⟨ret_int (says_bot n _ h16'), hb⟩

theorem rof_nil (A : Option Addr) (c : Nat) (w : World) : Calls Tryd.prog 7 #[.slice A 0 c] w fun e w' => e = .returned (.int .i64 5) ∧ w = w' := by
  go_enter Tryd.func7, Tryd.ntmps7
  go_wp2
  go_ret
  exact ⟨rfl, rfl⟩

set_option maxHeartbeats 2000000 in
theorem rof_look (b o len cap : Nat) (n : Int) (w : World) (hl : 0 < len) (hm : len ≤ 1099511627776)
    (a0 : w.cell? ⟨b, o, none⟩ = some (.int .i64 n)) (h : 16 ≤ n) :
    Calls Tryd.prog 7 #[.slice (some ⟨b, o, none⟩) len cap] w fun e w' => e = .returned (.int .i64 0) ∧ w = w' := by
  go_enter Tryd.func7, Tryd.ntmps7
  go_wp2
  go_ret
  exact ⟨rfl, rfl⟩

set_option maxHeartbeats 4000000 in
theorem rof_not7 (b o len cap : Nat) (n : Int) (bot : Bool) (w : World) (hl : 0 < len) (hm : len ≤ 1099511627776)
    (a0 : w.cell? ⟨b, o, none⟩ = some (.int .i64 n)) (a2 : w.cell? ⟨b, o + 2, none⟩ = some (.bool bot)) (h : n < 16) (h7 : ¬ (n = 7 ∧ bot = false)) (s : Option Int) :
    Calls Tryd.prog 7 #[.slice (some ⟨b, o, none⟩) len cap] w fun e w' => e = .returned (.int .i64 (ofN n bot s)) ∧ w = w' := by
  by_cases c0 : n = 0
  · subst c0
    cases bot <;>
    · go_enter Tryd.func7, Tryd.ntmps7
      go_wp2
      go_ret
      exact ⟨rfl, rfl⟩
  by_cases c2 : n = 2
  · subst c2
    cases bot <;>
    · go_enter Tryd.func7, Tryd.ntmps7
      go_wp2
      go_ret
      exact ⟨rfl, rfl⟩
  by_cases c7 : n = 7
  · subst c7
    obtain rfl : bot = true := by cases bot <;> simp at h7 ⊢
    clear h7
    go_enter Tryd.func7, Tryd.ntmps7
    go_wp2
    go_ret
    exact ⟨rfl, rfl⟩
  by_cases c1 : n = 1
  · subst c1
    clear h7
    go_enter Tryd.func7, Tryd.ntmps7
    go_wp2
    go_ret
    exact ⟨rfl, rfl⟩
  by_cases c13 : n = 13
  · subst c13
    clear h7
    go_enter Tryd.func7, Tryd.ntmps7
    go_wp2
    go_ret
    exact ⟨rfl, rfl⟩
  by_cases c14 : n = 14
  · subst c14
    clear h7
    go_enter Tryd.func7, Tryd.ntmps7
    go_wp2
    go_ret
    exact ⟨rfl, rfl⟩
  have hres : ofN n bot s = 5 := by
    unfold ofN
    rw [if_neg (by omega), if_neg (by omega), if_neg (by omega), if_neg (by omega), if_neg (by omega)]
  have e0 : (n == 0) = false := by simpa using c0
  have e2 : (n == 2) = false := by simpa using c2
  have e7 : (n == 7) = false := by simpa using c7
  have e1 : (n == 1) = false := by simpa using c1
  have e13 : (n == 13) = false := by simpa using c13
  have e14 : (n == 14) = false := by simpa using c14
  rw [hres]
  clear h7 c0 c2 c7 c1 c13 c14 hres
  go_enter Tryd.func7, Tryd.ntmps7
  go_wp2
  go_ret
  exact ⟨rfl, rfl⟩

set_option maxHeartbeats 4000000 in
theorem rof_7one (b o cap : Nat) (w : World) (a0 : w.cell? ⟨b, o, none⟩ = some (.int .i64 7)) (a2 : w.cell? ⟨b, o + 2, none⟩ = some (.bool false)) :
    Calls Tryd.prog 7 #[.slice (some ⟨b, o, none⟩) 1 cap] w fun e w' => e = .returned (.int .i64 5) ∧ w = w' := by
  go_enter Tryd.func7, Tryd.ntmps7
  go_wp2
  go_ret
  exact ⟨rfl, rfl⟩

set_option maxHeartbeats 4000000 in
theorem rof_7two (b o len cap : Nat) (m : Int) (w : World) (hl : 1 < len) (hm : len ≤ 1099511627776) (a0 : w.cell? ⟨b, o, none⟩ = some (.int .i64 7)) (a2 : w.cell? ⟨b, o + 2, none⟩ = some (.bool false)) (a4 : w.cell? ⟨b, o + 4, none⟩ = some (.int .i64 m)) :
    Calls Tryd.prog 7 #[.slice (some ⟨b, o, none⟩) len cap] w fun e w' => e = .returned (.int .i64 (if isB m = true then 5 else 3)) ∧ w = w' := by
  have hl' : (1 : Int) < (len : Int) := by omega
  have hl0 : 0 < len := by omega
  cases hb : isB m
  all_goals
    replace hb := Lib.hid hb
    go_enter Tryd.func7, Tryd.ntmps7
    go_wp2_with (refine (ris_any m _).mono ?_; rintro e w' ⟨rfl, rfl⟩; rw [hb.out])
    go_ret
    exact ⟨rfl, rfl⟩

theorem rof_any (A : Option Addr) (len cap : Nat) (l : List Ent) (w : World) (hr : Row w w.heap.size 4 A len (evs l)) (hm : len ≤ 1099511627776) :
    Calls Tryd.prog 7 #[.slice A len cap] w fun e w' => e = .returned (.int .i64 (ofF l)) ∧ w = w' := by
  have hlen := ent_len hr
  rcases l with _ | ⟨x, r⟩
  · obtain rfl : len = 0 := hlen.symm
    exact rof_nil A cap w
  · obtain ⟨b, o, rfl, hb, a0, a1, a2, a3⟩ := ent_row hr 0 x rfl
    simp only [Nat.zero_mul, Nat.add_zero] at a0 a1 a2 a3
    simp only [List.length_cons] at hlen
    obtain ⟨n, k, bot, t⟩ := x
    simp only at *
    by_cases h16 : 16 ≤ n
    · refine (rof_look b o len cap n w (by omega) hm a0 h16).mono ?_
      rintro e w' ⟨rfl, rfl⟩
      refine ⟨ret_int ?_, rfl⟩
      simp only [ofF, ofN]
      rw [if_pos h16]
    · by_cases h7 : n = 7 ∧ bot = false
      · obtain ⟨rfl, rfl⟩ := h7
        rcases r with _ | ⟨y, r⟩
        · obtain rfl : len = 1 := by simpa using hlen.symm
          exact rof_7one b o cap w a0 a2
        · obtain ⟨b', o', hA, _, a4, _⟩ := ent_row hr 1 y rfl
          cases hA
          simp only [Nat.one_mul] at a4
          simp only [List.length_cons] at hlen
          refine (rof_7two b o len cap y.label w (by omega) hm a0 a2 a4).mono ?_
          rintro e w' ⟨rfl, rfl⟩
          refine ⟨ret_int ?_, rfl⟩
          simp only [ofF, ofN, List.head?_cons, Option.map_some]
          cases isB y.label <;> simp
      · exact rof_not7 b o len cap n bot w (by omega) hm a0 a2 (by omega) h7 _
end Go.Proofs.YtfpieennbgmdhaaDoor

/- What the small functions of hops compute: which labels can be pushed, and a hop's word. No condition but sizes. -/
import Derived.Test.YtmpaockaeoknmaaOpen
import Derived.Test.YtmpaockaeoknmaaCom
namespace Go.Proofs.Ytmpaockaeoknmaa
open Go.RowKit
set_option linter.unusedVariables false
set_option maxRecDepth 20000
set_option linter.unusedSimpArgs false

def pushB (n : Int) : Bool := (n == 0) || ((n == 2) || (decide (16 ≤ n) && decide (n ≤ 1048575)))
set_option maxHeartbeats 1000000 in
theorem pushed_any (n : Int) (w : World) : Calls Try.prog 44 #[.int .i64 n] w fun e w' => e = .returned (.bool (pushB n)) ∧ w = w' := by
  have hcase : n = 0 ∨ ((n == 0) = false ∧ n = 2) ∨ ((n == 0) = false ∧ (n == 2) = false ∧ ¬ 16 ≤ n) ∨ ((n == 0) = false ∧ (n == 2) = false ∧ 16 ≤ n ∧ ¬ n ≤ 1048575) ∨ ((n == 0) = false ∧ (n == 2) = false ∧ 16 ≤ n ∧ n ≤ 1048575) := by
    simp only [beq_eq_false_iff_ne]
    omega
  have HD := Lib.hid (show pushB n = ((n == 0) || ((n == 2) || (decide (16 ≤ n) && decide (n ≤ 1048575)))) from rfl)
  rcases hcase with h1 | ⟨h1, h2⟩ | ⟨h1, h2, h3⟩ | ⟨h1, h2, h3, h4⟩ | ⟨h1, h2, h3, h4⟩
  all_goals
    go_enter Try.func44, Try.ntmps44
    go_wp2_with fail
    go_ret
    exact ⟨by rw [HD.out]; first | (simp [*]; done) | (simp_all; done) | (simp [*]; omega), rfl⟩
set_option maxHeartbeats 1000000 in
theorem unpushed1_any (n : Int) (w : World) : Calls Try.prog 43 #[.int .i64 n] w fun e w' => e = .returned (.bool (!pushB n)) ∧ w = w' := by
  obtain ⟨b, hb⟩ : ∃ b, pushB n = b := ⟨_, rfl⟩
  have HP := Lib.hid hb
  clear hb
  go_enter Try.func43, Try.ntmps43
  go_wp2_with fail
  refine (pushed_any n w).mono ?_
  rintro e w' ⟨rfl, rfl⟩
  rw [HP.out]
  go_wp2_with fail
  go_ret
  exact ⟨by rw [HP.out]; rfl, rfl⟩
def idxP : List Int → Int → Int
  | [], _ => -1
  | n :: t, k => if pushB n then idxP t (k + 1) else k
theorem idxP_all (l : List Int) (k : Int) (hk : 0 ≤ k) : decide (0 ≤ idxP l k) = !l.all pushB := by
  induction l generalizing k with
  | nil => rfl
  | cons n t ih =>
    unfold idxP
    cases h : pushB n
    · simp [hk, h]
    · rw [if_pos rfl, ih (k + 1) (by omega)]; simp [h]
set_option maxHeartbeats 1000000 in
theorem indexP_any (A : Option Addr) (n c : Nat) (l : List Int) (w : World) (hr : Row w w.heap.size 1 A n (nv .i64 l)) (hn : n ≤ 1099511627776) :
    Calls Try.prog 47 #[.slice A n c, .func (.func 43) #[] #[]] w fun e w' => e = .returned (.int .i64 (idxP l 0)) ∧ w = w' := by
  have hlen : l.length = n := by have := hr.1; rw [nv_length] at this; omega
  have HR := Lib.hid hr
  clear hr
  go_enter Try.func47, Try.ntmps47
  go_wp2_with fail
  go_loop [5, 8] (fun _ x => ∃ k : Nat, k ≤ n ∧ x = .int .i64 k ∧ idxP l 0 = idxP (l.drop k) k) (fun _ x => n - (intOf x).toNat)
  case atStart => exact ⟨0, by omega, rfl, rfl⟩
  case round =>
    obtain ⟨k, hk, rfl, hi⟩ := hrel
    have HI := Lib.hid hi
    clear hi
    by_cases hlt : k < n
    · obtain ⟨x, hx⟩ := get_ex l (k := k) (by omega)
      obtain ⟨b, o, rfl, hb, hcell⟩ := HR.out.2 (by omega)
      have hc := hcell k _ (nv_get .i64 l k x hx)
      have HD := Lib.hid (List.drop_eq_getElem?_toList_append (l := l) (i := k))
      have HX := Lib.hid hx
      clear hx hcell
      obtain ⟨p, hp⟩ : ∃ p, pushB x = p := ⟨_, rfl⟩
      have HP := Lib.hid hp
      clear hp
      go_wp2_with fail
      refine (unpushed1_any x w).mono ?_
      rintro e w' ⟨rfl, rfl⟩
      rw [HP.out]
      cases p
      · go_wp2
        go_ret
        refine ⟨ret_int ?_, rfl⟩
        rw [HI.out, HD.out, HX.out]
        simp only [Option.toList_some, List.cons_append, List.nil_append]
        unfold idxP
        rw [if_neg (by rw [HP.out]; simp)]
      · go_wp2
        go_round
        case rel =>
          refine ⟨k + 1, by omega, by simp, ?_⟩
          rw [HI.out, HD.out, HX.out]
          simp only [Option.toList_some, List.cons_append, List.nil_append]
          conv => lhs; unfold idxP
          rw [if_pos HP.out]
          rfl
        case measure => simp [intOf]; omega
    · obtain rfl : k = n := by omega
      go_wp2
      go_ret
      refine ⟨ret_int ?_, rfl⟩
      rw [HI.out, List.drop_of_length_le (by omega)]
      rfl
set_option maxHeartbeats 1000000 in
theorem containsP_any (A : Option Addr) (n c : Nat) (l : List Int) (w : World) (hr : Row w w.heap.size 1 A n (nv .i64 l)) (hn : n ≤ 1099511627776) :
    Calls Try.prog 42 #[.slice A n c, .func (.func 43) #[] #[]] w fun e w' => e = .returned (.bool (!l.all pushB)) ∧ w = w' := by
  have HR := Lib.hid hr
  have HI := Lib.hid (idxP_all l 0 (by omega))
  clear hr
  go_enter Try.func42, Try.ntmps42
  go_wp2_with fail
  refine (indexP_any A n c l w HR.out hn).mono ?_
  rintro e w' ⟨rfl, rfl⟩
  generalize idxP l 0 = r at HI ⊢
  go_wp2
  go_ret
  exact ⟨ret_bool (by rw [← HI.out]), rfl⟩
set_option maxHeartbeats 1000000 in
theorem unpushed_any (A : Option Addr) (n c : Nat) (l : List Int) (w : World) (hr : Row w w.heap.size 1 A n (nv .i64 l)) (hn : n ≤ 1099511627776) :
    Calls Try.prog 38 #[.slice A n c] w fun e w' => e = .returned (.bool (!l.all pushB)) ∧ w = w' := by
  have P := containsP_any A n c l w hr hn
  obtain ⟨r, hrr⟩ : ∃ r, l.all pushB = r := ⟨_, rfl⟩
  rw [hrr] at P ⊢
  have HP := Lib.hid P
  clear hr P hrr
  go_enter Try.func38, Try.ntmps38
  go_wp2_with fail
  refine HP.out.mono ?_
  rintro e w' ⟨rfl, rfl⟩
  go_wp2
  go_ret
  exact ⟨rfl, rfl⟩
def opW (n : Int) : List UInt8 := if n = 0 then [112, 117, 115, 104] else if n = 1 then [115, 119, 97, 112] else if n = 2 then [112, 111, 112] else if n = 3 then [104, 101, 114, 101] else []
set_option maxHeartbeats 1000000 in
theorem op_any (n : Int) (w : World) : Calls Try.prog 37 #[.int .i64 n] w fun e w' => e = .returned (str (opW n)) ∧ Below w.heap.size w w' := by
  rcases (show n = 0 ∨ n = 1 ∨ n = 2 ∨ n = 3 ∨ n < 0 ∨ (¬ n < 0 ∧ 4 ≤ n) by omega) with rfl | rfl | rfl | rfl | h1 | ⟨h1, h2⟩
  all_goals
    first
    | (have HD : Hid (opW n = []) := Lib.hid (by unfold opW; rw [if_neg (by omega), if_neg (by omega), if_neg (by omega), if_neg (by omega)])
       go_enter Try.func37, Try.ntmps37
       go_wp2_with fail
       go_ret
       exact ⟨by rw [HD.out]; rfl, by first | exact (Below.refl _ _).alloc (Nat.le_refl _) _ | trace_state⟩)
    | (go_enter Try.func37, Try.ntmps37
       go_wp2_with fail
       go_ret
       exact ⟨rfl, by first | exact (Below.refl _ _).alloc (Nat.le_refl _) _ | trace_state⟩)
end Go.Proofs.Ytmpaockaeoknmaa

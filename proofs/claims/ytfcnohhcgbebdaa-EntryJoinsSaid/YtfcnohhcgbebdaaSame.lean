/- What entry.Same and the reference's Same compute. No condition but sizes. -/
import Derived.Test.YtfcnohhcgbebdaaStackF
namespace Go.Proofs.Ytfcnohhcgbebdaa
open Go.RowKit
set_option linter.unusedVariables false
set_option linter.unusedSimpArgs false

def sameE (x y : Ent) : Bool := x.label == y.label && (x.cls == y.cls && x.ttl == y.ttl)
def sameF : List Ent → List Ent → Bool
  | [], [] => true
  | x :: a, y :: b => sameE x y && sameF a b
  | _, _ => false
theorem sameF_len (a b : List Ent) (h : sameF a b = true) : a.length = b.length := by
  induction a generalizing b with
  | nil => cases b <;> simp_all [sameF]
  | cons x a ih => cases b with
    | nil => simp [sameF] at h
    | cons y b => simp only [sameF, Bool.and_eq_true] at h; simp [ih b h.2]
theorem sameF_ne (a b : List Ent) (h : a.length ≠ b.length) : sameF a b = false := by
  cases hs : sameF a b
  · rfl
  · exact absurd (sameF_len a b hs) h
theorem sameF_drop (a b : List Ent) (k : Nat) (x y : Ent) (hx : a[k]? = some x) (hy : b[k]? = some y) : sameF (a.drop k) (b.drop k) = (sameE x y && sameF (a.drop (k + 1)) (b.drop (k + 1))) := by
  obtain ⟨h1, e1⟩ := List.getElem?_eq_some_iff.1 hx
  obtain ⟨h2, e2⟩ := List.getElem?_eq_some_iff.1 hy
  rw [List.drop_eq_getElem_cons h1, List.drop_eq_getElem_cons h2, e1, e2, sameF]

set_option maxHeartbeats 1000000 in
theorem same1_any (x y : Ent) (w : World) :
    Calls Try.prog 26 #[.agg #[.int .i64 x.label, .int .u8 x.cls, .bool x.bot, .int .u8 x.ttl], .agg #[.int .i64 y.label, .int .u8 y.cls, .bool y.bot, .int .u8 y.ttl]] w fun e w' => e = .returned (.bool (sameE x y)) ∧ Below w.heap.size w w' := by
  go_enter Try.func26, Try.ntmps26
  go_wp2_with fail
  all_goals go_ret
  all_goals refine ⟨by simp_all [sameE], ((Below.refl _ w).alloc (Nat.le_refl _) _).alloc (by simp) _⟩

set_option maxHeartbeats 1000000 in
theorem equal_any (A A2 : Option Addr) (n n2 c c2 : Nat) (l l2 : List Ent) (w : World) (h1 : Row w w.heap.size 4 A n (evs l)) (h2 : Row w w.heap.size 4 A2 n2 (evs l2)) (hn : n ≤ 1099511627776) (hn2 : n2 ≤ 1099511627776) :
    Calls Try.prog 25 #[.slice A n c, .slice A2 n2 c2, .func (.func 26) #[] #[]] w fun e w' => e = .returned (.bool (sameF l l2)) ∧ Below w.heap.size w w' := by
  have hl1 := ent_len h1
  have hl2 := ent_len h2
  by_cases hne : n = n2
  · subst hne
    have HR1 := Lib.hid h1
    have HR2 := Lib.hid h2
    have HL1 := Lib.hid hl1
    have HL2 := Lib.hid hl2
    clear h1 h2 hl1 hl2
    go_enter Try.func25, Try.ntmps25
    go_wp2_with fail
    go_loopw [17] (fun i wr => ∃ (k : Nat), k ≤ n ∧ i = .int .i64 k ∧ sameF l l2 = sameF (l.drop k) (l2.drop k) ∧ Below w.heap.size w wr) (fun i _ => n - (intOf i).toNat)
    case atStart => exact ⟨0, by omega, rfl, rfl, Below.refl _ _⟩
    case round =>
      obtain ⟨k, hk, rfl, hs, hb⟩ := hrel
      by_cases hlt : k < n
      · obtain ⟨x, hx⟩ : ∃ x, l[k]? = some x := ⟨_, List.getElem?_eq_getElem (by have := HL1.out; omega)⟩
        obtain ⟨y, hy⟩ : ∃ y, l2[k]? = some y := ⟨_, List.getElem?_eq_getElem (by have := HL2.out; omega)⟩
        rw [sameF_drop l l2 k x y hx hy] at hs
        have HS := Lib.hid hs
        obtain ⟨b, o, rfl, hb1, a0, a1, a2, a3⟩ := ent_row (HR1.out.below hb) k x hx
        obtain ⟨b2, o2, rfl, hb2, b0, b1, b2', b3⟩ := ent_row (HR2.out.below hb) k y hy
        have hsz := hb.size
        have HB := Lib.hid hb
        have hlt1 : b < wr.heap.size := by omega
        have hlt2 : b2 < wr.heap.size := by omega
        clear hs hx hy hb
        go_wp2_with fail
        refine (same1_any x y _).mono ?_
        rintro e w2 ⟨rfl, hb2⟩
        have hB2 := HB.out.trans ((ballocd (ballocd hb2)).mono hsz)
        clear a0 a1 a2 a3 b0 b1 b2' b3 hb2
        cases hse : sameE x y
        · rw [hse] at HS
          go_wp2
          go_ret
          rw [HS.out]
          exact ⟨rfl, hB2⟩
        · rw [hse] at HS
          go_wp2_with fail
          go_roundw
          case rel => exact ⟨k + 1, by omega, by simp, by rw [HS.out]; rfl, hB2⟩
          case measure => simp [intOf]; omega
      · have : k = n := by omega
        subst this
        have HS := Lib.hid hs
        clear hs
        go_wp2
        go_ret
        have e1 : l.drop k = [] := List.drop_of_length_le (by have := HL1.out; omega)
        have e2 : l2.drop k = [] := List.drop_of_length_le (by have := HL2.out; omega)
        rw [HS.out, e1, e2]
        exact ⟨rfl, hb⟩
  · have hni : ¬ (n : Int) = (n2 : Int) := by omega
    go_enter Try.func25, Try.ntmps25
    go_wp2
    go_ret
    rw [sameF_ne l l2 (by omega)]
    exact ⟨rfl, Below.refl _ _⟩
theorem same_any (A A2 : Option Addr) (n n2 c c2 : Nat) (l l2 : List Ent) (w : World) (h1 : Row w w.heap.size 4 A n (evs l)) (h2 : Row w w.heap.size 4 A2 n2 (evs l2)) (hn : n ≤ 1099511627776) (hn2 : n2 ≤ 1099511627776) :
    Calls Try.prog 18 #[.slice A n c, .slice A2 n2 c2] w fun e w' => e = .returned (.bool (sameF l l2)) ∧ Below w.heap.size w w' := by
  go_enter Try.func18, Try.ntmps18
  go_wp2_with fail
  refine (equal_any A A2 n n2 c c2 l l2 w h1 h2 hn hn2).mono ?_
  rintro e w1 ⟨rfl, hb⟩
  go_wp2
  go_ret
  exact ⟨rfl, hb⟩

end Go.Proofs.Ytfcnohhcgbebdaa

/- Entries of a label stack as cells, and footplateref03.Exact. No condition but sizes. -/
import Derived.Test.YtbabkcdhihmomaaBase
import Derived.BigQuiet
import Derived.Deep.QuietTactic
namespace Go.Proofs.Ytbabkcdhihmomaa
open Go.RowKit
set_option linter.unusedVariables false
set_option maxRecDepth 20000

/-- an entry of a label stack -/
structure Ent where
  label : Int
  cls : Int
  bot : Bool
  ttl : Int
def Ent.cells (e : Ent) : List Value := [.int .i64 e.label, .int .u8 e.cls, .bool e.bot, .int .u8 e.ttl]
def evs (l : List Ent) : List Value := l.flatMap Ent.cells
theorem evs_length (l : List Ent) : (evs l).length = l.length * 4 := by
  induction l with
  | nil => rfl
  | cons e l ih =>
    have h : evs (e :: l) = e.cells ++ evs l := rfl
    rw [h, List.length_append, ih, List.length_cons, Nat.succ_mul]
    simp [Ent.cells]
    omega
theorem evs_append (a b : List Ent) : evs (a ++ b) = evs a ++ evs b := by simp [evs]
theorem evs_one (l : List Ent) : ∀ u ∈ evs l, u.oneCell' = true := by
  intro u hu
  obtain ⟨e, _, he⟩ := List.mem_flatMap.1 hu
  simp [Ent.cells] at he
  rcases he with rfl | rfl | rfl | rfl <;> rfl

theorem infoEntry : (Try.prog.info? 54).map (fun i => (i.zero, i.size, i.bytes)) = some (some (.agg #[.int .i64 0, .int .u8 0, .bool false, .int .u8 0]), 4, 16) := by kernel_rfl

theorem evs_cell (l : List Ent) (i : Nat) (x : Ent) (h : l[i]? = some x) (j : Nat) (hj : j < 4) : (evs l)[i * 4 + j]? = x.cells[j]? := by
  induction l generalizing i with
  | nil => simp at h
  | cons y l ih =>
    have e : evs (y :: l) = y.cells ++ evs l := rfl
    have hl : y.cells.length = 4 := rfl
    rw [e]
    cases i with
    | zero =>
      simp at h
      subst h
      rw [List.getElem?_append_left (by omega)]
      congr 1
      omega
    | succ i =>
      simp at h
      rw [List.getElem?_append_right (by omega), ← ih i h]
      congr 1
      omega
theorem ent_row {w : World} {B n : Nat} {A : Option Addr} {l : List Ent} (h : Row w B 4 A n (evs l)) (i : Nat) (x : Ent) (hi : l[i]? = some x) :
    ∃ b o, A = some ⟨b, o, none⟩ ∧ b < B ∧ w.cell? ⟨b, o + i * 4, none⟩ = some (.int .i64 x.label) ∧ w.cell? ⟨b, o + i * 4 + 1, none⟩ = some (.int .u8 x.cls) ∧ w.cell? ⟨b, o + i * 4 + 2, none⟩ = some (.bool x.bot) ∧ w.cell? ⟨b, o + i * 4 + 3, none⟩ = some (.int .u8 x.ttl) := by
  have hl : l.length = n := by have := h.1; rw [evs_length] at this; omega
  have hn : 0 < n := by
    obtain ⟨hi', _⟩ := List.getElem?_eq_some_iff.1 hi
    omega
  obtain ⟨b, o, rfl, hb, hc⟩ := h.2 hn
  refine ⟨b, o, rfl, hb, ?_, ?_, ?_, ?_⟩
  · exact hc (i * 4) _ (evs_cell l i x hi 0 (by omega))
  · exact hc (i * 4 + 1) _ (evs_cell l i x hi 1 (by omega))
  · exact hc (i * 4 + 2) _ (evs_cell l i x hi 2 (by omega))
  · exact hc (i * 4 + 3) _ (evs_cell l i x hi 3 (by omega))
theorem ent_len {w : World} {B n : Nat} {A : Option Addr} {l : List Ent} (h : Row w B 4 A n (evs l)) : l.length = n := by
  have := h.1; rw [evs_length] at this; omega

set_option maxHeartbeats 1000000 in
theorem exact_same (A A2 : Option Addr) (n c c2 : Nat) (l : List Ent) (w : World) (B : Nat) (h1 : Row w B 4 A n (evs l)) (h2 : Row w B 4 A2 n (evs l)) (hn : n ≤ 1099511627776) :
    Calls Try.prog 19 #[.slice A n c, .slice A2 n c2] w fun e w' => e = .returned (.bool true) ∧ Below w.heap.size w w' := by
  have HR1 := Lib.hid h1
  have HR2 := Lib.hid h2
  have HL := Lib.hid (ent_len h1)
  clear h1 h2
  go_enter Try.func19, Try.ntmps19
  go_wp2_with fail
  go_loopw [5] (fun i wr => ∃ (k : Nat), k ≤ n ∧ i = .int .i64 k ∧ ∃ d, wr = w.drewN d) (fun i _ => n - (intOf i).toNat)
  case atStart => exact ⟨0, by omega, rfl, 0, rfl⟩
  case round =>
    obtain ⟨k, hk, rfl, d, rfl⟩ := hrel
    by_cases hlt : k < n
    · obtain ⟨x, hx⟩ : ∃ x, l[k]? = some x := ⟨_, List.getElem?_eq_getElem (by have := HL.out; omega)⟩
      obtain ⟨b, o, rfl, hb, a0, a1, a2, a3⟩ := ent_row HR1.out k x hx
      obtain ⟨b2, o2, rfl, hb2, b0, b1, b2, b3⟩ := ent_row HR2.out k x hx
      go_wp2_with fail
      go_quiet (fail)
      clear a0 a1 a2 a3 b0 b1 b2 b3
      go_wp2_with fail
      go_roundw
      case rel => exact ⟨k + 1, by omega, by simp, d + nq, rfl⟩
      case measure => simp [intOf]; omega
    · have : k = n := by omega
      subst this
      go_wp2
      go_ret
      exact ⟨rfl, below_drewN (Below.refl _ _) d⟩
end Go.Proofs.Ytbabkcdhihmomaa

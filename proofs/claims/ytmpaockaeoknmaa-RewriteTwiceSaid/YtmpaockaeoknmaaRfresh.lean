/- What the reference's ttl.Fresh computes, and footplateref03.Exact. No condition but sizes. -/
import Derived.Test.YtmpaockaeoknmaaTtl
import Derived.Test.YtmpaockaeoknmaaOpen
namespace Go.Proofs.Ytmpaockaeoknmaa
open Go.RowKit Go.Shelf
set_option linter.unusedVariables false
set_option maxRecDepth 20000

theorem freshL_cons (c t z : Int) (l : List Int) : freshL c t (z :: l) = freshL c t l ++ [⟨z, c % 8, false, t⟩] := by simp [freshL]
theorem freshL_length (c t : Int) (l : List Int) : (freshL c t l).length = l.length := by simp [freshL]
theorem drop_get (zs : List Int) (q : Nat) (z : Int) (h : zs[q]? = some z) : zs.drop q = z :: zs.drop (q + 1) := by
  obtain ⟨hq, rfl⟩ := List.getElem?_eq_some_iff.1 h
  exact List.drop_eq_getElem_cons hq

set_option maxHeartbeats 1000000 in
theorem rfresh_any (A : Option Addr) (len cap : Nat) (zs : List Int) (c t : Int) (hlen : len ≤ 1048576) (hc0 : 0 ≤ c) (hc1 : c ≤ 255) (w : World) (hr : Row w w.heap.size 1 A len (nv .i64 zs)) :
    Calls Try.prog 29 #[.slice A len cap, .int .u8 c, .int .u8 t] w fun e w' => ∃ A' c', e = .returned (.slice A' len c') ∧ Own w' w.heap.size 46 4 A' len c' (evs (freshL c t zs)) ∧ Below w.heap.size w w' := by
  have hz : zs.length = len := by have := hr.1; rw [nv_length] at this; omega
  have HR := Lib.hid hr
  have HZ := Lib.hid hz
  clear hr hz
  go_enter Try.func29, Try.ntmps29
  go_wp2_with fail
  go_loopw [7, 8] (fun o i wr => ∃ (k j : Nat) (A2 : Option Addr) (c2 : Nat), k + j = len ∧ o = .slice A2 k c2 ∧ i = .int .i64 ((j : Int) - 1) ∧ Own wr w.heap.size 46 4 A2 k c2 (evs (freshL c t (zs.drop j))) ∧ Below w.heap.size w wr) (fun _ i _ => (intOf i + 1).toNat)
  case atStart =>
    refine ⟨0, len, none, 0, by omega, rfl, rfl, ?_, Below.refl _ _⟩
    rw [List.drop_of_length_le (by have := HZ.out; omega)]
    exact Own.nil _ _ _ _ _
  case round =>
    obtain ⟨k, j, A2, c2, hkj, rfl, rfl, hown, hb⟩ := hrel
    rcases j with _ | q
    · have hd : zs.drop 0 = zs := rfl
      rw [hd] at hown
      have hk : k = len := by omega
      subst hk
      clear hkj hd
      have HO := Lib.hid hown
      clear hown
      go_wp2_with fail
      go_ret
      exact ⟨A2, c2, rfl, HO.out, hb⟩
    · rw [show (((q + 1 : Nat) : Int) - 1) = (q : Int) from by omega]
      obtain ⟨z, hzq⟩ : ∃ z, zs[q]? = some z := ⟨_, List.getElem?_eq_getElem (by have := HZ.out; omega)⟩
      have hd := drop_get zs q z hzq
      obtain ⟨b, o, rfl, hbB, hcell⟩ := HR.out.2 (by omega)
      have hcr := (hb.cell (p := ⟨b, o + q, none⟩) hbB).trans (hcell q _ (nv_get _ _ _ _ hzq))
      have hbd : 0 ≤ c % 8 ∧ c % 8 ≤ 7 := by omega
      have HO := Lib.hid hown
      have HD := Lib.hid hd
      clear hown hd hcell
      go_wp2_with (at_builtin; refine wpList_append_Own _ rfl _ _ 22 rfl w.heap.size 46 _ 4 16 Try.underlying22 infoEntry rfl (by decide) _ _ _ _ rfl (HO.out.alloc _) _ _ _ _ (Ent.cells ⟨z, c % 8, false, t⟩) rfl (Row.new (e := 46) wr #[.int .i64 z, .int .u8 (c % 8), .bool false, .int .u8 t] rfl) (by simp [Ent.cells, Value.oneCell']) (by simp only [maxLen]; omega) (by omega) (by have := hb.size; simp; omega) ?_; intro A3 c3 w3 hown3 hg3 _)
      have hb3 : Below w.heap.size w w3 := hb.trans (((Below.refl w.heap.size wr).alloc hb.size _).grown hg3 (by have := hb.size; simp; omega) (fun g hg => (HO.out.lt g hg).1))
      go_roundw
      case rel =>
        refine ⟨k + 1, q, A3, c3, by omega, rfl, rfl, ?_, hb3⟩
        rw [HD.out, freshL_cons, evs_append]
        have e1 : evs [(⟨z, c % 8, false, t⟩ : Ent)] = Ent.cells ⟨z, c % 8, false, t⟩ := by simp [evs]
        rw [e1]
        exact hown3
      case measure => simp [intOf]

theorem evs_cell (l : List Ent) (i : Nat) (x : Ent) (h : l[i]? = some x) (j : Nat) (hj : j < 4) : (evs l)[i * 4 + j]? = x.cells[j]? := by
  induction l generalizing i with
  | nil => simp at h
  | cons y l ih =>
    have e : evs (y :: l) = y.cells ++ evs l := rfl
    have hl : y.cells.length = 4 := rfl
    rw [e]
    cases i with
    | zero =>
      simp at h
      subst h
      rw [List.getElem?_append_left (by omega)]
      congr 1
      omega
    | succ i =>
      simp at h
      rw [List.getElem?_append_right (by omega), ← ih i h]
      congr 1
      omega
theorem ent_row {w : World} {B n : Nat} {A : Option Addr} {l : List Ent} (h : Row w B 4 A n (evs l)) (i : Nat) (x : Ent) (hi : l[i]? = some x) :
    ∃ b o, A = some ⟨b, o, none⟩ ∧ b < B ∧ w.cell? ⟨b, o + i * 4, none⟩ = some (.int .i64 x.label) ∧ w.cell? ⟨b, o + i * 4 + 1, none⟩ = some (.int .u8 x.cls) ∧ w.cell? ⟨b, o + i * 4 + 2, none⟩ = some (.bool x.bot) ∧ w.cell? ⟨b, o + i * 4 + 3, none⟩ = some (.int .u8 x.ttl) := by
  have hl : l.length = n := by have := h.1; rw [evs_length] at this; omega
  have hn : 0 < n := by
    obtain ⟨hi', _⟩ := List.getElem?_eq_some_iff.1 hi
    omega
  obtain ⟨b, o, rfl, hb, hc⟩ := h.2 hn
  refine ⟨b, o, rfl, hb, ?_, ?_, ?_, ?_⟩
  · exact hc (i * 4) _ (evs_cell l i x hi 0 (by omega))
  · exact hc (i * 4 + 1) _ (evs_cell l i x hi 1 (by omega))
  · exact hc (i * 4 + 2) _ (evs_cell l i x hi 2 (by omega))
  · exact hc (i * 4 + 3) _ (evs_cell l i x hi 3 (by omega))
theorem ent_len {w : World} {B n : Nat} {A : Option Addr} {l : List Ent} (h : Row w B 4 A n (evs l)) : l.length = n := by
  have := h.1; rw [evs_length] at this; omega

set_option maxHeartbeats 1000000 in
theorem exact_same (A A2 : Option Addr) (n c c2 : Nat) (l : List Ent) (w : World) (B : Nat) (h1 : Row w B 4 A n (evs l)) (h2 : Row w B 4 A2 n (evs l)) (hn : n ≤ 1099511627776) :
    Calls Try.prog 12 #[.slice A n c, .slice A2 n c2] w fun e w' => e = .returned (.bool true) ∧ Below w.heap.size w w' := by
  have HR1 := Lib.hid h1
  have HR2 := Lib.hid h2
  have HL := Lib.hid (ent_len h1)
  clear h1 h2
  go_enter Try.func12, Try.ntmps12
  go_wp2_with fail
  go_loopw [5] (fun i wr => ∃ (k : Nat), k ≤ n ∧ i = .int .i64 k ∧ ∃ d, wr = w.drewN d) (fun i _ => n - (intOf i).toNat)
  case atStart => exact ⟨0, by omega, rfl, 0, rfl⟩
  case round =>
    obtain ⟨k, hk, rfl, d, rfl⟩ := hrel
    by_cases hlt : k < n
    · obtain ⟨x, hx⟩ : ∃ x, l[k]? = some x := ⟨_, List.getElem?_eq_getElem (by have := HL.out; omega)⟩
      obtain ⟨b, o, rfl, hb, a0, a1, a2, a3⟩ := ent_row HR1.out k x hx
      obtain ⟨b2, o2, rfl, hb2, b0, b1, b2, b3⟩ := ent_row HR2.out k x hx
      go_wp2_with fail
      go_quiet (fail)
      clear a0 a1 a2 a3 b0 b1 b2 b3
      go_wp2_with fail
      go_roundw
      case rel => exact ⟨k + 1, by omega, by simp, d + nq, rfl⟩
      case measure => simp [intOf]; omega
    · have : k = n := by omega
      subst this
      go_wp2
      go_ret
      exact ⟨rfl, below_drewN (Below.refl _ _) d⟩
end Go.Proofs.Ytmpaockaeoknmaa

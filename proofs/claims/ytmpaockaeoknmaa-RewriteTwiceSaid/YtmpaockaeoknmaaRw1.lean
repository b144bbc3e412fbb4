/- What the small functions of rewriting compute: clones and sums of rows of entries. No condition but sizes. -/
import Derived.Test.YtmpaockaeoknmaaRfresh
import Derived.Test.YtmpaockaeoknmaaConcat
import Derived.Test.YtmpaockaeoknmaaCom
import Derived.Lib.SliceRun
namespace Go.Proofs.Ytmpaockaeoknmaa
open Go.RowKit
set_option linter.unusedVariables false
set_option maxRecDepth 20000
set_option linter.unusedSimpArgs false

set_option maxHeartbeats 1000000 in
theorem clone_entries (A : Option Addr) (n c : Nat) (l : List Ent) (w : World) (h : Row w w.heap.size 4 A n (evs l)) (hn : n ≤ 1099511627776) :
    Calls Try.prog 30 #[.slice A n c] w fun e w' => ∃ A' c', e = .returned (.slice A' n c') ∧ Own w' w.heap.size 46 4 A' n c' (evs l) ∧ Below w.heap.size w w' := by
  rcases A with _ | a
  · have h0 : n = 0 := by
      rcases Nat.eq_zero_or_pos n with h0 | h0
      · exact h0
      · obtain ⟨b, o, hA, _⟩ := h.2 h0; cases hA
    subst h0
    have hl : evs l = [] := List.eq_nil_of_length_eq_zero (by simpa using h.1)
    rw [hl]
    clear hl h
    have he := fun W => Lib.run_eql_slice_nil (P := Try.prog) W 22 46 none 0 c 0 0 Try.underlying22
    go_enter Try.func30, Try.ntmps30
    go_wp2
    go_ret
    exact ⟨none, 0, rfl, Own.nil _ _ _ _ _, Below.refl _ _⟩
  · have he := fun W => Lib.run_eql_slice_nil (P := Try.prog) W 22 46 (some a) n c 0 0 Try.underlying22
    go_enter Try.func30, Try.ntmps30
    go_wp2_with (at_builtin; refine wpList_append_Own _ rfl _ _ 22 rfl w.heap.size 46 _ 4 16 Try.underlying22 infoEntry rfl (by decide) _ 0 0 [] rfl (Own.nil _ _ _ _ _) w.heap.size (some a) n c (evs l) rfl (h.below ((Below.refl _ _).alloc (Nat.le_refl _) _)) (evs_one _) (by simp only [maxLen]; omega) (by omega) (by simp) ?_; intro A' c' w' hown hg hA')
    go_ret
    simp only [Nat.zero_add, List.nil_append] at hown
    exact ⟨A', c', by simp, hown, ((Below.refl _ _).alloc (Nat.le_refl _) _).grown hg (by simp) (by simp [blk])⟩

set_option maxHeartbeats 1000000 in
theorem on_any (A A2 : Option Addr) (n c n2 c2 : Nat) (l l2 : List Ent) (w : World) (h : Row w w.heap.size 4 A n (evs l)) (h2 : Row w w.heap.size 4 A2 n2 (evs l2)) (hn : n ≤ 1099511627) (hn2 : n2 ≤ 1099511627) :
    Calls Try.prog 28 #[.slice A n c, .slice A2 n2 c2] w fun e w' => ∃ A' c', e = .returned (.slice A' (n + n2) c') ∧ Own w' w.heap.size 46 4 A' (n + n2) c' (evs (l ++ l2)) ∧ Below w.heap.size w w' := by
  have HR := Lib.hid h
  have HR2 := Lib.hid h2
  clear h h2
  go_enter Try.func28, Try.ntmps28
  go_wp2_with (first
    | (at_builtin; refine wpList_append_Own _ rfl _ _ 22 rfl w.heap.size 46 _ 4 16 Try.underlying22 infoEntry rfl (by decide) _ 0 0 [] rfl (Own.nil _ _ _ _ _) w.heap.size A n c (evs l) rfl HR.out (evs_one _) (by simp only [maxLen]; omega) (by omega) (by simp) ?_; intro A1 c1 w1 hown1 hg1 hA1; have hb1 : Below w.heap.size w w1 := (Below.refl _ _).grown hg1 (Nat.le_refl _) (by simp [blk]); simp only [Nat.zero_add, List.nil_append] at hown1; have HO1 := Lib.hid hown1; clear hown1 hg1 hA1)
    | (at_builtin; refine wpList_append_Own _ rfl _ _ 22 rfl w.heap.size 46 _ 4 16 Try.underlying22 infoEntry rfl (by decide) A1 n c1 (evs l) rfl HO1.out w.heap.size A2 n2 c2 (evs l2) rfl (HR2.out.below hb1) (evs_one _) (by simp only [maxLen]; omega) (by omega) hb1.size ?_; intro A3 c3 w3 hown3 hg3 hA3))
  go_ret
  refine ⟨A3, c3, rfl, by rw [evs_append]; exact hown3, below_grown hb1 hg3 hb1.size ?_⟩
  intro k hk
  exact (HO1.out.lt k hk).1

structure Es where
  A : Option Addr
  n : Nat
  c : Nat
  l : List Ent
def Es.v (r : Es) : Value := .slice r.A r.n r.c
def Es.sl (r : Es) : Sl := ⟨r.A, r.n, r.c, evs r.l⟩
def Es.ok (w : World) (r : Es) : Prop := Row w w.heap.size 4 r.A r.n (evs r.l)
def allE (rows : List Es) : List Ent := rows.flatMap (·.l)
def fitE (l : List Ent) : List Ent := if l.length ≤ 16 then l else []
theorem flat_es (rows : List Es) : flatV (rows.map Es.sl) = evs (allE rows) := by
  induction rows with
  | nil => rfl
  | cons r t ih =>
    have e : flatV ((r :: t).map Es.sl) = evs r.l ++ flatV (t.map Es.sl) := rfl
    have e2 : allE (r :: t) = r.l ++ allE t := rfl
    rw [e, ih, e2, evs_append]
theorem len_es (w : World) (rows : List Es) (h : ∀ r ∈ rows, r.ok w) : lenV (rows.map Es.sl) = (allE rows).length := by
  induction rows with
  | nil => rfl
  | cons r t ih =>
    have e : lenV ((r :: t).map Es.sl) = r.n + lenV (t.map Es.sl) := by simp [lenV, Es.sl]
    have e2 : allE (r :: t) = r.l ++ allE t := rfl
    rw [e, ih fun x hx => h x (by simp [hx]), e2, List.length_append, ent_len (h r (by simp))]
set_option maxHeartbeats 1000000 in
theorem stack20_any (R : Option Addr) (k c : Nat) (rows : List Es) (w : World) (h : Row w w.heap.size 1 R k (rows.map Es.v)) (hr : ∀ r ∈ rows, r.ok w) (hk : k ≤ 1099511627776) (ht : (allE rows).length ≤ 1099511627776) :
    Calls Try.prog 21 #[.slice R k c] w fun e w' => ∃ A' c', e = .returned (.tuple #[.slice A' (fitE (allE rows)).length c', .bool (decide ((allE rows).length ≤ 16))]) ∧ Own w' w.heap.size 46 4 A' (fitE (allE rows)).length c' (evs (fitE (allE rows))) ∧ Below w.heap.size w w' := by
  have hl := len_es w rows hr
  have P := concat_entries R k c (rows.map Es.sl) w (by rw [List.map_map]; exact h) (by intro r hrr; obtain ⟨x, hx, rfl⟩ := List.mem_map.1 hrr; exact ⟨hr x hx, evs_one _⟩) hk (by rw [hl]; exact ht)
  rw [hl, flat_es] at P
  obtain ⟨L, hL⟩ : ∃ L, allE rows = L := ⟨_, rfl⟩
  rw [hL] at P ht ⊢
  have HP := Lib.hid P
  clear P hl h hr hL
  go_enter Try.func21, Try.ntmps21
  go_wp2_with fail
  refine HP.out.mono ?_
  rintro e w' ⟨A', c', rfl, hown, hb⟩
  by_cases h16 : L.length ≤ 16
  · have h16' : ¬ (16 : Int) < (L.length : Int) := by omega
    have hf : fitE L = L := by unfold fitE; rw [if_pos h16]
    go_wp2_with fail
    go_ret2
    exact ⟨A', c', by rw [hf, decide_eq_true h16]; rfl, by rw [hf]; exact hown, hb⟩
  · have h16' : (16 : Int) < (L.length : Int) := by omega
    have hf : fitE L = [] := by unfold fitE; rw [if_neg h16]
    go_wp2_with fail
    go_ret2
    exact ⟨none, 0, by rw [hf, decide_eq_false h16]; rfl, by rw [hf]; exact Own.nil _ _ _ _ _, hb⟩
end Go.Proofs.Ytmpaockaeoknmaa

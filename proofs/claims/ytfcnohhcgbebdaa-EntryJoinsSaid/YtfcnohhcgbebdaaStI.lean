/- What stands between two rounds of entry.Stack's loop. No condition. -/
import Derived.Test.YtfcnohhcgbebdaaEach
namespace Go.Proofs.Ytfcnohhcgbebdaa
open Go.RowKit Go.Shelf
set_option linter.unusedVariables false

/-- between two rounds of Stack's loop -/
structure StI (w : World) (pre : List Told) (W : World) : Prop where
  out : ∃ A c, Boxed W (w.heap.size + 1 + 1 + 1) 34 (.slice A pre.length c) ∧ Own W w.heap.size 23 4 A pre.length c (evs (pre.map (·.1)))
  r2 : Boxed W w.heap.size 34 (.slice none 0 0)
  r3 : Boxed W (w.heap.size + 1) 3 (.int .i64 0)
  r4 : Boxed W (w.heap.size + 1 + 1) 26 (.int .i64 0)
  bx : ∃ v, Boxed W (w.heap.size + 1 + 1 + 1 + 1) 24 v
  bel : Below w.heap.size w W

theorem own_cells {W : World} {base : Nat} {e : TypeId} {sz : Nat} {A : Option Addr} {n c : Nat} {xs : List Value} (h : Own W base e sz A n c xs) (g : Nat) (hg : blk A c = some g) : ∃ cs, W.heap[g]? = some (.cells cs e (0, 0)) := by
  unfold blk at hg
  split at hg
  · cases hg
  · rename_i hc
    rcases h.own with ⟨_, h0⟩ | ⟨g', cur, rfl, hb, hh, _, _⟩
    · omega
    · simp at hg
      subst hg
      exact ⟨cur, hh⟩

/-- a turn of a block that is none of its own -/
theorem StI.turn {w : World} {pre : List Told} {W W' : World} {row : Option Nat} (h : StI w pre W) (hg : W.grownBy W' row) (hr : ∀ r, row = some r → w.heap.size ≤ r ∧ ∀ cs t, W.heap[r]? = some (.cells cs t (0, 0)) → False) : StI w pre W' := by
  have hb : ∀ {B : Nat} {t : TypeId} {v : Value}, Boxed W B t v → Boxed W' B t v := fun hb => hb.kept hg (fun e => (hr _ e.symm).2 _ _ hb)
  obtain ⟨A, c, ho, hown⟩ := h.out
  refine ⟨⟨A, c, hb ho, hown.kept hg (fun g' hg' e => ?_)⟩, hb h.r2, hb h.r3, hb h.r4, ?_, h.bel.grown hg h.bel.size (fun k e => (hr k e).1)⟩
  · obtain ⟨cs, hc⟩ := own_cells hown g' hg'
    exact (hr g' e).2 _ _ hc
  · obtain ⟨v, hv⟩ := h.bx
    exact ⟨v, hb hv⟩
theorem StI.ownFrom (w : World) (B : Nat) (hB : w.heap.size ≤ B) : OwnFrom B (StI w) := fun s X Y row hs hg hr =>
  hs.turn hg (fun r e => by
    obtain ⟨h1, o, ho, hc⟩ := hr r e
    refine ⟨by omega, fun cs t h2 => ?_⟩
    rw [ho] at h2
    cases h2
    cases hc)
theorem StI.lets (w : World) : Lets (w.heap.size + 1 + 1 + 1 + 1) (StI w) where
  below s W W' h hb := by
    have hk : ∀ {B : Nat} {t : TypeId} {v : Value}, Boxed W B t v → Boxed W' B t v := fun hx => (hb.block _ hx.lt).trans hx
    obtain ⟨A, c, ho, hown⟩ := h.out
    obtain ⟨v, hv⟩ := h.bx
    exact ⟨⟨A, c, hk ho, hown.below hb⟩, hk h.r2, hk h.r3, hk h.r4, ⟨v, hk hv⟩, h.bel.trans (hb.mono h.bel.size)⟩
  set s W u h := by
    obtain ⟨A, c, ho, hown⟩ := h.out
    obtain ⟨v, hv⟩ := h.bx
    refine ⟨⟨A, c, ho.other (by omega) u, hown.kept (grownBy_setCell' W _ u) (fun g' hg' e => ?_)⟩, h.r2.other (by omega) u, h.r3.other (by omega) u, h.r4.other (by omega) u, ⟨u, hv.set u⟩, h.bel.setCell (p := ⟨_, 0, none⟩) (by simp only; omega) u⟩
    obtain ⟨cs, hc⟩ := own_cells hown g' hg'
    cases e
    rw [show W.heap[_]? = _ from hv] at hc
    cases hc
end Go.Proofs.Ytfcnohhcgbebdaa

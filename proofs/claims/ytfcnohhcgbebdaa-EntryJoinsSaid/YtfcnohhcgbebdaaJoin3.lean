/- Plain laws of layer 3: of two stacks, one on top of the other. No program in sight. -/
import Derived.Test.YtfcnohhcgbebdaaPlain3
namespace Go.Proofs.Ytfcnohhcgbebdaa
open Go.RowKit
set_option linter.unusedVariables false
set_option linter.unusedSimpArgs false

theorem goodAll_append (a b : List Ent) : goodAll (a ++ b) ↔ goodAll a ∧ goodAll b := by
  unfold goodAll
  constructor
  · exact fun h => ⟨fun x hx => h x (by simp [hx]), fun x hx => h x (by simp [hx])⟩
  · rintro ⟨h1, h2⟩ x hx
    rcases List.mem_append.1 hx with h | h
    · exact h1 x h
    · exact h2 x h
theorem pieceAt_lower (a b : List Ent) (i : Nat) : pieceAt (a ++ b) (a.length + i) = pieceAt b i := by
  unfold pieceAt
  rw [List.getElem?_append_right (by omega), Nat.add_sub_cancel_left]
  cases b[i]? with
  | none => rfl
  | some x =>
    simp only [List.length_append]
    congr 2
    rw [decide_eq_decide]
    omega
theorem piecesTo_lower (a b : List Ent) (k : Nat) : piecesTo (a ++ b) (a.length + k) = piecesTo (a ++ b) a.length ++ piecesTo b k := by
  induction k with
  | zero => simp [piecesTo]
  | succ k ih => rw [← Nat.add_assoc, piecesTo_succ, ih, piecesTo_succ, pieceAt_lower, List.append_assoc]
theorem pieces_lower (a b : List Ent) (hg : goodAll (a ++ b)) : (piecesTo (a ++ b) (a ++ b).length).drop (4 * a.length) = piecesTo b b.length := by
  rw [List.length_append, piecesTo_lower, List.drop_left' (piecesTo_len4 _ hg _ (by simp))]
theorem same_take (a b : List Ent) (hf : ∀ x ∈ a ++ b, x.fit) (hg : goodAll (a ++ b)) : sameF ((outs (piecesTo (a ++ b) (a ++ b).length) (a ++ b).length).take a.length) a = true := by
  refine sameF_of _ _ (by simp [outs]) fun k x y hx hy => ?_
  have hk : k < a.length := (List.getElem?_eq_some_iff.1 hy).1
  have hy' : (a ++ b)[k]? = some y := by rw [List.getElem?_append_left hk]; exact hy
  have he := entAt_put (a ++ b) hf hg [] k y hy'
  rw [List.append_nil] at he
  rw [List.getElem?_take, if_pos hk, outs_get _ _ k (by simp; omega), he] at hx
  injection hx with hx
  subst hx
  simp [sameE, Ent.at]
end Go.Proofs.Ytfcnohhcgbebdaa

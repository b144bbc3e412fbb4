/- Plain laws of layer 3: what is put is told again. No program in sight. -/
import Derived.Test.YtfcnohhcgbebdaaPut3
import Derived.Test.YtfcnohhcgbebdaaSame
namespace Go.Proofs.Ytfcnohhcgbebdaa
open Go.RowKit
set_option linter.unusedVariables false
set_option linter.unusedSimpArgs false

theorem be_toBe3 (s : Nat) : ∀ m : Nat, be (toBe s m) = m % 256 ^ s := by
  induction s with
  | zero => intro m; simp [toBe, be]; omega
  | succ s ih =>
    intro m
    rw [toBe, be_snoc, ih]
    have h : (UInt8.ofNat (m % 256)).toNat = m % 256 := by rw [UInt8.toNat_ofNat']; omega
    rw [h, Nat.pow_succ, Nat.mul_comm (256 ^ s) 256, Nat.mod_mul]
    omega
theorem goodat {x : Ent} (h : x.good) (b : Bool) : (x.at b).good := h
theorem packL_good {x : Ent} (h : x.good) : packL x = toBe 4 x.num.toNat := if_pos h
theorem packL_len4 {x : Ent} (h : x.good) : (packL x).length = 4 := by rw [packL_good h, toBe_length]
theorem unp_packed (x : Ent) (hf : x.fit) (hg : x.good) (r : List UInt8) : unpE (packL x ++ r) = x := by
  obtain ⟨l, c, b, t⟩ := x
  obtain ⟨g0, g1, g2⟩ := hg
  have c0 := hf.c0
  have t0 := hf.t0
  have t1 := hf.t1
  simp only at g0 g1 g2 c0 t0 t1
  obtain ⟨N, hN⟩ : ∃ N : Nat, (Ent.mk l c b t).num = (N : Int) := ⟨(Ent.mk l c b t).num.toNat, by unfold Ent.num; simp only; split <;> omega⟩
  have hl : (packL ⟨l, c, b, t⟩).length = 4 := packL_len4 ⟨g0, g1, g2⟩
  have hb : be ((packL ⟨l, c, b, t⟩ ++ r).take 4) = N := by
    rw [List.take_left' hl, packL_good ⟨g0, g1, g2⟩, hN, be_toBe3, Int.toNat_natCast]
    have : (N : Int) < 4294967296 := by rw [← hN]; unfold Ent.num; simp only; split <;> omega
    omega
  unfold unpE
  rw [if_neg (by rw [List.length_append]; omega), hb]
  unfold Ent.num at hN
  simp only at hN
  cases b
  · simp only [Bool.false_eq_true, if_false] at hN
    congr 1
    · omega
    · omega
    · simp; omega
    · omega
  · simp only [if_true] at hN
    congr 1
    · omega
    · omega
    · simp; omega
    · omega

theorem pieceAt_of (l : List Ent) (k : Nat) (x : Ent) (hx : l[k]? = some x) : pieceAt l k = packL (x.at (decide (k + 1 = l.length))) := by unfold pieceAt; rw [hx]
theorem pieceAt_len4 (l : List Ent) (hg : goodAll l) (k : Nat) (hk : k < l.length) : (pieceAt l k).length = 4 := by
  have hx : l[k]? = some l[k] := List.getElem?_eq_getElem hk
  rw [pieceAt_of l k _ hx]
  exact packL_len4 (goodat (hg _ (List.getElem_mem hk)) _)
theorem piecesTo_len4 (l : List Ent) (hg : goodAll l) (k : Nat) (hk : k ≤ l.length) : (piecesTo l k).length = 4 * k := by
  induction k with
  | zero => simp [piecesTo]
  | succ k ih =>
    rw [piecesTo_succ, List.length_append, ih (by omega), pieceAt_len4 l hg k (by omega)]
    omega
theorem piecesTo_split (l : List Ent) (k : Nat) : ∀ m, ∃ r, piecesTo l (k + m) = piecesTo l k ++ r := by
  intro m
  induction m with
  | zero => exact ⟨[], by simp⟩
  | succ m ih =>
    obtain ⟨r, hr⟩ := ih
    exact ⟨r ++ pieceAt l (k + m), by rw [← Nat.add_assoc, piecesTo_succ, hr, List.append_assoc]⟩
/-- behind k entries stands the next one -/
theorem pieces_drop (l : List Ent) (hg : goodAll l) (k : Nat) (x : Ent) (hx : l[k]? = some x) : ∃ r, (piecesTo l l.length).drop (4 * k) = packL (x.at (decide (k + 1 = l.length))) ++ r := by
  have hk : k < l.length := (List.getElem?_eq_some_iff.1 hx).1
  obtain ⟨r, hr⟩ := piecesTo_split l (k + 1) (l.length - (k + 1))
  rw [show k + 1 + (l.length - (k + 1)) = l.length by omega, piecesTo_succ, pieceAt_of l k x hx] at hr
  refine ⟨r, ?_⟩
  rw [hr, List.append_assoc, List.drop_left' (piecesTo_len4 l hg k (by omega))]

/-- the entries of a stack, with their bottom bits -/
theorem entAt_put (l : List Ent) (hf : ∀ x ∈ l, x.fit) (hg : goodAll l) (more : List UInt8) (k : Nat) (x : Ent) (hx : l[k]? = some x) : entAt (piecesTo l l.length ++ more) k = x.at (decide (k + 1 = l.length)) := by
  have hk : k < l.length := (List.getElem?_eq_some_iff.1 hx).1
  obtain ⟨r, hr⟩ := pieces_drop l hg k x hx
  unfold entAt
  rw [List.drop_append_of_le_length (by rw [piecesTo_len4 l hg _ (Nat.le_refl _)]; omega), hr, List.append_assoc]
  exact unp_packed _ ((hf x (List.mem_of_getElem? hx)).at _) (goodat (hg x (List.mem_of_getElem? hx)) _) _
theorem stack_put (l : List Ent) (hf : ∀ x ∈ l, x.fit) (hg : goodAll l) (hn : 0 < l.length) (h16 : l.length ≤ 16) (more : List UInt8) :
    stackF (piecesTo l l.length ++ more) 16 0 = (outs (piecesTo l l.length ++ more) l.length, 4 * l.length, 0) := by
  have key : ∀ m k, k + m = l.length → 0 < m → stackF (piecesTo l l.length ++ more) (16 - k) k = (outs (piecesTo l l.length ++ more) l.length, 4 * l.length, 0) := by
    intro m
    induction m with
    | zero => intro k _ h; omega
    | succ m ih =>
      intro k hk _
      have hx : l[k]? = some (l[k]'(by omega)) := List.getElem?_eq_getElem (by omega)
      have he := entAt_put l hf hg more k _ hx
      have hlen : ¬ ((piecesTo l l.length ++ more).drop (4 * k)).length < 4 := by
        rw [List.length_drop, List.length_append, piecesTo_len4 l hg _ (Nat.le_refl _)]
        omega
      rw [stackF_step _ k (by omega), if_neg hlen, he]
      by_cases hb : k + 1 = l.length
      · rw [if_pos (by simp [Ent.at, hb]), hb]
      · rw [if_neg (by simp [Ent.at, hb])]
        exact ih (k + 1) (by omega) (by omega)
  exact key l.length 0 (by omega) hn
theorem stack_cut (l : List Ent) (hf : ∀ x ∈ l, x.fit) (hg : goodAll l) (hn : 0 < l.length) (h16 : l.length ≤ 16) :
    stackF ((piecesTo l l.length).take (4 * l.length - 1)) 16 0 = ([], 0, 10) := by
  have hL := piecesTo_len4 l hg _ (Nat.le_refl _)
  have key : ∀ m k, k + m = l.length → 0 < m → stackF ((piecesTo l l.length).take (4 * l.length - 1)) (16 - k) k = ([], 0, 10) := by
    intro m
    induction m with
    | zero => intro k _ h; omega
    | succ m ih =>
      intro k hk _
      have hx : l[k]? = some (l[k]'(by omega)) := List.getElem?_eq_getElem (by omega)
      obtain ⟨r, hr⟩ := pieces_drop l hg k _ hx
      rw [stackF_step _ k (by omega)]
      by_cases hb : k + 1 = l.length
      · rw [if_pos (by rw [List.length_drop, List.length_take, hL]; omega)]
      · rw [if_neg (by rw [List.length_drop, List.length_take, hL]; omega)]
        have he : entAt ((piecesTo l l.length).take (4 * l.length - 1)) k = (l[k]'(by omega)).at (decide (k + 1 = l.length)) := by
          unfold entAt
          have h4 : (packL ((l[k]'(by omega)).at (decide (k + 1 = l.length)))).length = 4 := packL_len4 (goodat (hg _ (List.getElem_mem _)) _)
          rw [List.drop_take, hr, List.take_append, List.take_of_length_le (by rw [h4]; omega)]
          exact unp_packed _ ((hf _ (List.getElem_mem _)).at _) (goodat (hg _ (List.getElem_mem _)) _) _
        rw [he, if_neg (by simp [Ent.at, hb])]
        exact ih (k + 1) (by omega) (by omega)
  exact key l.length 0 (by omega) hn

theorem sameF_of (a b : List Ent) (hl : a.length = b.length) (h : ∀ (k : Nat) (x y : Ent), a[k]? = some x → b[k]? = some y → sameE x y = true) : sameF a b = true := by
  induction a generalizing b with
  | nil => cases b with
    | nil => rfl
    | cons y b => simp at hl
  | cons x a ih => cases b with
    | nil => simp at hl
    | cons y b =>
      rw [sameF, h 0 x y rfl rfl, Bool.true_and]
      exact ih b (by simpa using hl) (fun k x' y' hx hy => h (k + 1) x' y' (by simpa using hx) (by simpa using hy))
theorem outs_get (L : List UInt8) (n k : Nat) (hk : k < n) : (outs L n)[k]? = some (entAt L k) := by simp [outs, hk]
theorem same_put (l : List Ent) (hf : ∀ x ∈ l, x.fit) (hg : goodAll l) (more : List UInt8) : sameF l (outs (piecesTo l l.length ++ more) l.length) = true := by
  refine sameF_of _ _ (by simp [outs]) fun k x y hx hy => ?_
  have hk : k < l.length := (List.getElem?_eq_some_iff.1 hx).1
  rw [outs_get _ _ k hk, entAt_put l hf hg more k x hx] at hy
  injection hy with hy
  subst hy
  simp [sameE, Ent.at]
end Go.Proofs.Ytfcnohhcgbebdaa

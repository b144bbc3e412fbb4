/- Plain law: when two keys of flows have the same bytes. No program in sight. -/
import Derived.Test.YthjjcglheialfaaFlowk
namespace Go.Proofs.Ythjjcglheialfaa
open Go.RowKit
set_option linter.unusedVariables false
set_option maxRecDepth 20000
set_option linter.unusedSimpArgs false

theorem rest_inj (x y : Int) : toBe 2 (restN x) = toBe 2 (restN y) ↔ x % 65536 = y % 65536 := by
  constructor
  · intro h
    have h2 := congrArg be h
    rw [be_toBe, be_toBe] at h2
    unfold restN at h2
    omega
  · intro h
    unfold restN
    rw [h]
theorem ub_inj (x y : Int) (hx : 0 ≤ x ∧ x ≤ 255) (hy : 0 ≤ y ∧ y ≤ 255) : ub x = ub y ↔ x = y := by
  constructor
  · intro h
    rw [← ub_nat x hx.1 hx.2, ← ub_nat y hy.1 hy.2, h]
  · intro h; rw [h]
theorem app_iff {α : Type} (a b c d : List α) (h : a.length = c.length) : a ++ b = c ++ d ↔ a = c ∧ b = d :=
  ⟨fun e => List.append_inj e h, fun e => by rw [e.1, e.2]⟩
theorem bytesT_iff (a b : Ky) (ha : a.fit) (hb : b.fit) : bytesT a = bytesT b ↔ a.pro = b.pro ∧ a.fr % 65536 = b.fr % 65536 ∧ a.to % 65536 = b.to % 65536 := by
  unfold bytesT
  rw [List.cons.injEq, ub_inj _ _ ha.pro hb.pro, app_iff _ _ _ _ (by rw [toBe_length, toBe_length]), rest_inj, rest_inj]
/-- the two keys' addresses are the same as far as they count -/
def addrF (a b : Ky) : Bool := if a.six then decide (a.src = b.src) && decide (a.dst = b.dst) else decide (a.src.take 4 = b.src.take 4) && decide (a.dst.take 4 = b.dst.take 4)
def sameF (a b : Ky) : Bool := decide (a.six = b.six) && addrF a b && decide (a.pro = b.pro) && decide (a.fr % 65536 = b.fr % 65536) && decide (a.to % 65536 = b.to % 65536)
theorem bytesF_six (a b : Ky) (h : bytesF a = bytesF b) : a.six = b.six := by
  unfold bytesF bytesH at h
  cases ha : a.six <;> cases hb : b.six <;> rw [ha, hb] at h <;> simp at h <;> rfl
theorem bytesF_iff (a b : Ky) (ha : a.fit) (hb : b.fit) : bytesF a = bytesF b ↔ sameF a b = true := by
  by_cases h6 : a.six = b.six
  · have hT := bytesT_iff a b ha hb
    have s1 := ha.ok.src
    have s2 := hb.ok.src
    have d1 := ha.ok.dst
    have d2 := hb.ok.dst
    unfold bytesF sameF addrF bytesH
    rw [← h6]
    cases a.six
    · simp only [Bool.false_eq_true, if_false, decide_true, Bool.true_and, Bool.and_eq_true, decide_eq_true_eq, List.cons_append, List.cons.injEq, true_and]
      rw [app_iff _ _ _ _ (by simp [s1, s2, d1, d2]), app_iff _ _ _ _ (by simp [s1, s2]), hT]
      simp only [and_assoc]
    · simp only [if_true, decide_true, Bool.true_and, Bool.and_eq_true, decide_eq_true_eq, List.cons_append, List.cons.injEq, true_and]
      rw [app_iff _ _ _ _ (by simp [s1, s2, d1, d2]), app_iff _ _ _ _ (by simp [s1, s2]), hT]
      simp only [and_assoc]
  · constructor
    · exact fun h => absurd (bytesF_six a b h) h6
    · intro h
      unfold sameF at h
      simp [h6] at h
theorem same_bytes (a b : Ky) (ha : a.fit) (hb : b.fit) : decide (bytesF a = bytesF b) = sameF a b := by
  have := bytesF_iff a b ha hb
  cases h : sameF a b
  · rw [h] at this; simpa using this
  · rw [h] at this; simpa using this
theorem same_hash (a b : Ky) (ha : a.fit) (hb : b.fit) (h : sameF a b = true) (l : List Ent) : hashF a l = hashF b l := by
  unfold hashF
  rw [(bytesF_iff a b ha hb).2 h]
end Go.Proofs.Ythjjcglheialfaa

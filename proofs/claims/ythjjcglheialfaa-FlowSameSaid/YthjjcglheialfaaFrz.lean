/- Worlds whose old cells and shapes stay while a new row may be frozen: a literal row of bytes made and converted inside a drawn region. -/
import Derived.Test.YthjjcglheialfaaCom
import Derived.Test.YthjjcglheialfaaRel
namespace Go.Proofs.Ythjjcglheialfaa
open Go.RowKit
set_option linter.unusedVariables false
set_option maxRecDepth 20000
set_option linter.unusedSimpArgs false

/-- cells and shapes of A's blocks stay; blocks below N stay whole -/
structure FrX (N a b : Nat) (A B : World) : Prop where
  below : Below (min N A.heap.size) A B
  cell : ∀ p : Addr, p.block < A.heap.size → B.cell? p = A.cell? p
  shape : ∀ k, k < A.heap.size → B.shape? k = A.shape? k
theorem FrX.refl (N a b : Nat) (A : World) : FrX N a b A A := ⟨Below.refl _ _, fun _ _ => rfl, fun _ _ => rfl⟩
theorem FrX.trans {N a b : Nat} {A B C : World} (h : FrX N a b A B) (k : FrX N a b B C) : FrX N a b A C :=
  ⟨h.below.trans (k.below.mono (by have := h.below.size; omega)), fun p hp => (k.cell p (Nat.lt_of_lt_of_le hp h.below.size)).trans (h.cell p hp), fun p hp => (k.shape p (Nat.lt_of_lt_of_le hp h.below.size)).trans (h.shape p hp)⟩
theorem FrX.of {N a b : Nat} {A B : World} (h : Below A.heap.size A B) : FrX N a b A B :=
  ⟨h.mono (by omega), fun p hp => by unfold World.cell?; rw [h.block _ hp], fun p hp => by unfold World.shape?; rw [h.block _ hp]⟩
theorem FrX.base {N a b : Nat} {A B : World} (h : FrX N a b A B) (hN : N = A.heap.size) : Below A.heap.size A B := h.below.mono (by omega)
theorem frx_alloc (N a b : Nat) (W : World) (o : Obj) : FrX N a b W (W.alloc o) := FrX.of ((Below.refl _ _).alloc (Nat.le_refl _) _)
theorem freeze_at (w : World) (a : Addr) (n k : Nat) (hk : k ≠ a.block) : (w.freeze a n).heap[k]? = w.heap[k]? := by
  unfold World.freeze
  split
  · rfl
  · simp only [Array.getElem?_modify]
    rw [if_neg (fun e => hk e.symm)]
theorem freeze_size (w : World) (a : Addr) (n : Nat) : (w.freeze a n).heap.size = w.heap.size := by
  unfold World.freeze
  split
  · rfl
  · simp
theorem freeze_cell (w : World) (a : Addr) (n : Nat) (p : Addr) : (w.freeze a n).cell? p = w.cell? p := by
  unfold World.freeze
  split
  · rfl
  · unfold World.cell?
    simp only [Array.getElem?_modify]
    by_cases h : a.block = p.block
    · rw [if_pos h]
      cases hx : w.heap[p.block]? with
      | none => rfl
      | some o => cases o <;> rfl
    · rw [if_neg h]
theorem freeze_shape (w : World) (a : Addr) (n k : Nat) : (w.freeze a n).shape? k = w.shape? k := by
  unfold World.freeze
  split
  · rfl
  · unfold World.shape?
    simp only [Array.getElem?_modify]
    by_cases h : a.block = k
    · rw [if_pos h]
      cases hx : w.heap[k]? with
      | none => rfl
      | some o => cases o <;> rfl
    · rw [if_neg h]
theorem FrX.freeze (N a b : Nat) (w : World) (p : Addr) (n : Nat) (hN : N ≤ p.block) : FrX N a b w (w.freeze p n) :=
  ⟨⟨by unfold World.freeze; split <;> rfl, by unfold World.freeze; split <;> rfl, by unfold World.freeze; split <;> rfl, by rw [freeze_size]; exact Nat.le_refl _, fun k hk => freeze_at w p n k (by omega)⟩, fun q _ => freeze_cell w p n q, fun q _ => freeze_shape w p n q⟩
theorem run_conv_lit {w : World} (g n c m : Nat) (hs : w.shape? g = some (5, m)) : (convert 22 22 (.slice (some ⟨g, 0, none⟩) n c)).run Try.prog w = .ok (.slice (some ⟨g, 0, none⟩) n c) (w.freeze ⟨g, m, none⟩ 1) := by
  simp [convert, run_underlying (P := Try.prog) Try.underlying22, run_underlying (P := Try.prog) Try.underlying5, markStringish, hs]
/-- a slice of bytes -/
def BytR (l : List UInt8) (v : Value) (W : World) : Prop := ∃ A n c, v = .slice A n c ∧ Row W W.heap.size 1 A n (bv l) ∧ n = l.length
theorem Row.frx {N a b : Nat} {sz : Nat} {A B : World} {p : Option Addr} {n : Nat} {cs : List Value} (h : Row A A.heap.size sz p n cs) (k : FrX N a b A B) : Row B B.heap.size sz p n cs := by
  refine ⟨h.1, fun hn => ?_⟩
  obtain ⟨g, o, hp, hg, hc⟩ := h.2 hn
  exact ⟨g, o, hp, Nat.lt_of_lt_of_le hg k.below.size, fun j u hu => (k.cell _ hg).trans (hc j u hu)⟩
theorem frx_byt (N a b : Nat) (l : List UInt8) : ∀ v A B, BytR l v A → FrX N a b A B → BytR l v B := fun _ _ _ ⟨X, n, c, h, ho, hn⟩ hg => ⟨X, n, c, h, ho.frx hg, hn⟩
/-- a new literal row of bytes -/
def LitR (N : Nat) (l : List UInt8) (v : Value) (W : World) : Prop := ∃ g, v = .slice (some ⟨g, 0, none⟩) l.length l.length ∧ N ≤ g ∧ Row W W.heap.size 1 (some ⟨g, 0, none⟩) l.length (bv l) ∧ g < W.heap.size ∧ W.shape? g = some (5, l.length)
theorem frx_lit (N a b : Nat) (l : List UInt8) : ∀ v A B, LitR N l v A → FrX N a b A B → LitR N l v B := fun _ _ _ ⟨g, h, hN, hr, hg, hs⟩ k => ⟨g, h, hN, hr.frx k, Nat.lt_of_lt_of_le hg k.below.size, (k.shape g hg).trans hs⟩
theorem frx_val (N a b : Nat) (x : Value) : ∀ (v : Value) (A B : World), v = x → FrX N a b A B → v = x := fun _ _ _ h _ => h
theorem lit_new {N : Nat} (W : World) (cs : Array Value) (l : List UInt8) (h : cs.toList = bv l) (hN : N ≤ W.heap.size) : LitR N l (.slice (some ⟨W.heap.size, 0, none⟩) l.length l.length) (W.alloc (.cells cs 5)) := by
  refine ⟨_, rfl, hN, ?_, by simp, ?_⟩
  · rw [World.size_alloc]; exact row_lit W cs l _ h rfl
  · unfold World.shape?
    have : (W.alloc (.cells cs 5)).heap[W.heap.size]? = some (.cells cs 5) := by
      show (W.heap.push _)[W.heap.size]? = _
      simp
    rw [this]
    have hl : cs.size = l.length := by rw [← Array.length_toList, h, bv_length]
    simp [hl]
end Go.Proofs.Ythjjcglheialfaa

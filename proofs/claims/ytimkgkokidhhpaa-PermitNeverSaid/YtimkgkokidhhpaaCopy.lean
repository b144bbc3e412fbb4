/- copy onto a row of the call's own, and a string made bytes, as steps. No condition but sizes. -/
import Derived.Test.YtimkgkokidhhpaaCom
import Derived.Laws.CopyRow
import Derived.Lib.SlBuf
namespace Go.Proofs.Ytimkgkokidhhpaa
open Go.RowKit
set_option linter.unusedVariables false
set_option maxRecDepth 20000

theorem run_copy_Own {P : Program} {w : World} {base n c g B m dc sc : Nat} {e dT sT ty : TypeId} {xs ys : List Value} {X : Option Addr} (hu : P.underlying dT = some (.slice e)) (hs : (P.info? e).map (·.size) = some 1)
    (hown : Own w base e 1 (some ⟨g, 0, none⟩) n c xs) (k : Nat) (hm : 0 < m) (hk : k + m ≤ n) (hr : Row w B 1 X m ys) (h1 : ∀ v ∈ ys, v.oneCell' = true) :
    ∃ w', (Builtin.copy_ #[dT, sT] ty #[.slice (some ⟨g, k, none⟩) (n - k) dc, .slice X m sc]).run P w = .ok (goInt m) w' ∧ Own w' base e 1 (some ⟨g, 0, none⟩) n c (xs.take k ++ ys ++ xs.drop (k + m)) ∧ w.grownBy w' (some g) ∧ w'.heap.size = w.heap.size := by
  have hym : ys.length = m := by have := hr.1; omega
  have hxn : xs.length = n := by have := hown.len; omega
  obtain ⟨b, o, rfl, hbB, hcell⟩ := hr.2 hm
  rcases hown.own with ⟨h0, _⟩ | ⟨g', cur, hA, hb, hg, hcs, ht⟩
  · omega
  · obtain rfl : g = g' := by injection hA with hA; injection hA
    have hcap := hown.le
    have hrun := run_copy_row (P := P) w dT sT ty e g k (n - k) dc ⟨b, o, none⟩ m sc cur e ys hu hs hg (by rw [hym]; exact (Nat.min_eq_left (by omega)).symm) (fun j v hv => by
      have := hcell j v hv
      unfold Addr.add
      split
      · rename_i h0; subst h0; simpa using this
      · exact this) (by omega) h1
    rw [hym] at hrun
    refine ⟨_, hrun, ⟨?_, hown.le, hown.cap, .inr ⟨g, _, rfl, hb, setRow_heap w g cur _ e _ hg, ?_, ?_⟩⟩, ⟨rfl, rfl, rfl, by simp [World.setRow], fun i _ hne => setRow_other w g i _ (fun e => hne (by rw [e]))⟩, by simp [World.setRow]⟩
    · simp only [List.length_append, List.length_take, List.length_drop, hym, hxn]
      omega
    · simp only [List.size_toArray, List.length_append, List.length_take, List.length_drop, Array.length_toList, hym]
      omega
    · have ht' : cur.toList.take n = xs := by rw [← ht, Nat.mul_one]
      have e1 : cur.toList.take k = xs.take k := by rw [← ht', List.take_take, Nat.min_eq_left (by omega)]
      have e2 : cur.toList.drop (k + m) = xs.drop (k + m) ++ cur.toList.drop n := by
        have hl : n ≤ cur.toList.length := by rw [Array.length_toList]; omega
        have e3 : cur.toList.drop n = (cur.toList.drop (k + m)).drop (n - (k + m)) := by rw [List.drop_drop]; congr 1; omega
        rw [← ht', List.drop_take, e3, List.take_append_drop]
      show ((cur.toList.take k ++ ys) ++ cur.toList.drop (k + m)).take (n * 1) = _
      rw [e1, e2, ← List.append_assoc]
      exact List.take_left' (by simp only [List.length_append, List.length_take, List.length_drop, hym, hxn]; omega)

theorem wp_copy_Own {P : Program} {w : World} {o : Oper} {a : Act} {K : Act → World → Prop} {Q : Exit → Act → World → Prop} (d s : Operand) (dT sT : TypeId) (ho : o.op = .call { callee := .builtin .copy, args := #[d, s], argTypes := #[dT, sT] })
    {base n c g B m dc sc : Nat} {e : TypeId} {xs ys : List Value} {X : Option Addr} (hu : P.underlying dT = some (.slice e)) (hs : (P.info? e).map (·.size) = some 1)
    (k : Nat) (hd : a.eval d = .slice (some ⟨g, k, none⟩) (n - k) dc) (hsv : a.eval s = .slice X m sc) (hown : Own w base e 1 (some ⟨g, 0, none⟩) n c xs) (hm : 0 < m) (hk : k + m ≤ n) (hr : Row w B 1 X m ys) (h1 : ∀ v ∈ ys, v.oneCell' = true)
    (h : ∀ w', Own w' base e 1 (some ⟨g, 0, none⟩) n c (xs.take k ++ ys ++ xs.drop (k + m)) → w.grownBy w' (some g) → w'.heap.size = w.heap.size → K (a.put o.dst (goInt m)) w') : o.wp P a w K Q := by
  obtain ⟨w', hrun, h2, h3, h4⟩ := run_copy_Own (P := P) (ty := o.type) (sT := sT) (dc := dc) (sc := sc) hu hs hown k hm hk hr h1
  exact Lib.wp_copy_run w d s dT sT ho _ _ hd hsv hrun (h w' h2 h3 h4)
theorem wpList_copy_Own {P : Program} {w : World} {ops : Array Oper} {rest : List Oper} {o : Oper} {a : Act} {Q : Exit → Act → World → Prop} (hgd : Region.wanted o (yielded ops a.tmps) = true) (d s : Operand) (dT sT : TypeId) (ho : o.op = .call { callee := .builtin .copy, args := #[d, s], argTypes := #[dT, sT] })
    {base n c g B m dc sc : Nat} {e : TypeId} {xs ys : List Value} {X : Option Addr} (hu : P.underlying dT = some (.slice e)) (hs : (P.info? e).map (·.size) = some 1)
    (k : Nat) (hd : a.eval d = .slice (some ⟨g, k, none⟩) (n - k) dc) (hsv : a.eval s = .slice X m sc) (hown : Own w base e 1 (some ⟨g, 0, none⟩) n c xs) (hm : 0 < m) (hk : k + m ≤ n) (hr : Row w B 1 X m ys) (h1 : ∀ v ∈ ys, v.oneCell' = true)
    (h : ∀ w', Own w' base e 1 (some ⟨g, 0, none⟩) n c (xs.take k ++ ys ++ xs.drop (k + m)) → w.grownBy w' (some g) → w'.heap.size = w.heap.size → wpList P ops Q rest (a.put o.dst (goInt m)) w') : wpList P ops Q (o :: rest) a w :=
  wpList_wanted hgd fun _ hK => wp_copy_Own d s dT sT ho hu hs k hd hsv hown hm hk hr h1 fun w' a b c => hK _ _ (h w' a b c)

theorem wp_toBytes {P : Program} {w : World} {o : Oper} {a : Act} {K : Act → World → Prop} {Q : Exit → Act → World → Prop} (x : Operand) (S T e : TypeId)
    (ho : o.op = .convert S T x) (hT : P.underlying T = some (.slice e)) (he : P.underlying e = some (.int .u8)) (hS : P.underlying S = some .string)
    (l : List UInt8) (hx : a.eval x = str l) (hl : l.length ≤ maxLen)
    (h : ∀ A c w', (Bs.mk A l.length c l).ok w' → Below w.heap.size w w' → K (a.put o.dst (.slice A l.length c)) w') : o.wp P a w K Q := by
  have hrun := Lib.run_convert_string_bytes (P := P) w S T e ⟨l.toArray⟩ hS hT he
  have hsz : (ByteArray.mk l.toArray).size = l.length := by simp [ByteArray.size]
  have hh := h (some ⟨w.heap.size, 0, none⟩) (grownCap w (ByteArray.mk l.toArray).size 0 e) (Lib.bytesWorld w e ⟨l.toArray⟩) ⟨?_, ?_, ?_⟩ (bytesWorld_below _ _ _)
  · rw [← hsz] at hh
    unfold Oper.wp execOp
    simp only [ho, Sem.run_bind, Sem.run_pure, Result.andThen_ok, hx, hrun]
    exact hh
  · refine ⟨by rw [bv_length, Nat.mul_one], fun hn => ⟨w.heap.size, 0, rfl, by rw [Lib.bytesWorld_size]; omega, fun j u hu => ?_⟩⟩
    have hj : j < l.length := by
      rcases Nat.lt_or_ge j l.length with h' | h'
      · exact h'
      · rw [List.getElem?_eq_none (by rw [bv_length]; exact h')] at hu; cases hu
    rw [Nat.zero_add, Lib.bytesWorld_cell w e _ j (by rw [hsz]; exact hj)]
    rw [bv_get l j l[j] (List.getElem?_eq_getElem hj)] at hu
    rw [← hu]
    simp [List.getElem?_eq_getElem hj]
  · have := grownCap_ge w (ByteArray.mk l.toArray).size 0 e
    show l.length ≤ grownCap w (ByteArray.mk l.toArray).size 0 e
    omega
  · exact grownCap_le_maxLen _ _ _ _ (by omega)
end Go.Proofs.Ytimkgkokidhhpaa

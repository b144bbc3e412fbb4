/- Texts of this claim put together, in build order: each one's own remark stands ahead of it. -/
import Derived.Test.YtdmgomknamdcfaaRows
import Derived.WalkKit
import Derived.ProofKit
import Derived.WalkSpells
import Derived.WalkLawsBesides
import Derived.Below
import Derived.Lib.Hide
import Derived.Deep.Draws
import Derived.Lib.ConvBytes
import Derived.Lib.SlBytesConst
import Derived.Lib.SliceRun
import Derived.Deep.MidRow
import Derived.Laws.IdiomCopy
import Derived.OrdersHeld
import Derived.Deep.RegionHeld
/- Words for memory that all proofs of this seat share: a slice that is read (Row), a slice of the call's own (Own), append onto it. No condition. -/
namespace Go.Proofs.Ytdmgomknamdcfaa
open Go.RowKit
set_option linter.unusedVariables false
set_option maxRecDepth 20000

section rows
variable {w w' w'' : World} {B B' base sz n m c b : Nat} {e : TypeId} {A : Option Addr} {xs : List Value}

/-- The slice of address A and length n holds the cells xs, sz to an element; it lies below block B. -/
def Row (w : World) (B sz : Nat) (A : Option Addr) (n : Nat) (xs : List Value) : Prop :=
 xs.length = n * sz ∧ (0 < n → ∃ b o, A = some ⟨b, o, none⟩ ∧ b < B ∧ ∀ j u, xs[j]? = some u → w.cell? ⟨b, o + j, none⟩ = some u)

theorem Row.nil (w : World) (B sz : Nat) (A : Option Addr) : Row w B sz A 0 [] := ⟨by simp, fun h => absurd h (by omega)⟩
theorem Row.keep (h : Row w B sz A n xs) (hk : ∀ b o, b < B → w'.cell? ⟨b, o, none⟩ = w.cell? ⟨b, o, none⟩) : Row w' B sz A n xs :=
 ⟨h.1, fun hn => by
  obtain ⟨b, o, e, hb, hc⟩ := h.2 hn
  exact ⟨b, o, e, hb, fun j u hu => (hk _ _ hb).trans (hc j u hu)⟩⟩
theorem Row.more (h : Row w B sz A n xs) (hB : B ≤ B') : Row w B' sz A n xs :=
 ⟨h.1, fun hn => by
  obtain ⟨b, o, e, hb, hc⟩ := h.2 hn
  exact ⟨b, o, e, by omega, hc⟩⟩
theorem Row.below (h : Row w B sz A n xs) (hb : Below B w w') : Row w' B sz A n xs := h.keep fun b o hp => hb.cell (p := ⟨b, o, none⟩) hp
theorem Row.drew (h : Row w B sz A n xs) : Row w.drew B sz A n xs := h
theorem Row.drewN (h : Row w B sz A n xs) (k : Nat) : Row (w.drewN k) B sz A n xs := h
theorem Row.cut (h : Row w B sz A n xs) {k cap : Nat} (hk : k ≤ n) (hc : n ≤ cap) :
  Row w B sz (if cap = k then A else A.map (·.add (k * sz))) (n - k) (xs.drop (k * sz)) := by
 refine ⟨by rw [List.length_drop, h.1, Nat.sub_mul], fun hn => ?_⟩
 obtain ⟨b, o, rfl, hb, hcell⟩ := h.2 (by omega)
 rw [if_neg (by omega)]
 have ha : (Option.map (fun x : Addr => x.add (k * sz)) (some ⟨b, o, none⟩)) = some ⟨b, o + k * sz, none⟩ := by
  show some (Addr.add ⟨b, o, none⟩ (k * sz)) = _
  unfold Addr.add
  split
  ·rename_i h0; rw [h0]; rfl
  ·rfl
 refine ⟨b, o + k * sz, ha, hb, fun j u hu => ?_⟩
 rw [Nat.add_assoc]
 exact hcell _ u (by rw [← hu, List.getElem?_drop])
theorem Row.take (h : Row w B sz A n xs) {k : Nat} (hk : k ≤ n) : Row w B sz A k (xs.take (k * sz)) := by
 refine ⟨?_, fun hn => ?_⟩
 ·rw [List.length_take, h.1]; exact Nat.min_eq_left (Nat.mul_le_mul_right _ hk)
 ·obtain ⟨b, o, rfl, hb, hcell⟩ := h.2 (by omega)
  refine ⟨b, o, rfl, hb, fun j u hu => hcell j u ?_⟩
  rw [List.getElem?_take] at hu
  split at hu
  ·exact hu
  ·cases hu
theorem Row.zero (w : World) (B sz : Nat) (A : Option Addr) {xs : List Value} (h : xs = []) : Row w B sz A 0 xs := by subst h; exact Row.nil w B sz A
theorem Row.cells (h : Row w B sz A n xs) (hn : 0 < n) : ∃ b o, A = some ⟨b, o, none⟩ ∧ b < B ∧ ∀ j u, xs[j]? = some u → w.cell? ⟨b, o + j, none⟩ = some u := h.2 hn

/-- The slice (A, n, c) is the call's own (its block is none of those below base): its elements are the cells xs; or it has no room at all. -/
structure Own (w : World) (base : Nat) (e : TypeId) (sz : Nat) (A : Option Addr) (n c : Nat) (xs : List Value) : Prop where
 len : xs.length = n * sz
 le : n ≤ c
 cap : c ≤ maxLen
 own : (n = 0 ∧ c = 0) ∨ ∃ g cur, A = some ⟨g, 0, none⟩ ∧ base ≤ g ∧ w.heap[g]? = some (.cells cur e (0, 0)) ∧ cur.size = c * sz ∧ cur.toList.take (n * sz) = xs

/-- the block that a slice with room may write to -/
def blk (A : Option Addr) (c : Nat) : Option Nat := if c = 0 then none else A.map (·.block)

theorem Own.nil (w : World) (base : Nat) (e : TypeId) (sz : Nat) (A : Option Addr) : Own w base e sz A 0 0 [] := ⟨by simp, Nat.le_refl _, Nat.zero_le _, .inl ⟨rfl, rfl⟩⟩
theorem Own.row (h : Own w base e sz A n c xs) : Row w w.heap.size sz A n xs := by
 refine ⟨h.len, fun hn => ?_⟩
 rcases h.own with ⟨h0, _⟩ | ⟨g, cur, rfl, _, hg, hs, ht⟩
 ·omega
 ·refine ⟨g, 0, rfl, (Array.getElem?_eq_some_iff.1 hg).1, fun j u hu => ?_⟩
  rw [Nat.zero_add, cell_of_row w g j cur e (0, 0) hg]
  rw [← ht, List.getElem?_take] at hu
  split at hu
  ·simpa using hu
  ·cases hu
theorem Own.lt (h : Own w base e sz A n c xs) : ∀ g, blk A c = some g → base ≤ g ∧ g < w.heap.size := by
 intro g hg
 unfold blk at hg
 split at hg
 ·cases hg
 ·rename_i hc
  rcases h.own with ⟨_, h0⟩ | ⟨g', cur, rfl, hb, hh, _, _⟩
  ·omega
  ·simp at hg
   subst hg
   exact ⟨hb, (Array.getElem?_eq_some_iff.1 hh).1⟩
theorem Own.kept {row : Option Nat} (h : Own w base e sz A n c xs) (hg : w.grownBy w' row) (hne : ∀ g, blk A c = some g → row ≠ some g) : Own w' base e sz A n c xs := by
 refine ⟨h.len, h.le, h.cap, ?_⟩
 rcases h.own with h0 | ⟨g, cur, rfl, hb, hh, hs, ht⟩
 ·exact .inl h0
 ·by_cases hc : c = 0
  ·have hn : n = 0 := by have := h.le; omega
   exact .inl ⟨hn, hc⟩
  ·refine .inr ⟨g, cur, rfl, hb, ?_, hs, ht⟩
   rw [hg.block g (Array.getElem?_eq_some_iff.1 hh).1 (fun e => hne g (by simp [blk, hc]) e.symm)]
   exact hh
theorem Own.below (h : Own w base e sz A n c xs) (hb : Below w.heap.size w w') : Own w' base e sz A n c xs :=
 h.kept (row := none) ⟨hb.os, hb.tape, hb.output, hb.size, fun k hk _ => hb.block k hk⟩ (fun _ _ => by simp)
theorem Own.drew (h : Own w base e sz A n c xs) : Own w.drew base e sz A n c xs := ⟨h.len, h.le, h.cap, h.own⟩
theorem Own.drewN (h : Own w base e sz A n c xs) (k : Nat) : Own (w.drewN k) base e sz A n c xs := ⟨h.len, h.le, h.cap, h.own⟩
theorem Own.alloc (h : Own w base e sz A n c xs) (o : Obj) : Own (w.alloc o) base e sz A n c xs := h.below ((Below.refl _ _).alloc (Nat.le_refl _) o)
theorem Own.mono (h : Own w base e sz A n c xs) (hb : B ≤ base) : Own w B e sz A n c xs := by
 refine ⟨h.len, h.le, h.cap, ?_⟩
 rcases h.own with h0 | ⟨g, cur, hA, hg, r⟩
 ·exact .inl h0
 ·exact .inr ⟨g, cur, hA, by omega, r⟩
theorem Own.open_ (h : Own w base e sz A n c xs) (hn : 0 < n) : ∃ g, A = some ⟨g, 0, none⟩ ∧ base ≤ g ∧ g < w.heap.size ∧ (∀ j u, xs[j]? = some u → w.cell? ⟨g, j, none⟩ = some u) ∧ (∀ j, w.frozen? ⟨g, j, none⟩ = false) := by
 rcases h.own with ⟨h0, _⟩ | ⟨g, cur, rfl, hb, hg, hs, ht⟩
 ·omega
 ·refine ⟨g, rfl, hb, (Array.getElem?_eq_some_iff.1 hg).1, fun j u hu => ?_, fun j => by simp [World.frozen?, hg]⟩
  rw [cell_of_row w g j cur e (0, 0) hg]
  rw [← ht, List.getElem?_take] at hu
  split at hu
  ·simpa using hu
  ·cases hu
theorem Own.set (h : Own w base e sz (some ⟨b, 0, none⟩) n c xs) {j : Nat} (hj : j < n * sz) (u : Value) : Own (w.setCell ⟨b, j, none⟩ u) base e sz (some ⟨b, 0, none⟩) n c (xs.set j u) := by
 refine ⟨by rw [List.length_set]; exact h.len, h.le, h.cap, ?_⟩
 rcases h.own with ⟨h0, _⟩ | ⟨g, cur, hA, hb, hg, hs, ht⟩
 ·rw [h0] at hj; omega
 ·injection hA with hA
  injection hA with hA
  subst hA
  refine .inr ⟨b, cur.setIfInBounds j u, rfl, hb, ?_, by rw [Array.size_setIfInBounds]; exact hs, ?_⟩
  ·simp [World.setCell, Array.getElem?_modify, hg]
  ·rw [Array.toList_setIfInBounds, List.take_set, ht]
theorem Own.made (w : World) (cur : Array Value) (hb : base ≤ w.heap.size) (hm : n ≤ maxLen) (hs : cur.size = n * sz) :
  Own (w.alloc (.cells cur e)) base e sz (some ⟨w.heap.size, 0, none⟩) n n cur.toList :=
 ⟨by simpa using hs, Nat.le_refl _, hm, .inr ⟨w.heap.size, cur, rfl, hb, heap_alloc_new w _, hs, by rw [← hs]; exact List.take_of_length_le (by simp)⟩⟩
theorem Row.new (w : World) (cur : Array Value) (hs : cur.size = n * sz) : Row (w.alloc (.cells cur e)) (w.heap.size + 1) sz (some ⟨w.heap.size, 0, none⟩) n cur.toList :=
 ⟨by simpa using hs, fun _ => ⟨w.heap.size, 0, rfl, by omega, fun j u hu => by rw [Nat.zero_add, cell_of_row _ _ j cur e (0, 0) (heap_alloc_new w _)]; simpa using hu⟩⟩
theorem below_drewN {a : World} (h : Below B a w) (k : Nat) : Below B a (w.drewN k) := ⟨h.os, h.tape, h.output, h.size, h.block⟩
end rows

section append
variable {P : Program} (w : World)

theorem wpList_wanted {ops : Array Oper} {rest : List Oper} {o : Oper} {a : Act} {w : World} {Q : Exit → Act → World → Prop} (hw : Region.wanted o (yielded ops a.tmps) = true)
  (h : ∀ K : Act → World → Prop, (∀ a w, wpList P ops Q rest a w → K a w) → o.wp P a w K Q) : wpList P ops Q (o :: rest) a w :=
 wpList_step fun K hK => by rw [if_pos hw]; exact h K hK

theorem run_append_same (t ty e : TypeId) (i : TypeInfo) (ht : P.underlying t = some (.slice e)) (hi : P.info? e = some i)
  (A X : Option Addr) (n c c' : Nat) (hn : n ≤ c) : (Builtin.append_ #[t, t] ty #[.slice A n c, .slice X 0 c']).run P w = .ok (.slice A n c) w := by
 cases A <;> cases X <;> simp [Builtin.append_, run_underlying ht, sizeOf, typeInfo, hi, Builtin.lenOf, Builtin.firstCells, hn, storeCells, loadCells, loadCellsFrom]

theorem grownBy_new (cs : Array Value) (e : TypeId) (row : Option Nat) : w.grownBy (w.drew.alloc (.cells cs e)) row :=
 ⟨rfl, rfl, rfl, by simp, fun k hk _ => heap_alloc_old w.drew _ hk⟩

theorem run_append_Own (base : Nat) (t ty e : TypeId) (z : Value) (sz bytes : Nat) (ht : P.underlying t = some (.slice e)) (hinfo : (P.info? e).map (fun i => (i.zero, i.size, i.bytes)) = some (some z, sz, bytes))
  (hzs : z.cells.size = sz) (hsz : 0 < sz)
  (A : Option Addr) (n c : Nat) (xs : List Value) (hown : Own w base e sz A n c xs)
  (B : Nat) (X : Option Addr) (m cx : Nat) (news : List Value) (hr : Row w B sz X m news) (h1 : ∀ u ∈ news, u.oneCell' = true)
  (h63 : n + m ≤ maxLen) (hbytes : (n + m) * bytes ≤ 140737488355328) (hbase : base ≤ w.heap.size) :
  ∃ A' c' w', (Builtin.append_ #[t, t] ty #[.slice A n c, .slice X m cx]).run P w = .ok (.slice A' (n + m) c') w' ∧ Own w' base e sz A' (n + m) c' (xs ++ news) ∧ w.grownBy w' (blk A c) ∧
   ((A' = A ∧ c' = c) ∨ ∃ g, A' = some ⟨g, 0, none⟩ ∧ w.heap.size ≤ g) := by
 obtain ⟨i, hi, hz, hsize, hby⟩ := info_parts hinfo
 subst hsize
 subst hby
 rcases Nat.eq_zero_or_pos m with h0 | h0
 ·subst h0
  have hn : news = [] := List.eq_nil_of_length_eq_zero (by simpa using hr.1)
  subst hn
  refine ⟨A, c, w, run_append_same w t ty e i ht hi A X n c cx hown.le, by simpa using hown, World.grownBy.refl w _, .inl ⟨rfl, rfl⟩⟩
 obtain ⟨b, o, rfl, hbB, hcell⟩ := hr.2 h0
 have hnews : ∀ j u, news[j]? = some u → w.cell? ((⟨b, o, none⟩ : Addr).add j) = some u := by
  intro j u hu
  have := hcell j u hu
  unfold Addr.add
  split
  ·rename_i hj; subst hj; simpa using this
  ·exact this
 have hsmall : n + m ≤ 9223372036854775807 := by simp only [maxLen] at h63; omega
 have hlen : (xs ++ news).length = (n + m) * i.size := by rw [List.length_append, hown.len, hr.1, Nat.add_mul]
 have grown : ∀ (old : Nat), Own (w.drew.alloc (.cells (xs.toArray ++ news.toArray ++ Builtin.zeroCells z.cells (grownCap w (n + m) old e - (n + m))) e)) base e i.size
    (some ⟨w.heap.size, 0, none⟩) (n + m) (grownCap w (n + m) old e) (xs ++ news) := by
  intro old
  have hge := grownCap_ge w (n + m) old e
  refine ⟨hlen, hge, grownCap_le_maxLen w (n + m) old e h63, .inr ⟨w.heap.size, _, rfl, hbase, heap_alloc_new w.drew _, ?_, ?_⟩⟩
  ·simp only [Array.size_append, List.size_toArray, size_zeroCells, hzs, hown.len, hr.1, ← Nat.add_mul]
   congr 1
   omega
  ·simp only [Array.toList_append, List.append_assoc]
   rw [← List.append_assoc, ← hlen]
   exact List.take_left
 have hnn : news.length = m * i.size := hr.1
 by_cases hroom : n + m ≤ c
 ·rcases hown.own with ⟨hn0, hc0⟩ | ⟨g, cur, rfl, hbg, hg, hcs, htake⟩
  ·omega
  ·have hfit : n * i.size + news.length ≤ cur.size := by rw [hnn, hcs, ← Nat.add_mul]; exact Nat.mul_le_mul_right _ hroom
   have hrun := run_append_room (P := P) w t ty e i ht hi g n c cur hg ⟨b, o, none⟩ m cx news hnn hnews h1 hroom hfit
   refine ⟨_, _, _, hrun, ⟨hlen, hroom, hown.cap, .inr ⟨g, _, rfl, hbg, setRow_heap w g cur _ e _ hg, ?_, ?_⟩⟩, ⟨rfl, rfl, rfl, by simp, fun k _ hk => setRow_other w g k _ (fun e => hk (by rw [e]; unfold blk; rw [if_neg (by omega)]; rfl))⟩, .inl ⟨rfl, rfl⟩⟩
   ·simp only [List.size_toArray, List.length_append, List.length_take, List.length_drop, Array.length_toList]
    omega
   ·rw [htake, ← hlen]
    exact List.take_left
 ·rcases A with _ | ad
  ·have hn0 : n = 0 := by
    rcases hown.own with ⟨hn0, hc0⟩ | ⟨g, cur, hA, _⟩
    ·exact hn0
    ·cases hA
   have hc0 : c = 0 := by
    rcases hown.own with ⟨hn0, hc0⟩ | ⟨g, cur, hA, _⟩
    ·exact hc0
    ·cases hA
   subst hn0
   subst hc0
   have hx : xs = [] := List.eq_nil_of_length_eq_zero (by simpa using hown.len)
   subst hx
   have hrun := run_append_nil (P := P) w t ty e i z ht hi hz ⟨b, o, none⟩ m cx news hnn hnews h0 (by omega) (by have hb := hbytes; simp only [Nat.zero_add] at hb; omega)
   have hgr := grown 0
   simp only [Nat.zero_add, List.nil_append, Array.empty_append] at hgr ⊢
   exact ⟨_, _, _, hrun, hgr, grownBy_new w _ _ _, .inr ⟨_, rfl, Nat.le_refl _⟩⟩
  ·have holds : ∀ j u, xs[j]? = some u → w.cell? (ad.add j) = some u := by
    intro j u hu
    have hj : j < xs.length := by
     rcases Nat.lt_or_ge j xs.length with h | h
     ·exact h
     ·rw [List.getElem?_eq_none h] at hu; cases hu
    have hnp : 0 < n := by
     rcases Nat.eq_zero_or_pos n with hz0 | hp
     ·rw [hown.len, hz0] at hj; omega
     ·exact hp
    obtain ⟨b', o', hA, _, hc'⟩ := hown.row.2 hnp
    injection hA with hA
    subst hA
    have := hc' j u hu
    unfold Addr.add
    split
    ·rename_i hj0; subst hj0; simpa using this
    ·exact this
   have hrun := run_append_grow (P := P) w t ty e i z ht hi hz ad n c xs hown.len holds ⟨b, o, none⟩ m cx news hnn hnews (by omega) (by omega) (growslice_fits (by omega) hbytes)
   exact ⟨_, _, _, hrun, grown c, grownBy_new w _ _ _, .inr ⟨_, rfl, Nat.le_refl _⟩⟩

theorem wpList_append_Own {ops : Array Oper} {rest : List Oper} {o : Oper} {a : Act} {Q : Exit → Act → World → Prop} (hgd : Region.wanted o (yielded ops a.tmps) = true) (s x : Operand) (t : TypeId)
  (ho : o.op = .call { callee := .builtin .append, args := #[s, x], argTypes := #[t, t] })
  (base : Nat) (e : TypeId) (z : Value) (sz bytes : Nat) (ht : P.underlying t = some (.slice e)) (hinfo : (P.info? e).map (fun i => (i.zero, i.size, i.bytes)) = some (some z, sz, bytes))
  (hzs : z.cells.size = sz) (hsz : 0 < sz)
  (A : Option Addr) (n c : Nat) (xs : List Value) (hs : a.eval s = .slice A n c) (hown : Own w base e sz A n c xs)
  (B : Nat) (X : Option Addr) (m cx : Nat) (news : List Value) (hx : a.eval x = .slice X m cx) (hr : Row w B sz X m news) (h1 : ∀ u ∈ news, u.oneCell' = true)
  (h63 : n + m ≤ maxLen) (hbytes : (n + m) * bytes ≤ 140737488355328) (hbase : base ≤ w.heap.size)
  (h : ∀ A' c' w', Own w' base e sz A' (n + m) c' (xs ++ news) → w.grownBy w' (blk A c) → ((A' = A ∧ c' = c) ∨ ∃ g, A' = some ⟨g, 0, none⟩ ∧ w.heap.size ≤ g) → wpList P ops Q rest (a.put o.dst (.slice A' (n + m) c')) w') : wpList P ops Q (o :: rest) a w := by
 obtain ⟨A', c', w', hrun, h2, h3, h4⟩ := run_append_Own (P := P) w base t o.type e z sz bytes ht hinfo hzs hsz A n c xs hown B X m cx news hr h1 h63 hbytes hbase
 refine wpList_wanted hgd fun _ hK => ?_
 unfold Oper.wp execOp
 simp only [ho, resolve, invoke, builtin, Sem.run_bind, Sem.run_pure, Result.andThen_ok, List.map_toArray, List.map_cons, List.map_nil, hs, hx, hrun]
 exact hK _ _ (h A' c' w' h2 h3 h4)
end append

/-! bytes as cells -/
def bv (l : List UInt8) : List Value := l.map fun u => .int .u8 (u.toNat : Int)
theorem bv_length (l : List UInt8) : (bv l).length = l.length := by simp [bv]
theorem bv_get (l : List UInt8) (k : Nat) (u : UInt8) (h : l[k]? = some u) : (bv l)[k]? = some (.int .u8 (u.toNat : Int)) := by simp [bv, h]
theorem bv_one (l : List UInt8) : ∀ u ∈ bv l, u.oneCell' = true := by
 intro u hu
 obtain ⟨x, _, rfl⟩ := List.mem_map.1 hu
 rfl
section conv
variable {P : Program}
end conv
theorem get_ex {α : Type} (l : List α) {k : Nat} (h : k < l.length) : ∃ u, l[k]? = some u := ⟨_, List.getElem?_eq_getElem h⟩
theorem ret_int {k : IntKind} {a b : Int} (h : a = b) : Ending.returned (.int k a) = .returned (.int k b) := by rw [h]
/-! slices of bytes, told by what they hold -/
structure Bs where
 A : Option Addr
 n : Nat
 c : Nat
 l : List UInt8
def Bs.v (r : Bs) : Value := .slice r.A r.n r.c
structure Bs.ok (w : World) (r : Bs) : Prop where
 row : Row w w.heap.size 1 r.A r.n (bv r.l)
 le : r.n ≤ r.c
 cap : r.c ≤ maxLen
theorem Bs.ok.len {w : World} {r : Bs} (h : r.ok w) : r.l.length = r.n := by have := h.row.1; rw [bv_length] at this; omega
theorem Bs.ok.below {w w' : World} {r : Bs} (h : r.ok w) (hb : Below w.heap.size w w') : r.ok w' := ⟨(h.row.below hb).more hb.size, h.le, h.cap⟩
theorem u8_of (p : Int) (h0 : 0 ≤ p) (h1 : p ≤ 255) : ((UInt8.ofNat p.toNat).toNat : Int) = p := by
 rw [UInt8.toNat_ofNat', Nat.mod_eq_of_lt (by omega)]
 omega
theorem Own.ok {w : World} {base : Nat} {e : TypeId} {A : Option Addr} {n c : Nat} {l : List UInt8} (h : Own w base e 1 A n c (bv l)) : (Bs.mk A n c l).ok w := ⟨h.row, h.le, h.cap⟩

/-! slices of any elements, told by their cells -/
structure Sl where
 A : Option Addr
 n : Nat
 c : Nat
 xs : List Value
def Sl.v (r : Sl) : Value := .slice r.A r.n r.c
structure Sl.ok (sz : Nat) (w : World) (r : Sl) : Prop where
 row : Row w w.heap.size sz r.A r.n r.xs
 one : ∀ u ∈ r.xs, u.oneCell' = true
theorem Sl.ok.below {w w' : World} {r : Sl} {sz : Nat} (h : r.ok sz w) (hb : Below w.heap.size w w') : r.ok sz w' := ⟨(h.row.below hb).more hb.size, h.one⟩
def flatV (rows : List Sl) : List Value := rows.flatMap (·.xs)
def lenV (rows : List Sl) : Nat := (rows.map (·.n)).sum
theorem flatV_snoc (rows : List Sl) (r : Sl) : flatV (rows ++ [r]) = flatV rows ++ r.xs := by simp [flatV]
theorem lenV_snoc (rows : List Sl) (r : Sl) : lenV (rows ++ [r]) = lenV rows + r.n := by simp [lenV]
theorem lenV_append (a b : List Sl) : lenV (a ++ b) = lenV a + lenV b := by simp [lenV]
theorem lenV_take_le (rows : List Sl) (k : Nat) : lenV (rows.take k) ≤ lenV rows := by
 have h : lenV rows = lenV (rows.take k) + lenV (rows.drop k) := by rw [← lenV_append, List.take_append_drop]
 omega
theorem grown_refl (w : World) (r : Option Nat) : w.grownBy w r := ⟨rfl, rfl, rfl, Nat.le_refl _, fun _ _ _ => rfl⟩
theorem grown_set {a w : World} {g : Nat} (h : a.grownBy w (some g)) (j : Nat) (u : Value) : a.grownBy (w.setCell ⟨g, j, none⟩ u) (some g) :=
 ⟨h.os, h.tape, h.output, by simpa [World.setCell] using h.size, fun i hi hne => (Below.heap_setCell w ⟨g, j, none⟩ u i (fun e => hne (by rw [e]))).trans (h.block i hi hne)⟩
theorem bthen {w w1 w2 : World} (h : Below w.heap.size w w1) (k : Below w1.heap.size w1 w2) : Below w.heap.size w w2 := h.trans (k.mono h.size)
theorem wI (x : Int) (h0 : -4611686018427387904 ≤ x) (h1 : x ≤ 4611686018427387904) : wrap64 x = x := IntWalk.wrap64_in x ⟨by omega, by omega⟩
theorem take_snoc {α : Type} (l : List α) (k : Nat) (u : α) (h : l[k]? = some u) : l.take (k + 1) = l.take k ++ [u] := by
 obtain ⟨hk, rfl⟩ := List.getElem?_eq_some_iff.1 h
 rw [List.take_succ_eq_append_getElem hk]
theorem cell_at {w : World} {g : Nat} {cs : Array Value} {t : TypeId} (h : w.heap[g]? = some (.cells cs t (0, 0))) (j : Nat) : w.cell? ⟨g, j, none⟩ = cs[j]? := cell_of_row w g j cs t (0, 0) h
theorem frozen_at {w : World} {g : Nat} {cs : Array Value} {t : TypeId} (h : w.heap[g]? = some (.cells cs t (0, 0))) (j : Nat) : w.frozen? ⟨g, j, none⟩ = false := by simp [World.frozen?, h]
theorem heap_lt {w : World} {g : Nat} {o : Obj} (h : w.heap[g]? = some o) : g < w.heap.size := (Array.getElem?_eq_some_iff.1 h).1
theorem heap_set {w : World} {g : Nat} {cs : Array Value} {t : TypeId} (h : w.heap[g]? = some (.cells cs t (0, 0))) (j : Nat) (u : Value) : (w.setCell ⟨g, j, none⟩ u).heap[g]? = some (.cells (cs.setIfInBounds j u) t (0, 0)) := by
 simp [World.setCell, Array.getElem?_modify, h]
theorem heap_new (w : World) (cs : Array Value) (t : TypeId) : (w.alloc (.cells cs t)).heap[w.heap.size]? = some (.cells cs t (0, 0)) := heap_alloc_new w _
end Go.Proofs.Ytdmgomknamdcfaa

/- Blocks that are known whole: structs and arrays by their cells, made, loaded, stored, in plain regions and in those that draw their order. No condition. -/
namespace Go.Proofs.Ytdmgomknamdcfaa
open Go.RowKit
set_option linter.unusedVariables false
set_option maxRecDepth 20000

/-- block g holds just the cells cs, of type t -/
def Blk (w : World) (g : Nat) (t : TypeId) (cs : List Value) : Prop := w.heap[g]? = some (.cells cs.toArray t (0, 0))

section
variable {w w' : World} {g : Nat} {t : TypeId} {cs : List Value}
theorem Blk.lt (h : Blk w g t cs) : g < w.heap.size := heap_lt h
theorem Blk.cell (h : Blk w g t cs) (j : Nat) : w.cell? ⟨g, j, none⟩ = cs[j]? := by rw [cell_at h j]; simp
theorem Blk.frozen (h : Blk w g t cs) (j : Nat) : w.frozen? ⟨g, j, none⟩ = false := frozen_at h j
theorem Blk.new (w : World) (t : TypeId) (cs : List Value) : Blk (w.alloc (.cells cs.toArray t)) w.heap.size t cs := heap_new w _ t
theorem Blk.newN (w : World) (t : TypeId) (cs : List Value) (n : Nat) (h : w.heap.size = n) : Blk (w.alloc (.cells cs.toArray t)) n t cs := by subst h; exact heap_new w _ t
theorem Blk.drew (h : Blk w g t cs) : Blk w.drew g t cs := h
theorem Blk.alloc (h : Blk w g t cs) (o : Obj) : Blk (w.alloc o) g t cs := (Below.heap_alloc w o g h.lt).trans h
theorem Blk.below {B : Nat} (h : Blk w g t cs) (hb : Below B w w') (hg : g < B) : Blk w' g t cs := (hb.block g hg).trans h
theorem Blk.on (h : Blk w g t cs) (hb : Below w.heap.size w w') : Blk w' g t cs := h.below hb h.lt
theorem Blk.grown {row : Option Nat} (h : Blk w g t cs) (hb : w.grownBy w' row) (hg : some g ≠ row) : Blk w' g t cs := (hb.block g h.lt hg).trans h
theorem Blk.set (h : Blk w g t cs) (j : Nat) (u : Value) : Blk (w.setCell ⟨g, j, none⟩ u) g t (cs.set j u) := by
 have := heap_set h j u
 unfold Blk
 rw [this]
 simp
theorem Blk.far (h : Blk w g t cs) {p : Addr} (hp : g ≠ p.block) (u : Value) : Blk (w.setCell p u) g t cs := (Below.heap_setCell w p u g hp).trans h
theorem Blk.range (h : Blk w g t cs) (o n : Nat) : w.rangeAt g o ((cs.drop o).take n) := fun j v hv => by
 rw [h.cell]
 rw [List.getElem?_take] at hv
 split at hv
 ·rw [List.getElem?_drop] at hv; exact hv
 ·cases hv
theorem Blk.row (h : Blk w g t cs) (sz o n : Nat) (hn : o + n * sz ≤ cs.length) : Row w w.heap.size sz (some ⟨g, o, none⟩) n ((cs.drop o).take (n * sz)) :=
 ⟨by rw [List.length_take, List.length_drop]; omega, fun _ => ⟨g, o, rfl, h.lt, fun j u hu => h.range o (n * sz) j u hu⟩⟩
theorem Blk.there (h : Blk w g t cs) (o n : Nat) (hn : o + n ≤ cs.length) : w.there g o n := fun j hj => by
 refine ⟨?_, h.frozen _⟩
 rw [h.cell, List.getElem?_eq_getElem (by omega)]
 rfl
theorem blk_setCells (new : List Value) : ∀ (o : Nat) (w : World) (cs : List Value), Blk w g t cs → o + new.length ≤ cs.length → Blk (w.setCells g o new) g t (cs.take o ++ new ++ cs.drop (o + new.length)) := by
 induction new with
 | nil =>
  intro o w cs h ho
  have e : cs.take o ++ [] ++ cs.drop (o + 0) = cs := by simp
  simp only [List.length_nil]
  rw [e]
  exact h
 | cons v new ih =>
  intro o w cs h ho
  simp only [List.length_cons] at ho
  have h1 := ih (o + 1) (w.setCell ⟨g, o, none⟩ v) (cs.set o v) (h.set o v) (by rw [List.length_set]; omega)
  have e : (cs.set o v).take (o + 1) ++ new ++ (cs.set o v).drop (o + 1 + new.length) = cs.take o ++ (v :: new) ++ cs.drop (o + (v :: new).length) := by
   have e1 : (cs.set o v).take (o + 1) = cs.take o ++ [v] := by
    rw [take_snoc (cs.set o v) o v (by rw [List.getElem?_set_self (by omega)]), List.take_set_of_le (Nat.le_refl _)]
   have e2 : (cs.set o v).drop (o + 1 + new.length) = cs.drop (o + (new.length + 1)) := by
    rw [List.drop_set_of_lt (by omega)]
    congr 1
    omega
   rw [e1, e2]
   simp
  rw [e] at h1
  exact h1
theorem grown_setCells (g : Nat) (new : List Value) : ∀ (o : Nat) (a w : World), a.grownBy w (some g) → a.grownBy (w.setCells g o new) (some g) := by
 induction new with
 | nil => exact fun _ _ _ h => h
 | cons v new ih => exact fun o a w h => ih (o + 1) a _ (grown_set h o v)
theorem size_setCells (g : Nat) (new : List Value) : ∀ (o : Nat) (w : World), (w.setCells g o new).heap.size = w.heap.size := by
 induction new with
 | nil => exact fun _ _ => rfl
 | cons v new ih => exact fun o w => (ih (o + 1) _).trans (by simp [World.setCell])
theorem alloc_below (w : World) (o : Obj) : Below w.heap.size w (w.alloc o) := (Below.refl _ _).alloc (Nat.le_refl _) o
end

section
variable {P : Program} {w : World} {ops : Array Oper} {rest : List Oper} {o : Oper} {a : Act} {Q : Exit → Act → World → Prop} {K : Act → World → Prop}
theorem wp_value {v : Value} {w' : World} (h : (execOp a.eval o).run P w = .ok (.value v) w') (hk : K (a.put o.dst v) w') : o.wp P a w K Q := by
 unfold Oper.wp
 rw [h]
 exact hk
theorem wpList_value (hgd : Region.wanted o (yielded ops a.tmps) = true) {v : Value} {w' : World} (h : (execOp a.eval o).run P w = .ok (.value v) w') (hk : wpList P ops Q rest (a.put o.dst v) w') : wpList P ops Q (o :: rest) a w :=
 wpList_wanted hgd fun _ hK => wp_value h (hK _ _ hk)

theorem exec_alloc (T : TypeId) (ho : o.op = .alloc T) (zs : List Value) (hz : ∀ w, (zeroValue T).run P w = .ok (.agg zs.toArray) w) :
  (execOp a.eval o).run P w = .ok (.value (.pointer (some ⟨w.heap.size, 0, none⟩))) (w.alloc (.cells zs.toArray T)) := by
 unfold execOp
 simp only [ho, Instr.alloc, Sem.run_bind, hz, Result.andThen_ok, newVar, newRow, Value.cells]
 rfl
theorem exec_box (T : TypeId) (x : Operand) (ho : o.op = .box T x) (cs : List Value) (hx : a.eval x = .agg cs.toArray) :
  (execOp a.eval o).run P w = .ok (.value (.pointer (some ⟨w.heap.size, 0, none⟩))) (w.alloc (.cells cs.toArray T)) := by
 unfold execOp
 simp only [ho, hx, Instr.box, Sem.run_bind, newVar, newRow, Value.cells]
 rfl
theorem exec_load (ty : TypeId) (x : Operand) (ho : o.op = .load ty x) (g : Nat) (hx : a.eval x = .pointer (some ⟨g, 0, none⟩)) (t : TypeId) (cs : List Value) (d : TypeDesc) (hb : Blk w g t cs)
  (hu : P.underlying ty = some d) (hd : (match d with | .struct _ | .array _ _ => true | _ => false) = true) (hi : (P.info? ty).map (·.size) = some cs.length) :
  (execOp a.eval o).run P w = .ok (.value (.agg cs.toArray)) w := by
 unfold execOp
 simp only [ho, hx, Instr.loadAt, Instr.sureAddr, Sem.run_bind, Sem.run_pure, Result.andThen_ok, run_loadVar_row w g t ty cs.toArray (0, 0) d hb hu hd (by simpa using hi)]
theorem exec_load_mid (ty : TypeId) (x : Operand) (ho : o.op = .load ty x) (b off : Nat) (hx : a.eval x = .pointer (some ⟨b, off, none⟩)) (cs : List Value) (d : TypeDesc) (hc : w.rangeAt b off cs)
  (hu : P.underlying ty = some d) (hd : d.isRow = true) (hi : (P.info? ty).map (·.size) = some cs.length) :
  (execOp a.eval o).run P w = .ok (.value (.agg cs.toArray)) w := by
 unfold execOp
 simp only [ho, hx, Sem.run_bind, Sem.run_pure, Result.andThen_ok, run_loadAt_mid w b off ty cs d hc hu hd hi]
theorem run_store_blk (ty : TypeId) (g off : Nat) (new : List Value) (t : TypeId) (cs : List Value) (hb : Blk w g t cs) (hi : (P.info? ty).map (·.size) = some new.length) (hoff : off + new.length ≤ cs.length) (h1 : ∀ v ∈ new, v.oneCell' = true) :
  (Instr.storeAt ty (.pointer (some ⟨g, off, none⟩)) (.agg new.toArray)).run P w = .ok () (w.setCells g off new) := by
 have := run_storeAt_mid (P := P) w g off ty new.toArray (by simpa using hb.there off new.length hoff) (by simpa using hi) (all_oneCell_toArray h1)
 simpa using this
theorem wp_store_blk (ty : TypeId) (x y : Operand) (ho : o.op = .store ty x y) (g off : Nat) (new : List Value) (hx : a.eval x = .pointer (some ⟨g, off, none⟩)) (hy : a.eval y = .agg new.toArray)
  (t : TypeId) (cs : List Value) (hb : Blk w g t cs) (hi : (P.info? ty).map (·.size) = some new.length) (hoff : off + new.length ≤ cs.length) (h1 : ∀ v ∈ new, v.oneCell' = true)
  (h : ∀ w', Blk w' g t (cs.take off ++ new ++ cs.drop (off + new.length)) → w.grownBy w' (some g) → w'.heap.size = w.heap.size → K (a.put o.dst undef) w') : o.wp P a w K Q := by
 unfold Oper.wp execOp
 simp only [ho, hx, hy, Sem.run_bind, Sem.run_pure, run_store_blk ty g off new t cs hb hi hoff h1, Result.andThen_ok]
 exact (h _ (blk_setCells new off w cs hb hoff) (grown_setCells g new off w w (grown_refl w _)) (size_setCells g new off w))

theorem wp_store_all (ty : TypeId) (x y : Operand) (ho : o.op = .store ty x y) (g : Nat) (new : List Value) (hx : a.eval x = .pointer (some ⟨g, 0, none⟩)) (hy : a.eval y = .agg new.toArray)
  (t : TypeId) (cs : List Value) (hb : Blk w g t cs) (hi : (P.info? ty).map (·.size) = some new.length) (hl : new.length = cs.length) (h1 : ∀ v ∈ new, v.oneCell' = true)
  (h : ∀ w', Blk w' g t new → w.grownBy w' (some g) → w'.heap.size = w.heap.size → K (a.put o.dst undef) w') : o.wp P a w K Q :=
 wp_store_blk ty x y ho g 0 new hx hy t cs hb hi (by omega) h1 (fun w' hb' hg hs => h w' (by
  have e : cs.take 0 ++ new ++ cs.drop (0 + new.length) = new := by rw [List.drop_of_length_le (by omega)]; simp
  rw [e] at hb'
  exact hb') hg hs)
theorem wp_alloc_blk (T : TypeId) (ho : o.op = .alloc T) (zs : List Value) (hz : ∀ w, (zeroValue T).run P w = .ok (.agg zs.toArray) w)
  (h : ∀ g w', Blk w' g T zs → Below w.heap.size w w' → w'.heap.size = w.heap.size + 1 → g = w.heap.size → K (a.put o.dst (.pointer (some ⟨g, 0, none⟩))) w') : o.wp P a w K Q :=
 wp_value (exec_alloc T ho zs hz) (h _ _ (Blk.new w T zs) (alloc_below w _) (by simp) rfl)
theorem wpList_alloc_blk (hgd : Region.wanted o (yielded ops a.tmps) = true) (T : TypeId) (ho : o.op = .alloc T) (zs : List Value) (hz : ∀ w, (zeroValue T).run P w = .ok (.agg zs.toArray) w)
  (h : ∀ w', Blk w' w.heap.size T zs → Below w.heap.size w w' → w'.heap.size = w.heap.size + 1 → wpList P ops Q rest (a.put o.dst (.pointer (some ⟨w.heap.size, 0, none⟩))) w') : wpList P ops Q (o :: rest) a w :=
 wpList_value hgd (exec_alloc T ho zs hz) (h _ (Blk.new w T zs) (alloc_below w _) (by simp))
theorem wpList_box_blk (hgd : Region.wanted o (yielded ops a.tmps) = true) (T : TypeId) (x : Operand) (ho : o.op = .box T x) (cs : List Value) (hx : a.eval x = .agg cs.toArray)
  (h : ∀ w', Blk w' w.heap.size T cs → Below w.heap.size w w' → w'.heap.size = w.heap.size + 1 → wpList P ops Q rest (a.put o.dst (.pointer (some ⟨w.heap.size, 0, none⟩))) w') : wpList P ops Q (o :: rest) a w :=
 wpList_value hgd (exec_box T x ho cs hx) (h _ (Blk.new w T cs) (alloc_below w _) (by simp))
theorem wpList_load_blk (hgd : Region.wanted o (yielded ops a.tmps) = true) (ty : TypeId) (x : Operand) (ho : o.op = .load ty x) (g : Nat) (hx : a.eval x = .pointer (some ⟨g, 0, none⟩)) (t : TypeId) (cs : List Value) (d : TypeDesc) (hb : Blk w g t cs)
  (hu : P.underlying ty = some d) (hd : (match d with | .struct _ | .array _ _ => true | _ => false) = true) (hi : (P.info? ty).map (·.size) = some cs.length)
  (h : wpList P ops Q rest (a.put o.dst (.agg cs.toArray)) w) : wpList P ops Q (o :: rest) a w :=
 wpList_value hgd (exec_load ty x ho g hx t cs d hb hu hd hi) h
/-- a store of all cells of a block -/
theorem wpList_store_all (hgd : Region.wanted o (yielded ops a.tmps) = true) (ty : TypeId) (x y : Operand) (ho : o.op = .store ty x y) (g : Nat) (new : List Value) (hx : a.eval x = .pointer (some ⟨g, 0, none⟩)) (hy : a.eval y = .agg new.toArray)
  (t : TypeId) (cs : List Value) (hb : Blk w g t cs) (hi : (P.info? ty).map (·.size) = some new.length) (hl : new.length = cs.length) (h1 : ∀ v ∈ new, v.oneCell' = true)
  (h : ∀ w', Blk w' g t new → w.grownBy w' (some g) → w'.heap.size = w.heap.size → wpList P ops Q rest (a.put o.dst undef) w') : wpList P ops Q (o :: rest) a w :=
 wpList_wanted hgd fun _ hK => wp_store_blk ty x y ho g 0 new hx hy t cs hb hi (by omega) h1 (fun w' hb' hg hs => hK _ _ (h w' (by
  have e : cs.take 0 ++ new ++ cs.drop (0 + new.length) = new := by rw [List.drop_of_length_le (by omega)]; simp
  rw [e] at hb'
  exact hb') hg hs))
/-- a store of an array's cells into the midst of a block -/
theorem wpList_store_blk (hgd : Region.wanted o (yielded ops a.tmps) = true) (ty : TypeId) (x y : Operand) (ho : o.op = .store ty x y) (g off : Nat) (new : List Value) (hx : a.eval x = .pointer (some ⟨g, off, none⟩)) (hy : a.eval y = .agg new.toArray)
  (t : TypeId) (cs : List Value) (hb : Blk w g t cs) (hi : (P.info? ty).map (·.size) = some new.length) (hoff : off + new.length ≤ cs.length) (h1 : ∀ v ∈ new, v.oneCell' = true)
  (h : ∀ w', Blk w' g t (cs.take off ++ new ++ cs.drop (off + new.length)) → w.grownBy w' (some g) → w'.heap.size = w.heap.size → wpList P ops Q rest (a.put o.dst undef) w') : wpList P ops Q (o :: rest) a w :=
 wpList_wanted hgd fun _ hK => wp_store_blk ty x y ho g off new hx hy t cs hb hi hoff h1 (fun w' hb' hg hs => hK _ _ (h w' hb' hg hs))
end

theorem results_cell2 {P : Program} {fn : Func} {p u : Tmp} {ty : TypeId} (h : fn.results = #[.cell p ty, .tmp u]) (tmps : Array Value) (w : World) (g : Nat) (cs : List Value) (t : TypeId) (d : TypeDesc) (hp : tmps.getD p undef = .pointer (some ⟨g, 0, none⟩)) (hb : Blk w g t cs)
  (hu : P.underlying ty = some d) (hd : (match d with | .struct _ | .array _ _ => true | _ => false) = true) (hi : (P.info? ty).map (·.size) = some cs.length) : (results fn tmps).run P w = .ok (.tuple #[.agg cs.toArray, tmps.getD u undef]) w := by
 have hp' : (tmps[p]?).getD undef = .pointer (some ⟨g, 0, none⟩) := by simpa using hp
 simp [results, h, hp', asAddr, run_loadVar_row w g t ty cs.toArray (0, 0) d hb hu hd (by simpa using hi)]
theorem results_cell1 {P : Program} {fn : Func} {p : Tmp} {ty : TypeId} (h : fn.results = #[.cell p ty]) (tmps : Array Value) (w : World) (g : Nat) (cs : List Value) (t : TypeId) (d : TypeDesc) (hp : tmps.getD p undef = .pointer (some ⟨g, 0, none⟩)) (hb : Blk w g t cs)
  (hu : P.underlying ty = some d) (hd : (match d with | .struct _ | .array _ _ => true | _ => false) = true) (hi : (P.info? ty).map (·.size) = some cs.length) : (results fn tmps).run P w = .ok (.agg cs.toArray) w := by
 have hp' : (tmps[p]?).getD undef = .pointer (some ⟨g, 0, none⟩) := by simpa using hp
 simp [results, h, hp', asAddr, run_loadVar_row w g t ty cs.toArray (0, 0) d hb hu hd (by simpa using hi)]

/-! a region that draws its order, one move at a time: S: what was there is as it was -/
section
variable {P : Program} {ops : Array Oper} {Q : Exit → Act → World → Prop} {md : Region.Mode} {S : World → Prop} {fuel : Nat} {listed : Array Bool} {a : Act} {w : World}
end
end Go.Proofs.Ytdmgomknamdcfaa


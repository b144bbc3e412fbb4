/- An append whose row is known to be turned only where it has room; a drawn region that holds one. No condition. -/
import Derived.Test.YtbabkcdhihmomaaBase
import Derived.Test.YtbabkcdhihmomaaRel
namespace Go.Proofs.Ytbabkcdhihmomaa
open Go.RowKit
set_option linter.unusedVariables false
set_option maxRecDepth 20000
section
variable {P : Program} {w : World}
theorem run_append_Own2 (base : Nat) (t ty e : TypeId) (z : Value) (sz bytes : Nat) (ht : P.underlying t = some (.slice e)) (hinfo : (P.info? e).map (fun i => (i.zero, i.size, i.bytes)) = some (some z, sz, bytes))
    (hzs : z.cells.size = sz) (hsz : 0 < sz)
    (A : Option Addr) (n c : Nat) (xs : List Value) (hown : Own w base e sz A n c xs)
    (B : Nat) (X : Option Addr) (m cx : Nat) (news : List Value) (hr : Row w B sz X m news) (h1 : ∀ u ∈ news, u.oneCell' = true)
    (h63 : n + m ≤ maxLen) (hbytes : (n + m) * bytes ≤ 140737488355328) (hbase : base ≤ w.heap.size) :
    ∃ A' c' w', (Builtin.append_ #[t, t] ty #[.slice A n c, .slice X m cx]).run P w = .ok (.slice A' (n + m) c') w' ∧ Own w' base e sz A' (n + m) c' (xs ++ news) ∧ w.grownBy w' (if n + m ≤ c then blk A c else none) ∧
      (n + m ≤ c → A' = A ∧ c' = c) ∧ (¬ n + m ≤ c → ∃ g, A' = some ⟨g, 0, none⟩ ∧ w.heap.size ≤ g) := by
  obtain ⟨i, hi, hz, hsize, hby⟩ := info_parts hinfo
  subst hsize
  subst hby
  rcases Nat.eq_zero_or_pos m with h0 | h0
  · subst h0
    have hn : news = [] := List.eq_nil_of_length_eq_zero (by simpa using hr.1)
    subst hn
    refine ⟨A, c, w, run_append_same w t ty e i ht hi A X n c cx hown.le, by simpa using hown, World.grownBy.refl w _, fun _ => ⟨rfl, rfl⟩, fun h => absurd hown.le (by simpa using h)⟩
  obtain ⟨b, o, rfl, hbB, hcell⟩ := hr.2 h0
  have hnews : ∀ j u, news[j]? = some u → w.cell? ((⟨b, o, none⟩ : Addr).add j) = some u := by
    intro j u hu
    have := hcell j u hu
    unfold Addr.add
    split
    · rename_i hj; subst hj; simpa using this
    · exact this
  have hsmall : n + m ≤ 9223372036854775807 := by simp only [maxLen] at h63; omega
  have hlen : (xs ++ news).length = (n + m) * i.size := by rw [List.length_append, hown.len, hr.1, Nat.add_mul]
  have grown : ∀ (old : Nat), Own (w.drew.alloc (.cells (xs.toArray ++ news.toArray ++ Builtin.zeroCells z.cells (grownCap w (n + m) old e - (n + m))) e)) base e i.size
        (some ⟨w.heap.size, 0, none⟩) (n + m) (grownCap w (n + m) old e) (xs ++ news) := by
    intro old
    have hge := grownCap_ge w (n + m) old e
    refine ⟨hlen, hge, grownCap_le_maxLen w (n + m) old e h63, .inr ⟨w.heap.size, _, rfl, hbase, heap_alloc_new w.drew _, ?_, ?_⟩⟩
    · simp only [Array.size_append, List.size_toArray, size_zeroCells, hzs, hown.len, hr.1, ← Nat.add_mul]
      congr 1
      omega
    · simp only [Array.toList_append, List.append_assoc]
      rw [← List.append_assoc, ← hlen]
      exact List.take_left
  have hnn : news.length = m * i.size := hr.1
  by_cases hroom : n + m ≤ c
  · rcases hown.own with ⟨hn0, hc0⟩ | ⟨g, cur, rfl, hbg, hg, hcs, htake⟩
    · omega
    · have hfit : n * i.size + news.length ≤ cur.size := by rw [hnn, hcs, ← Nat.add_mul]; exact Nat.mul_le_mul_right _ hroom
      have hrun := run_append_room (P := P) w t ty e i ht hi g n c cur hg ⟨b, o, none⟩ m cx news hnn hnews h1 hroom hfit
      refine ⟨_, _, _, hrun, ⟨hlen, hroom, hown.cap, .inr ⟨g, _, rfl, hbg, setRow_heap w g cur _ e _ hg, ?_, ?_⟩⟩, by rw [if_pos hroom]; exact ⟨rfl, rfl, rfl, by simp, fun k _ hk => setRow_other w g k _ (fun e => hk (by rw [e]; unfold blk; rw [if_neg (by omega)]; rfl))⟩, fun _ => ⟨rfl, rfl⟩, fun h => absurd hroom h⟩
      · simp only [List.size_toArray, List.length_append, List.length_take, List.length_drop, Array.length_toList]
        omega
      · rw [htake, ← hlen]
        exact List.take_left
  · rcases A with _ | ad
    · have hn0 : n = 0 := by
        rcases hown.own with ⟨hn0, hc0⟩ | ⟨g, cur, hA, _⟩
        · exact hn0
        · cases hA
      have hc0 : c = 0 := by
        rcases hown.own with ⟨hn0, hc0⟩ | ⟨g, cur, hA, _⟩
        · exact hc0
        · cases hA
      subst hn0
      subst hc0
      have hx : xs = [] := List.eq_nil_of_length_eq_zero (by simpa using hown.len)
      subst hx
      have hrun := run_append_nil (P := P) w t ty e i z ht hi hz ⟨b, o, none⟩ m cx news hnn hnews h0 (by omega) (by have hb := hbytes; simp only [Nat.zero_add] at hb; omega)
      have hgr := grown 0
      simp only [Nat.zero_add, List.nil_append, Array.empty_append] at hgr ⊢
      exact ⟨_, _, _, hrun, hgr, by rw [if_neg (by omega)]; exact grownBy_new w _ _ _, fun h => absurd h (by omega), fun _ => ⟨_, rfl, Nat.le_refl _⟩⟩
    · have holds : ∀ j u, xs[j]? = some u → w.cell? (ad.add j) = some u := by
        intro j u hu
        have hj : j < xs.length := by
          rcases Nat.lt_or_ge j xs.length with h | h
          · exact h
          · rw [List.getElem?_eq_none h] at hu; cases hu
        have hnp : 0 < n := by
          rcases Nat.eq_zero_or_pos n with hz0 | hp
          · rw [hown.len, hz0] at hj; omega
          · exact hp
        obtain ⟨b', o', hA, _, hc'⟩ := hown.row.2 hnp
        injection hA with hA
        subst hA
        have := hc' j u hu
        unfold Addr.add
        split
        · rename_i hj0; subst hj0; simpa using this
        · exact this
      have hrun := run_append_grow (P := P) w t ty e i z ht hi hz ad n c xs hown.len holds ⟨b, o, none⟩ m cx news hnn hnews (by omega) (by omega) (growslice_fits (by omega) hbytes)
      exact ⟨_, _, _, hrun, grown c, by rw [if_neg hroom]; exact grownBy_new w _ _ _, fun h => absurd h hroom, fun _ => ⟨_, rfl, Nat.le_refl _⟩⟩
end
/-- what an append leaves -/
def OwnV (base k : Nat) (xs : List Value) (v : Value) (W : World) : Prop := ∃ A c, v = .slice A k c ∧ Own W base 5 1 A k c xs
theorem OwnV.grown {base k : Nat} {xs : List Value} {v : Value} {A B : World} (h : OwnV base k xs v A) (hg : A.grownBy B none) : OwnV base k xs v B := by
  obtain ⟨X, c, hv, ho⟩ := h
  exact ⟨X, c, hv, ho.kept hg (fun g _ e => by cases e)⟩
structure AppS where
  base : Nat
  n : Nat
  c : Nat
  A : Option Addr
/-- a region that appends once to a row: its steps -/
structure ExtA (p : AppS) (xs news : List Value) (A B : World) : Prop where
  grown : A.grownBy B (blk p.A p.c)
  stays : ∀ v, OwnV p.base (p.n + news.length) (xs ++ news) v A → OwnV p.base (p.n + news.length) (xs ++ news) v B
  pre : Own A p.base 5 1 p.A p.n p.c xs → Own B p.base 5 1 p.A p.n p.c xs
theorem ExtA.refl (p : AppS) (xs news : List Value) (A : World) : ExtA p xs news A A := ⟨grown_refl A _, fun _ h => h, id⟩
theorem ExtA.trans {p : AppS} {xs news : List Value} {A B C : World} (h : ExtA p xs news A B) (k : ExtA p xs news B C) : ExtA p xs news A C := ⟨grown_trans h.grown k.grown, fun v x => k.stays v (h.stays v x), fun x => k.pre (h.pre x)⟩
theorem grown_wide {A B : World} (row : Option Nat) (h : A.grownBy B none) : A.grownBy B row := below_grow (grow_below h) row
theorem ExtA.plain {p : AppS} {xs news : List Value} {A B : World} (h : A.grownBy B none) : ExtA p xs news A B := ⟨grown_wide _ h, fun _ x => x.grown h, fun x => x.kept h (fun g _ e => by cases e)⟩
theorem blk_some {W : World} {base n c g : Nat} {t : TypeId} {A : Option Addr} {xs : List Value} (h : Own W base t 1 A n c xs) (hb : blk A c = some g) : A = some ⟨g, 0, none⟩ ∧ ∃ cur : Array Value, W.heap[g]? = some (.cells cur t (0, 0)) ∧ cur.size = c := by
  unfold blk at hb
  split at hb
  · cases hb
  · rename_i hc
    rcases h.own with ⟨_, h0⟩ | ⟨g', cur, rfl, _, hh, hs, _⟩
    · omega
    · simp at hb
      subst hb
      exact ⟨rfl, cur, hh, by omega⟩
theorem own_short {W : World} {base n m c : Nat} {t : TypeId} {A : Option Addr} {xs news : List Value} (h : Own W base t 1 A (n + m) c (xs ++ news)) (hx : xs.length = n) : Own W base t 1 A n c xs := by
  refine ⟨by omega, by have := h.le; omega, h.cap, ?_⟩
  rcases h.own with ⟨h0, h1⟩ | ⟨g, cur, hA, hb, hh, hs, ht⟩
  · exact .inl ⟨by omega, h1⟩
  · refine .inr ⟨g, cur, hA, hb, hh, hs, ?_⟩
    have h2 := congrArg (List.take n) ht
    rw [List.take_take, List.take_left' hx, show min n ((n + m) * 1) = n * 1 by omega] at h2
    exact h2
theorem ExtA.app {w w' : World} {p : AppS} {c' : Nat} {A' : Option Addr} {xs news : List Value} (ho : Own w p.base 5 1 p.A p.n p.c xs) (ho' : Own w' p.base 5 1 A' (p.n + news.length) c' (xs ++ news))
    (hg : w.grownBy w' (if p.n + news.length ≤ p.c then blk p.A p.c else none)) (hin : p.n + news.length ≤ p.c → A' = p.A ∧ c' = p.c) : ExtA p xs news w w' := by
  by_cases hr : p.n + news.length ≤ p.c
  · rw [if_pos hr] at hg
    obtain ⟨e1, e2⟩ := hin hr
    rw [e1, e2] at ho'
    refine ⟨hg, fun v hv => ?_, fun _ => own_short ho' (by have := ho.len; omega)⟩
    obtain ⟨X, d, rfl, hx⟩ := hv
    by_cases he : ∃ g, blk X d = some g ∧ blk p.A p.c = some g
    · obtain ⟨g, h1, h2⟩ := he
      obtain ⟨rfl, cur, hc1, hs1⟩ := blk_some hx h1
      obtain ⟨e3, cur2, hc2, hs2⟩ := blk_some ho h2
      rw [hc1] at hc2
      injection hc2 with hc2
      injection hc2 with hc2
      subst hc2
      rw [e3] at ho'
      exact ⟨_, _, by rw [show d = p.c by omega], ho'⟩
    · exact ⟨X, d, rfl, hx.kept hg (fun g h1 h2 => he ⟨g, h1, h2⟩)⟩
  · rw [if_neg hr] at hg
    exact ExtA.plain hg
end Go.Proofs.Ytbabkcdhihmomaa

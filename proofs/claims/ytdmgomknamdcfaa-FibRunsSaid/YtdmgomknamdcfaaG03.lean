/- Texts of this claim put together, in build order: each one's own remark stands ahead of it. -/
import Derived.Test.YtdmgomknamdcfaaG01
/- Plain laws of a tree of prefixes, by bits (layer 9): what is laid in and taken out. No condition. -/
namespace Go.Proofs.Ytdmgomknamdcfaa
set_option linter.unusedVariables false
set_option linter.unusedSimpArgs false

/-- the order of prefixes by their bits: what is longer stands behind -/
def ltB : List Bool → List Bool → Bool
 | [], [] => false
 | [], _ :: _ => true
 | _ :: _, [] => false
 | a :: x, b :: y => if a = b then ltB x y else (!a && b)
theorem ltB_irrefl (x : List Bool) : ltB x x = false := by
 induction x with
 | nil => rfl
 | cons a x ih => unfold ltB; rw [if_pos rfl, ih]
theorem ltB_trans : ∀ (x y z : List Bool), ltB x y = true → ltB y z = true → ltB x z = true
 | [], [], _, h, _ => by simp [ltB] at h
 | [], _ :: _, [], _, h => by simp [ltB] at h
 | [], _ :: _, _ :: _, _, _ => rfl
 | _ :: _, [], _, h, _ => by simp [ltB] at h
 | _ :: _, _ :: _, [], _, h => by simp [ltB] at h
 | a :: x, b :: y, c :: z, h1, h2 => by
  unfold ltB at h1 h2 ⊢
  split at h1
  ·rename_i e1
   subst e1
   split at h2
   ·rename_i e2
    subst e2
    rw [if_pos rfl]
    exact ltB_trans x y z h1 h2
   rename_i e2
   rw [if_neg e2]
   exact h2
  rename_i e1
  split at h2
  ·rename_i e2
   subst e2
   rw [if_neg e1]
   exact h1
  rename_i e2
  cases a <;> cases b <;> cases c <;> simp_all
theorem ltB_tri : ∀ (x y : List Bool), ltB x y = true ∨ x = y ∨ ltB y x = true
 | [], [] => .inr (.inl rfl)
 | [], _ :: _ => .inl rfl
 | _ :: _, [] => .inr (.inr rfl)
 | a :: x, b :: y => by
  by_cases e : a = b
  ·subst e
   unfold ltB
   rw [if_pos rfl, if_pos rfl]
   rcases ltB_tri x y with h | h | h
   ·exact .inl h
   ·exact .inr (.inl (by rw [h]))
   exact .inr (.inr h)
  unfold ltB
  rw [if_neg e, if_neg (fun h => e h.symm)]
  cases a <;> cases b <;> simp_all
theorem ltB_app (p : List Bool) (x y : List Bool) : ltB (p ++ x) (p ++ y) = ltB x y := by
 induction p with
 | nil => rfl
 | cons a p ih =>
  show (if a = a then ltB (p ++ x) (p ++ y) else (!a && a)) = _
  rw [if_pos rfl, ih]
theorem ltB_longer (p r : List Bool) (b : Bool) : ltB p (p ++ b :: r) = true := by
 have h := ltB_app p [] (b :: r)
 rw [List.append_nil] at h
 rw [h]
 rfl
theorem ltB_sides (p r s : List Bool) : ltB (p ++ false :: r) (p ++ true :: s) = true := by
 rw [ltB_app]
 rfl
/-- a prefix's side below another one -/
def sideB (x : List Bool) (n : Nat) : Bool := x.getD n false

/-- a tree: of each node its place, its prefix, whether it is one of the table's, and its value -/
inductive Tr where
 | nil : Tr
 | node (at' : Nat) (p : List Bool) (is : Bool) (v : Int) (l r : Tr) : Tr
deriving DecidableEq
def Tr.isNil : Tr → Bool
 | .nil => true
 | .node .. => false
/-- its places -/
def Tr.ids : Tr → List Nat
 | .nil => []
 | .node n _ _ _ l r => n :: (l.ids ++ r.ids)
/-- its prefixes -/
def Tr.keys : Tr → List (List Bool)
 | .nil => []
 | .node _ p _ _ l r => p :: (l.keys ++ r.keys)
/-- what it tells, in order -/
def Tr.all : Tr → List (List Bool × Int)
 | .nil => []
 | .node _ p is v l r => (if is then [(p, v)] else []) ++ (l.all ++ r.all)
/-- all its prefixes begin so -/
def Tr.under (t : Tr) (b : List Bool) : Prop := ∀ q ∈ t.keys, b <+: q
def Tr.wf : Tr → Prop
 | .nil => True
 | .node _ p is v l r => l.under (p ++ [false]) ∧ r.under (p ++ [true]) ∧ (is = false → v = 0 ∧ l.isNil = false ∧ r.isNil = false) ∧ l.wf ∧ r.wf
theorem all_keys (t : Tr) : ∀ x ∈ t.all, x.1 ∈ t.keys := by
 induction t with
 | nil => intro x h; cases h
 | node n p is v l r ihl ihr =>
  intro x h
  unfold Tr.all at h
  unfold Tr.keys
  rcases List.mem_append.1 h with h | h
  ·cases is
   ·cases h
   simp at h
   subst h
   simp
  rcases List.mem_append.1 h with h | h
  ·exact List.mem_cons_of_mem _ (List.mem_append.2 (.inl (ihl x h)))
  exact List.mem_cons_of_mem _ (List.mem_append.2 (.inr (ihr x h)))
def Sorted (l : List (List Bool × Int)) : Prop := l.Pairwise fun a b => ltB a.1 b.1 = true
theorem all_sorted (t : Tr) (h : t.wf) : Sorted t.all := by
 induction t with
 | nil => exact List.Pairwise.nil
 | node n p is v l r ihl ihr =>
  obtain ⟨h1, h2, _, h3, h4⟩ := h
  have hl := ihl h3
  have hr := ihr h4
  unfold Tr.all Sorted
  refine List.pairwise_append.2 ⟨?_, List.pairwise_append.2 ⟨hl, hr, ?_⟩, ?_⟩
  ·cases is <;> simp
  ·intro a ha b hb
   obtain ⟨ra, ea⟩ := h1 _ (all_keys l a ha)
   obtain ⟨rb, eb⟩ := h2 _ (all_keys r b hb)
   rw [← ea, ← eb, List.append_assoc, List.append_assoc]
   exact ltB_sides p ra rb
  intro a ha b hb
  cases is
  ·cases ha
  simp at ha
  subst ha
  rcases List.mem_append.1 hb with hb | hb
  ·obtain ⟨rb, eb⟩ := h1 _ (all_keys l b hb)
   show ltB p b.1 = true
   rw [← eb, List.append_assoc]
   exact ltB_longer p rb false
  obtain ⟨rb, eb⟩ := h2 _ (all_keys r b hb)
  show ltB p b.1 = true
  rw [← eb, List.append_assoc]
  exact ltB_longer p rb true
/-- two rows in order that hold the same are the same -/
theorem sorted_same : ∀ (l m : List (List Bool × Int)), Sorted l → Sorted m → (∀ x, x ∈ l ↔ x ∈ m) → l = m
 | [], [], _, _, _ => rfl
 | [], y :: m, _, _, h => by have := (h y).2 (by simp); simp at this
 | x :: l, [], _, _, h => by have := (h x).1 (by simp); simp at this
 | x :: l, y :: m, hl, hm, h => by
  obtain ⟨hx, hl'⟩ := List.pairwise_cons.1 hl
  obtain ⟨hy, hm'⟩ := List.pairwise_cons.1 hm
  have hxy : x = y := by
   rcases List.mem_cons.1 ((h x).1 (by simp)) with e | e
   ·exact e
   rcases List.mem_cons.1 ((h y).2 (by simp)) with e2 | e2
   ·exact e2.symm
   have a := hy x e
   have b := hx y e2
   have c := ltB_trans _ _ _ a b
   rw [ltB_irrefl] at c
   cases c
  subst hxy
  have key : ∀ z, z ∈ l ↔ z ∈ m := by
   intro z
   constructor
   ·intro hz
    rcases List.mem_cons.1 ((h z).1 (List.mem_cons_of_mem _ hz)) with e | e
    ·subst e
     have := hx z hz
     rw [ltB_irrefl] at this
     cases this
    exact e
   intro hz
   rcases List.mem_cons.1 ((h z).2 (List.mem_cons_of_mem _ hz)) with e | e
   ·subst e
    have := hy z hz
    rw [ltB_irrefl] at this
    cases this
   exact e
  rw [sorted_same l m hl' hm' key]
theorem sorted_uniq {l : List (List Bool × Int)} (h : Sorted l) {x : List Bool} {u v : Int} (h1 : (x, u) ∈ l) (h2 : (x, v) ∈ l) : u = v := by
 induction l with
 | nil => cases h1
 | cons a l ih =>
  obtain ⟨ha, hl⟩ := List.pairwise_cons.1 h
  rcases List.mem_cons.1 h1 with e1 | e1 <;> rcases List.mem_cons.1 h2 with e2 | e2
  ·rw [← e1] at e2
   injection e2 with _ e
   exact e.symm
  ·have := ha _ e2
   rw [← e1, ltB_irrefl] at this
   cases this
  ·have := ha _ e1
   rw [← e2, ltB_irrefl] at this
   cases this
  exact ih hl e1 e2

/-! laying in -/
/-- what two prefixes have in common -/
def lcp : List Bool → List Bool → List Bool
 | a :: x, b :: y => if a = b then a :: lcp x y else []
 | _, _ => []
theorem lcp_left : ∀ (x y : List Bool), lcp x y <+: x
 | [], _ => by unfold lcp; exact List.prefix_refl _
 | _ :: _, [] => by unfold lcp; exact List.nil_prefix
 | a :: x, b :: y => by
  unfold lcp
  split
  ·exact List.cons_prefix_cons.2 ⟨rfl, lcp_left x y⟩
  exact List.nil_prefix
theorem lcp_right : ∀ (x y : List Bool), lcp x y <+: y
 | [], _ => by unfold lcp; exact List.nil_prefix
 | _ :: _, [] => by unfold lcp; exact List.nil_prefix
 | a :: x, b :: y => by
  unfold lcp
  split
  ·rename_i e
   exact List.cons_prefix_cons.2 ⟨e, lcp_right x y⟩
  exact List.nil_prefix
theorem lcp_side : ∀ (x y : List Bool), lcp x y ≠ x → lcp x y ≠ y → ∃ b : Bool, (lcp x y ++ [b]) <+: x ∧ (lcp x y ++ [!b]) <+: y
 | [], _, h, _ => absurd (by unfold lcp; rfl) h
 | _ :: _, [], _, h => absurd (by unfold lcp; rfl) h
 | a :: x, b :: y, h1, h2 => by
  unfold lcp at h1 h2 ⊢
  split at h1
  ·rename_i e
   subst e
   rw [if_pos rfl] at h2 ⊢
   obtain ⟨c, hc1, hc2⟩ := lcp_side x y (fun e => h1 (by rw [e])) (fun e => h2 (by rw [e]))
   exact ⟨c, List.cons_prefix_cons.2 ⟨rfl, hc1⟩, List.cons_prefix_cons.2 ⟨rfl, hc2⟩⟩
  rename_i e
  rw [if_neg e]
  refine ⟨a, ?_, ?_⟩
  ·exact List.cons_prefix_cons.2 ⟨rfl, List.nil_prefix⟩
  refine List.cons_prefix_cons.2 ⟨?_, List.nil_prefix⟩
  cases a <;> cases b <;> simp_all
theorem side_ne {p x y : List Bool} {b : Bool} (h1 : (p ++ [b]) <+: x) (h2 : (p ++ [!b]) <+: y) : x ≠ y := by
 rintro rfl
 rcases List.prefix_or_prefix_of_prefix h1 h2 with h | h
 ·have := h.eq_of_length (by simp)
  have := List.append_cancel_left this
  cases b <;> simp at this
 have := h.eq_of_length (by simp)
 have := List.append_cancel_left this
 cases b <;> simp at this
theorem bit_of {p x : List Bool} {b : Bool} (h : (p ++ [b]) <+: x) : sideB x p.length = b := by
 obtain ⟨r, rfl⟩ := h
 unfold sideB
 rw [List.append_assoc, List.getD_eq_getElem?_getD, List.getElem?_append_right (Nat.le_refl _)]
 simp
theorem lcp_is_left (x y : List Bool) : lcp x y = x ↔ x <+: y := by
 constructor
 ·intro h
  have := lcp_right x y
  rwa [h] at this
 intro h
 rcases Classical.em (lcp x y = x) with e | e
 ·exact e
 exfalso
 by_cases e2 : lcp x y = y
 ·have h3 := lcp_left x y
  rw [e2] at h3
  have := h3.length_le
  have := h.length_le
  have h4 : y = x := h3.eq_of_length (by omega)
  rw [e2] at e
  exact e h4
 obtain ⟨b, h1, h2⟩ := lcp_side x y e e2
 exact side_ne (h1.trans h) h2 rfl
theorem lcp_comm : ∀ (x y : List Bool), lcp x y = lcp y x
 | [], [] => rfl
 | [], _ :: _ => rfl
 | _ :: _, [] => rfl
 | a :: x, b :: y => by
  unfold lcp
  by_cases e : a = b
  ·subst e
   rw [if_pos rfl, if_pos rfl, lcp_comm x y]
  rw [if_neg e, if_neg (fun h => e h.symm)]
theorem lcp_is_right (x y : List Bool) : lcp x y = y ↔ y <+: x := by
 rw [lcp_comm]
 exact lcp_is_left y x
theorem lcp_max : ∀ {b x y : List Bool}, b <+: x → b <+: y → b <+: lcp x y
 | [], _, _, _, _ => List.nil_prefix
 | c :: b, [], _, h, _ => by simp at h
 | c :: b, _ :: _, [], _, h => by simp at h
 | c :: b, a :: x, d :: y, h1, h2 => by
  obtain ⟨e1, g1⟩ := List.cons_prefix_cons.1 h1
  obtain ⟨e2, g2⟩ := List.cons_prefix_cons.1 h2
  unfold lcp
  rw [if_pos (by rw [← e1, ← e2])]
  exact List.cons_prefix_cons.2 ⟨e1, lcp_max g1 g2⟩
/-- a longer prefix begins with a shorter one and the bit behind it -/
theorem next_bit {p x : List Bool} (h : p <+: x) (hne : p ≠ x) : (p ++ [sideB x p.length]) <+: x := by
 obtain ⟨r, rfl⟩ := h
 cases r with
 | nil => simp at hne
 | cons b r =>
  have : sideB (p ++ b :: r) p.length = b := by
   unfold sideB
   rw [List.getD_eq_getElem?_getD, List.getElem?_append_right (Nat.le_refl _)]
   simp
  rw [this]
  exact ⟨r, by simp⟩
def Tr.ins (n1 n2 : Nat) (x : List Bool) (v : Int) : Tr → Tr
 | .nil => .node n1 x true v .nil .nil
 | .node at' p is w l r =>
  if p = x then .node at' p true v l r
  else if p <+: x then (if sideB x p.length then .node at' p is w l (Tr.ins n1 n2 x v r) else .node at' p is w (Tr.ins n1 n2 x v l) r)
  else if x <+: p then (if sideB p x.length then .node n1 x true v .nil (.node at' p is w l r) else .node n1 x true v (.node at' p is w l r) .nil)
  else (if sideB x (lcp p x).length then .node n2 (lcp p x) false 0 (.node at' p is w l r) (.node n1 x true v .nil .nil) else .node n2 (lcp p x) false 0 (.node n1 x true v .nil .nil) (.node at' p is w l r))
theorem under_node {n : Nat} {p : List Bool} {is : Bool} {v : Int} {l r : Tr} (h : (Tr.node n p is v l r).wf) {b : List Bool} (hb : b <+: p) : (Tr.node n p is v l r).under b := by
 obtain ⟨h1, h2, _⟩ := h
 intro q hq
 unfold Tr.keys at hq
 rcases List.mem_cons.1 hq with e | e
 ·rw [e]; exact hb
 rcases List.mem_append.1 e with e | e
 ·exact hb.trans ((List.prefix_append _ _).trans (h1 q e))
 exact hb.trans ((List.prefix_append _ _).trans (h2 q e))
theorem ins_under (n1 n2 : Nat) (x : List Bool) (v : Int) (b : List Bool) (hx : b <+: x) (t : Tr) (h : t.under b) : (t.ins n1 n2 x v).under b := by
 induction t with
 | nil =>
  intro q hq
  simp [Tr.ins, Tr.keys] at hq
  rw [hq]; exact hx
 | node at' p is w l r ihl ihr =>
  have hp : b <+: p := h p (by simp [Tr.keys])
  have hl : l.under b := fun q hq => h q (by simp [Tr.keys, hq])
  have hr : r.under b := fun q hq => h q (by simp [Tr.keys, hq])
  unfold Tr.ins
  split
  ·intro q hq; exact h q (by simpa [Tr.keys] using hq)
  split
  ·split
   ·intro q hq
    simp only [Tr.keys, List.mem_cons, List.mem_append] at hq
    rcases hq with e | e | e
    ·rw [e]; exact hp
    ·exact hl q e
    exact ihr hr q e
   intro q hq
   simp only [Tr.keys, List.mem_cons, List.mem_append] at hq
   rcases hq with e | e | e
   ·rw [e]; exact hp
   ·exact ihl hl q e
   exact hr q e
  split
  ·split
   ·intro q hq
    simp only [Tr.keys, List.nil_append, List.mem_cons, List.mem_append] at hq
    rcases hq with e | e | e | e
    ·rw [e]; exact hx
    ·rw [e]; exact hp
    ·exact hl q e
    exact hr q e
   intro q hq
   simp only [Tr.keys, List.append_nil, List.mem_cons, List.mem_append] at hq
   rcases hq with e | e | e | e
   ·rw [e]; exact hx
   ·rw [e]; exact hp
   ·exact hl q e
   exact hr q e
  have hc := lcp_max hp hx
  split
  ·intro q hq
   simp only [Tr.keys, List.nil_append, List.append_nil, List.mem_cons, List.mem_append, List.not_mem_nil, or_false] at hq
   rcases hq with e | (e | e | e) | e
   ·rw [e]; exact hc
   ·rw [e]; exact hp
   ·exact hl q e
   ·exact hr q e
   rw [e]; exact hx
  intro q hq
  simp only [Tr.keys, List.nil_append, List.append_nil, List.mem_cons, List.mem_append, List.not_mem_nil, or_false] at hq
  rcases hq with e | e | e | e | e
  ·rw [e]; exact hc
  ·rw [e]; exact hx
  ·rw [e]; exact hp
  ·exact hl q e
  exact hr q e
theorem tf {P : Prop} (h : true = false) : P := by cases h
theorem nil_under (b : List Bool) : Tr.nil.under b := fun q h => by cases h
theorem leaf_under {n : Nat} {x : List Bool} {v : Int} {b : List Bool} (h : b <+: x) : (Tr.node n x true v .nil .nil).under b := fun q hq => by
 simp [Tr.keys] at hq
 rw [hq]; exact h
theorem ins_notNil (n1 n2 : Nat) (x : List Bool) (v : Int) (t : Tr) : (t.ins n1 n2 x v).isNil = false := by
 cases t with
 | nil => rfl
 | node at' p is w l r =>
  unfold Tr.ins
  split
  ·rfl
  split
  ·split <;> rfl
  split
  ·split <;> rfl
  split <;> rfl
theorem bit_false {x : List Bool} {n : Nat} (h : ¬ sideB x n = true) : sideB x n = false := by simpa using h
theorem ins_wf (n1 n2 : Nat) (x : List Bool) (v : Int) (t : Tr) (h : t.wf) : (t.ins n1 n2 x v).wf := by
 induction t with
 | nil => exact ⟨nil_under _, nil_under _, tf, trivial, trivial⟩
 | node at' p is w l r ihl ihr =>
  have hh := h
  obtain ⟨h1, h2, h3, h4, h5⟩ := h
  unfold Tr.ins
  split
  ·exact ⟨h1, h2, tf, h4, h5⟩
  rename_i hne
  split
  ·rename_i hpx
   have hb := next_bit hpx hne
   split
   ·rename_i hs
    rw [hs] at hb
    exact ⟨h1, ins_under n1 n2 x v _ hb r h2, fun e => ⟨(h3 e).1, (h3 e).2.1, ins_notNil _ _ _ _ _⟩, h4, ihr h5⟩
   rename_i hs
   rw [bit_false hs] at hb
   exact ⟨ins_under n1 n2 x v _ hb l h1, h2, fun e => ⟨(h3 e).1, ins_notNil _ _ _ _ _, (h3 e).2.2⟩, ihl h4, h5⟩
  rename_i hpx
  split
  ·rename_i hxp
   have hb := next_bit hxp (fun e => hne e.symm)
   split
   ·rename_i hs
    rw [hs] at hb
    exact ⟨nil_under _, under_node hh hb, tf, trivial, hh⟩
   rename_i hs
   rw [bit_false hs] at hb
   exact ⟨under_node hh hb, nil_under _, tf, hh, trivial⟩
  rename_i hxp
  obtain ⟨b, hb1, hb2⟩ := lcp_side p x (fun e => hpx ((lcp_is_left p x).1 e)) (fun e => hxp ((lcp_is_right p x).1 e))
  have hx : sideB x (lcp p x).length = !b := bit_of hb2
  split
  ·rename_i hs
   rw [hx] at hs
   have e : b = false := by simpa using hs
   subst e
   exact ⟨under_node hh hb1, leaf_under hb2, fun _ => ⟨rfl, rfl, rfl⟩, hh, ⟨nil_under _, nil_under _, tf, trivial, trivial⟩⟩
  rename_i hs
  rw [hx] at hs
  have e : b = true := by simpa using hs
  subst e
  exact ⟨leaf_under hb2, under_node hh hb1, fun _ => ⟨rfl, rfl, rfl⟩, ⟨nil_under _, nil_under _, tf, trivial, trivial⟩, hh⟩
theorem not_under {t : Tr} {p : List Bool} {b : Bool} (h : t.under (p ++ [b])) {u : Int} : (p, u) ∉ t.all := by
 intro hm
 have := (h p (all_keys t _ hm)).length_le
 simp at this
 omega
/-- what a tree holds, one more laid in -/
theorem ins_mem (n1 n2 : Nat) (x : List Bool) (v : Int) (t : Tr) (h : t.wf) (y : List Bool) (u : Int) : (y, u) ∈ (t.ins n1 n2 x v).all ↔ (y = x ∧ u = v) ∨ (y ≠ x ∧ (y, u) ∈ t.all) := by
 induction t with
 | nil => simp [Tr.ins, Tr.all]
 | node at' p is w l r ihl ihr =>
  have hh := h
  obtain ⟨h1, h2, h3, h4, h5⟩ := h
  have hall : ∀ z : List Bool, (z, u) ∈ (Tr.node at' p is w l r).all → p <+: z := fun z hz => under_node hh (List.prefix_refl p) z (all_keys _ _ hz)
  unfold Tr.ins
  split
  ·rename_i e
   subst e
   have n1' := not_under (u := u) h1
   have n2' := not_under (u := u) h2
   simp only [Tr.all, List.mem_append, if_true, List.mem_cons, List.not_mem_nil, or_false, Prod.mk.injEq]
   constructor
   ·rintro (⟨e1, e2⟩ | e | e)
    ·exact .inl ⟨e1, e2⟩
    ·exact .inr ⟨fun e3 => n1' (e3 ▸ e), .inr (.inl e)⟩
    exact .inr ⟨fun e3 => n2' (e3 ▸ e), .inr (.inr e)⟩
   rintro (⟨e1, e2⟩ | ⟨e1, e2 | e2 | e2⟩)
   ·exact .inl ⟨e1, e2⟩
   ·cases is
    ·simp at e2
    simp at e2; exact absurd e2.1 e1
   ·exact .inr (.inl e2)
   exact .inr (.inr e2)
  rename_i hne
  split
  ·rename_i hpx
   have hb := next_bit hpx hne
   split
   ·rename_i hs
    rw [hs] at hb
    simp only [Tr.all, List.mem_append, ihr h5]
    constructor
    ·rintro (e | e | e | e)
     ·refine .inr ⟨fun e2 => ?_, .inl e⟩
      cases is
      ·simp at e
      simp at e; exact hne (by rw [← e.1, e2])
     ·exact .inr ⟨fun e2 => side_ne (b := true) hb (h1 _ (all_keys l _ e)) e2.symm, .inr (.inl e)⟩
     ·exact .inl e
     exact .inr ⟨e.1, .inr (.inr e.2)⟩
    rintro (e | ⟨e1, e | e | e⟩)
    ·exact .inr (.inr (.inl e))
    ·exact .inl e
    ·exact .inr (.inl e)
    exact .inr (.inr (.inr ⟨e1, e⟩))
   rename_i hs
   rw [bit_false hs] at hb
   simp only [Tr.all, List.mem_append, ihl h4]
   constructor
   ·rintro (e | (e | e) | e)
    ·refine .inr ⟨fun e2 => ?_, .inl e⟩
     cases is
     ·simp at e
     simp at e; exact hne (by rw [← e.1, e2])
    ·exact .inl e
    ·exact .inr ⟨e.1, .inr (.inl e.2)⟩
    exact .inr ⟨fun e2 => side_ne (b := false) hb (h2 _ (all_keys r _ e)) e2.symm, .inr (.inr e)⟩
   rintro (e | ⟨e1, e | e | e⟩)
   ·exact .inr (.inl (.inl e))
   ·exact .inl e
   ·exact .inr (.inl (.inr ⟨e1, e⟩))
   exact .inr (.inr e)
  rename_i hpx
  have hnx : ∀ z : List Bool, (z, u) ∈ (Tr.node at' p is w l r).all → z ≠ x := fun z hz e => hpx (e ▸ hall z hz)
  split
  ·split
   ·simp only [show ∀ T : Tr, (Tr.node n1 x true v .nil T).all = (x, v) :: T.all from fun T => by simp [Tr.all], List.mem_cons, Prod.mk.injEq]
    constructor
    ·rintro (e | e)
     ·exact .inl e
     exact .inr ⟨hnx y e, e⟩
    rintro (e | e)
    ·exact .inl e
    exact .inr e.2
   simp only [show ∀ T : Tr, (Tr.node n1 x true v T .nil).all = (x, v) :: T.all from fun T => by simp [Tr.all], List.mem_cons, Prod.mk.injEq]
   constructor
   ·rintro (e | e)
    ·exact .inl e
    exact .inr ⟨hnx y e, e⟩
   rintro (e | e)
   ·exact .inl e
   exact .inr e.2
  split
  ·simp only [show ∀ T : Tr, (Tr.node n2 (lcp p x) false 0 T (.node n1 x true v .nil .nil)).all = T.all ++ [(x, v)] from fun T => by simp [Tr.all], List.mem_append, List.mem_cons, List.not_mem_nil, or_false, Prod.mk.injEq]
   constructor
   ·rintro (e | e)
    ·exact .inr ⟨hnx y e, e⟩
    exact .inl e
   rintro (e | e)
   ·exact .inr e
   exact .inl e.2
  simp only [show ∀ T : Tr, (Tr.node n2 (lcp p x) false 0 (.node n1 x true v .nil .nil) T).all = (x, v) :: T.all from fun T => by simp [Tr.all], List.mem_cons, Prod.mk.injEq]
  constructor
  ·rintro (e | e)
   ·exact .inl e
   exact .inr ⟨hnx y e, e⟩
  rintro (e | e)
  ·exact .inl e
  exact .inr e.2

/-! taking out -/
def Tr.join (at' : Nat) (p : List Bool) (is : Bool) (v : Int) (l r : Tr) : Tr :=
 if is || (!l.isNil && !r.isNil) then .node at' p is v l r else if l.isNil then r else l
def Tr.del (x : List Bool) : Tr → Tr
 | .nil => .nil
 | .node at' p is w l r =>
  if p = x then Tr.join at' p false 0 l r
  else if sideB x p.length then Tr.join at' p is w l (Tr.del x r) else Tr.join at' p is w (Tr.del x l) r
theorem nil_of {t : Tr} (h : t.isNil = true) : t = .nil := by cases t with | nil => rfl | node => cases h
theorem join_all (at' : Nat) (p : List Bool) (is : Bool) (v : Int) (l r : Tr) : (Tr.join at' p is v l r).all = (Tr.node at' p is v l r).all := by
 unfold Tr.join
 split
 ·rfl
 rename_i h
 simp only [Bool.or_eq_true, Bool.and_eq_true, Bool.not_eq_true', not_or, Bool.not_eq_true] at h
 obtain ⟨h1, h2⟩ := h
 subst h1
 split
 ·rename_i h3
  rw [nil_of h3]
  simp [Tr.all]
 rename_i h3
 have h3' : l.isNil = false := by simpa using h3
 have h4 : r.isNil = true := by
  cases h5 : r.isNil
  ·exact absurd ⟨h3', h5⟩ h2
  rfl
 rw [nil_of h4]
 simp [Tr.all]
theorem join_keys (at' : Nat) (p : List Bool) (is : Bool) (v : Int) (l r : Tr) : ∀ q ∈ (Tr.join at' p is v l r).keys, q = p ∨ q ∈ l.keys ∨ q ∈ r.keys := by
 intro q hq
 unfold Tr.join at hq
 split at hq
 ·simpa [Tr.keys] using hq
 split at hq
 ·exact .inr (.inr hq)
 exact .inr (.inl hq)
theorem join_wf {at' : Nat} {p : List Bool} {is : Bool} {v : Int} {l r : Tr} (h1 : l.under (p ++ [false])) (h2 : r.under (p ++ [true])) (h3 : is = false → v = 0) (h4 : l.wf) (h5 : r.wf) : (Tr.join at' p is v l r).wf := by
 unfold Tr.join
 split
 ·rename_i h
  refine ⟨h1, h2, fun e => ⟨h3 e, ?_⟩, h4, h5⟩
  rw [e] at h
  simpa using h
 split
 ·exact h5
 exact h4
theorem del_keys (x : List Bool) (t : Tr) : ∀ q ∈ (t.del x).keys, q ∈ t.keys := by
 induction t with
 | nil => intro q h; cases h
 | node at' p is w l r ihl ihr =>
  intro q hq
  unfold Tr.del at hq
  simp only [Tr.keys, List.mem_cons, List.mem_append]
  split at hq
  ·exact join_keys _ _ _ _ _ _ q hq
  split at hq
  ·rcases join_keys _ _ _ _ _ _ q hq with e | e | e
   ·exact .inl e
   ·exact .inr (.inl e)
   exact .inr (.inr (ihr q e))
  rcases join_keys _ _ _ _ _ _ q hq with e | e | e
  ·exact .inl e
  ·exact .inr (.inl (ihl q e))
  exact .inr (.inr e)
theorem del_wf (x : List Bool) (t : Tr) (h : t.wf) : (t.del x).wf := by
 induction t with
 | nil => trivial
 | node at' p is w l r ihl ihr =>
  obtain ⟨h1, h2, h3, h4, h5⟩ := h
  unfold Tr.del
  split
  ·exact join_wf h1 h2 (fun _ => rfl) h4 h5
  split
  ·exact join_wf h1 (fun q hq => h2 q (del_keys x r q hq)) (fun e => (h3 e).1) h4 (ihr h5)
  exact join_wf (fun q hq => h1 q (del_keys x l q hq)) h2 (fun e => (h3 e).1) (ihl h4) h5
/-- what a tree holds, one taken out -/
theorem del_mem (x : List Bool) (t : Tr) (h : t.wf) (hx : ∃ v, (x, v) ∈ t.all) (y : List Bool) (u : Int) : (y, u) ∈ (t.del x).all ↔ (y ≠ x ∧ (y, u) ∈ t.all) := by
 induction t with
 | nil => simp [Tr.del, Tr.all]
 | node at' p is w l r ihl ihr =>
  obtain ⟨h1, h2, h3, h4, h5⟩ := h
  obtain ⟨v, hv⟩ := hx
  unfold Tr.del
  split
  ·rename_i e
   subst e
   rw [join_all]
   have n1' := not_under (u := u) h1
   have n2' := not_under (u := u) h2
   simp only [Tr.all, List.mem_append, Bool.false_eq_true, if_false, List.not_mem_nil, false_or]
   constructor
   ·rintro (e | e)
    ·exact ⟨fun e3 => n1' (e3 ▸ e), .inr (.inl e)⟩
    exact ⟨fun e3 => n2' (e3 ▸ e), .inr (.inr e)⟩
   rintro ⟨e1, e | e | e⟩
   ·cases is
    ·simp at e
    simp at e; exact absurd e.1 e1
   ·exact .inl e
   exact .inr e
  rename_i hne
  have hpn : ∀ z, (z, u) ∈ (if is = true then [(p, w)] else []) → z ≠ x := fun z hz e => by
   cases is
   ·simp at hz
   simp at hz; exact hne (by rw [← hz.1, e])
  simp only [Tr.all, List.mem_append] at hv
  have hside : (∃ v, (x, v) ∈ l.all ∧ (p ++ [false]) <+: x) ∨ (∃ v, (x, v) ∈ r.all ∧ (p ++ [true]) <+: x) := by
   rcases hv with e | e | e
   ·cases is
    ·simp at e
    simp at e; exact absurd e.1.symm hne
   ·exact .inl ⟨v, e, h1 _ (all_keys l _ e)⟩
   exact .inr ⟨v, e, h2 _ (all_keys r _ e)⟩
  rcases hside with ⟨v', hm, hb⟩ | ⟨v', hm, hb⟩
  ·rw [bit_of hb, if_neg (by simp), join_all]
   simp only [Tr.all, List.mem_append, ihl h4 ⟨v', hm⟩]
   constructor
   ·rintro (e | e | e)
    ·exact ⟨hpn y e, .inl e⟩
    ·exact ⟨e.1, .inr (.inl e.2)⟩
    exact ⟨fun e2 => side_ne (b := false) hb (h2 _ (all_keys r _ e)) e2.symm, .inr (.inr e)⟩
   rintro ⟨e1, e | e | e⟩
   ·exact .inl e
   ·exact .inr (.inl ⟨e1, e⟩)
   exact .inr (.inr e)
  rw [bit_of hb, if_pos rfl, join_all]
  simp only [Tr.all, List.mem_append, ihr h5 ⟨v', hm⟩]
  constructor
  ·rintro (e | e | e)
   ·exact ⟨hpn y e, .inl e⟩
   ·exact ⟨fun e2 => side_ne (b := true) hb (h1 _ (all_keys l _ e)) e2.symm, .inr (.inl e)⟩
   exact ⟨e.1, .inr (.inr e.2)⟩
  rintro ⟨e1, e | e | e⟩
  ·exact .inl e
  ·exact .inr (.inl e)
  exact .inr (.inr ⟨e1, e⟩)

/-! finding -/
/-- the node of a prefix -/
def Tr.find (x : List Bool) : Tr → Tr
 | .nil => .nil
 | .node at' p is w l r => if p = x then .node at' p is w l r else if p <+: x then (if sideB x p.length then Tr.find x r else Tr.find x l) else .nil
def Tr.val : Tr → Int × Bool
 | .nil => (0, false)
 | .node _ _ is v _ _ => (v, is)
theorem find_val (x : List Bool) (t : Tr) (h : t.wf) : (∃ v, (x, v) ∈ t.all ∧ (t.find x).val = (v, true)) ∨ ((∀ v, (x, v) ∉ t.all) ∧ (t.find x).val = (0, false)) := by
 induction t with
 | nil => exact .inr ⟨fun v h => (by cases h), rfl⟩
 | node at' p is w l r ihl ihr =>
  have hh := h
  obtain ⟨h1, h2, h3, h4, h5⟩ := h
  unfold Tr.find
  split
  ·rename_i e
   subst e
   cases is
   ·refine .inr ⟨fun v hv => ?_, ?_⟩
    ·simp only [Tr.all, List.mem_append, Bool.false_eq_true, if_false, List.not_mem_nil, false_or] at hv
     rcases hv with e | e
     ·exact not_under h1 e
     exact not_under h2 e
    show (w, false) = _
    rw [(h3 rfl).1]
   exact .inl ⟨w, by simp [Tr.all], rfl⟩
  rename_i hne
  have hpn : ∀ v, (x, v) ∉ (if is = true then [(p, w)] else []) := fun v hv => by
   cases is
   ·simp at hv
   simp at hv; exact hne hv.1.symm
  split
  ·rename_i hpx
   have hb := next_bit hpx hne
   split
   ·rename_i hs
    rw [hs] at hb
    rcases ihr h5 with ⟨v, hv, e⟩ | ⟨hv, e⟩
    ·exact .inl ⟨v, by simp [Tr.all, hv], e⟩
    refine .inr ⟨fun v hm => ?_, e⟩
    simp only [Tr.all, List.mem_append] at hm
    rcases hm with m | m | m
    ·exact hpn v m
    ·exact side_ne (b := true) hb (h1 _ (all_keys l _ m)) rfl
    exact hv v m
   rename_i hs
   rw [bit_false hs] at hb
   rcases ihl h4 with ⟨v, hv, e⟩ | ⟨hv, e⟩
   ·exact .inl ⟨v, by simp [Tr.all, hv], e⟩
   refine .inr ⟨fun v hm => ?_, e⟩
   simp only [Tr.all, List.mem_append] at hm
   rcases hm with m | m | m
   ·exact hpn v m
   ·exact hv v m
   exact side_ne (b := false) hb (h2 _ (all_keys r _ m)) rfl
  rename_i hpx
  exact .inr ⟨fun v hm => hpx (under_node hh (List.prefix_refl p) x (all_keys _ _ hm)), rfl⟩

/-! looking -/
/-- the last node on an address's way that is one of the table's -/
def Tr.look (a : List Bool) : Tr → Tr → Tr
 | .nil, best => best
 | .node at' p is w l r, best => if p <+: a then (if sideB a p.length then Tr.look a r (if is then .node at' p is w l r else best) else Tr.look a l (if is then .node at' p is w l r else best)) else best
/-- a node's prefix, and its value -/
def Tr.item : Tr → Option (List Bool × Int)
 | .nil => none
 | .node _ p is v _ _ => if is then some (p, v) else none
theorem look_item (a : List Bool) (t : Tr) (h : t.wf) (best : Tr) :
  (∃ x ∈ t.all, x.1 <+: a ∧ (∀ y ∈ t.all, y.1 <+: a → y.1.length ≤ x.1.length) ∧ (Tr.look a t best).item = some x) ∨ ((∀ y ∈ t.all, ¬ y.1 <+: a) ∧ Tr.look a t best = best) := by
 induction t generalizing best with
 | nil => exact .inr ⟨fun y hy => absurd hy (by simp [Tr.all]), rfl⟩
 | node at' p is w l r ihl ihr =>
  have hh := h
  obtain ⟨h1, h2, h3, h4, h5⟩ := h
  unfold Tr.look
  split
  ·rename_i hpa
   -- the child that is looked into, and the other one
   have key : ∀ (c d : Tr) (s : Bool), sideB a p.length = s → c.under (p ++ [s]) → d.under (p ++ [!s]) → (∀ y, y ∈ (Tr.node at' p is w l r).all ↔ (is = true ∧ y = (p, w)) ∨ y ∈ c.all ∨ y ∈ d.all) →
     (∀ best, (∃ x ∈ c.all, x.1 <+: a ∧ (∀ y ∈ c.all, y.1 <+: a → y.1.length ≤ x.1.length) ∧ (Tr.look a c best).item = some x) ∨ ((∀ y ∈ c.all, ¬ y.1 <+: a) ∧ Tr.look a c best = best)) →
     ∀ best : Tr, (∃ x ∈ (Tr.node at' p is w l r).all, x.1 <+: a ∧ (∀ y ∈ (Tr.node at' p is w l r).all, y.1 <+: a → y.1.length ≤ x.1.length) ∧ (Tr.look a c (if is then .node at' p is w l r else best)).item = some x) ∨ ((∀ y ∈ (Tr.node at' p is w l r).all, ¬ y.1 <+: a) ∧ Tr.look a c (if is then .node at' p is w l r else best) = best) := by
    intro c d s hs hc hd hm ih best
    have hdn : ∀ y ∈ d.all, ¬ y.1 <+: a := fun y hy ha => by
     have := bit_of ((hd _ (all_keys d y hy)).trans ha)
     rw [hs] at this
     cases s <;> cases this
    rcases ih (if is then .node at' p is w l r else best) with ⟨x, hx, hxa, hmx, hxi⟩ | ⟨hn, hl⟩
    ·refine .inl ⟨x, (hm x).2 (.inr (.inl hx)), hxa, fun y hy hya => ?_, hxi⟩
     rcases (hm y).1 hy with ⟨_, e⟩ | e | e
     ·rw [e]
      exact ((List.prefix_append _ _).trans (hc _ (all_keys c x hx))).length_le
     ·exact hmx y e hya
     exact absurd hya (hdn y e)
    rw [hl]
    cases is
    ·refine .inr ⟨fun y hy hya => ?_, rfl⟩
     rcases (hm y).1 hy with ⟨e, _⟩ | e | e
     ·cases e
     ·exact hn y e hya
     exact hdn y e hya
    refine .inl ⟨(p, w), (hm _).2 (.inl ⟨rfl, rfl⟩), hpa, fun y hy hya => ?_, rfl⟩
    rcases (hm y).1 hy with ⟨_, e⟩ | e | e
    ·rw [e]; exact Nat.le_refl _
    ·exact absurd hya (hn y e)
    exact absurd hya (hdn y e)
   have hroot : ∀ y, y ∈ (if is = true then [(p, w)] else []) ↔ (is = true ∧ y = (p, w)) := fun y => by cases is <;> simp
   split
   ·rename_i hs
    exact key r l true hs h2 h1 (fun y => by simp only [Tr.all, List.mem_append, hroot]; constructor <;> (rintro (e | e | e) <;> simp [e])) (fun b => ihr h5 b) best
   rename_i hs
   exact key l r false (bit_false hs) h1 h2 (fun y => by simp only [Tr.all, List.mem_append, hroot]) (fun b => ihl h4 b) best
  rename_i hpa
  exact .inr ⟨fun y hy hya => hpa ((under_node hh (List.prefix_refl p) _ (all_keys _ _ hy)).trans hya), rfl⟩
end Go.Proofs.Ytdmgomknamdcfaa


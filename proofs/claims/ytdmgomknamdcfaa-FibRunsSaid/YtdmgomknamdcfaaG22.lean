/- Texts of this claim put together, in build order: each one's own remark stands ahead of it. -/
import Derived.Test.YtdmgomknamdcfaaG21
/- Plain laws: the table's nodes (layer 9) against a tree of prefixes: what is laid in and taken out. No condition. -/
namespace Go.Proofs.Ytdmgomknamdcfaa
set_option linter.unusedVariables false
set_option linter.unusedSimpArgs false
set_option maxRecDepth 20000

/-- places that are in use or free -/
structure Pl (t : Tb) (S : List Nat) : Prop where
 nodup : (S ++ t.F).Nodup
 lt : ∀ i ∈ S ++ t.F, 0 < i ∧ i < t.N.length
 pos : 0 < t.N.length
/-- from one table to the next: what is in use or free there was so, or is new; all else is as it was -/
structure Stp (t : Tb) (S : List Nat) (t' : Tb) (S' : List Nat) : Prop where
 same : t'.six = t.six ∧ t'.room = t.room ∧ t'.count = t.count ∧ t'.root = t.root
 pl : Pl t' S'
 from_ : ∀ i ∈ S' ++ t'.F, i ∈ S ++ t.F ∨ t.N.length ≤ i
 far : ∀ i, i < t.N.length → i ∉ S ++ t.F → t'.N[i]? = t.N[i]?
 len : t.N.length ≤ t'.N.length
theorem Pl.perm {t : Tb} {S T : List Nat} (h : Pl t S) (p : S.Perm T) : Pl t T :=
 ⟨((p.append_right t.F).nodup_iff).1 h.nodup, fun i hi => h.lt i ((p.append_right t.F).mem_iff.2 hi), h.pos⟩
theorem Stp.perm {t t' : Tb} {S S' T T' : List Nat} (h : Stp t S t' S') (p : S.Perm T) (q : S'.Perm T') : Stp t T t' T' :=
 ⟨h.same, h.pl.perm q, fun i hi => by
  rcases h.from_ i ((q.append_right t'.F).mem_iff.2 hi) with h | h
  ·exact .inl ((p.append_right t.F).mem_iff.1 h)
  exact .inr h, fun i hi hn => h.far i hi (fun hm => hn ((p.append_right t.F).mem_iff.1 hm)), h.len⟩
/-- with others beside it -/
theorem Stp.beside {t t' : Tb} {S S' : List Nat} (C : List Nat) (h : Stp t S t' S') (hp : Pl t (C ++ S)) : Stp t (C ++ S) t' (C ++ S') := by
 have hd := hp.nodup
 rw [List.append_assoc, List.nodup_append] at hd
 obtain ⟨n1, n2, n3⟩ := hd
 refine ⟨h.same, ⟨?_, fun i hi => ?_, h.pl.pos⟩, fun i hi => ?_, fun i hi hn => h.far i hi (fun hm => hn (by rw [List.append_assoc]; exact List.mem_append.2 (.inr hm))), h.len⟩
 ·rw [List.append_assoc, List.nodup_append]
  refine ⟨n1, h.pl.nodup, fun a ha b hb e => ?_⟩
  subst e
  rcases h.from_ a hb with hm | hm
  ·exact n3 a ha a hm rfl
  have := (hp.lt a (by simp [ha])).2
  omega
 ·rw [List.append_assoc] at hi
  rcases List.mem_append.1 hi with hi | hi
  ·have := hp.lt i (by simp [hi])
   exact ⟨this.1, Nat.lt_of_lt_of_le this.2 h.len⟩
  exact h.pl.lt i hi
 rw [List.append_assoc] at hi
 rcases List.mem_append.1 hi with hi | hi
 ·exact .inl (by simp [hi])
 rcases h.from_ i hi with hm | hm
 ·exact .inl (by rw [List.append_assoc]; exact List.mem_append.2 (.inr hm))
 exact .inr hm
/-- what is beside stays -/
theorem Stp.keep {t t' : Tb} {S S' : List Nat} (C : List Nat) (h : Stp t S t' S') (hp : Pl t (C ++ S)) : ∀ i ∈ C, t'.N[i]? = t.N[i]? ∧ i ∉ S' ++ t'.F := by
 intro i hi
 have hd := hp.nodup
 rw [List.append_assoc, List.nodup_append] at hd
 have hlt := (hp.lt i (by simp [hi])).2
 have hno : i ∉ S ++ t.F := fun hm => hd.2.2 i hi i hm rfl
 refine ⟨h.far i hlt hno, fun hm => ?_⟩
 rcases h.from_ i hm with e | e
 ·exact hno e
 omega
/-- a node that is in use turned -/
theorem Stp.set {t t' : Tb} {S S' : List Nat} (h : Stp t S t' S') {n : Nat} (hn : n ∈ S) (y : Nd) : Stp t S { t' with N := t'.N.set n y } S' :=
 ⟨h.same, ⟨h.pl.nodup, fun i hi => by rw [List.length_set]; exact h.pl.lt i hi, by rw [List.length_set]; exact h.pl.pos⟩, h.from_, fun i hi hni => by
  rw [List.getElem?_set_ne (fun e => hni (by rw [← e]; simp [hn]))]
  exact h.far i hi hni, by rw [List.length_set]; exact h.len⟩
theorem Stp.refl {t : Tb} {S : List Nat} (h : Pl t S) : Stp t S t S := ⟨⟨rfl, rfl, rfl, rfl⟩, h, fun i hi => .inl hi, fun _ _ _ => rfl, Nat.le_refl _⟩
theorem Stp.trans {t1 t2 t3 : Tb} {S1 S2 S3 : List Nat} (h : Stp t1 S1 t2 S2) (k : Stp t2 S2 t3 S3) : Stp t1 S1 t3 S3 :=
 ⟨⟨k.same.1.trans h.same.1, k.same.2.1.trans h.same.2.1, k.same.2.2.1.trans h.same.2.2.1, k.same.2.2.2.trans h.same.2.2.2⟩, k.pl, fun i hi => by
  rcases k.from_ i hi with e | e
  ·exact h.from_ i e
  ·exact .inr (Nat.le_trans h.len e), fun i hi hn => by
  have h1 := h.far i hi hn
  refine (k.far i (Nat.lt_of_lt_of_le hi h.len) (fun hm => ?_)).trans h1
  rcases h.from_ i hm with e | e
  ·exact hn e
  omega, Nat.le_trans h.len k.len⟩
theorem Sits.pl {t : Tb} {s : Bool} {tr : Tr} {k : Nat} {N : List Nd} (h : Sits N s tr k) : ∀ i ∈ tr.ids, 0 < i := by
 induction tr generalizing k with
 | nil => intro i hi; cases hi
 | node n p is v l r ihl ihr =>
  obtain ⟨h1, h0, x, hx, hd, hl, hr⟩ := h
  intro i hi
  simp only [Tr.ids, List.mem_cons, List.mem_append] at hi
  rcases hi with rfl | hi | hi
  ·exact h0
  ·exact ihl hl i hi
  exact ihr hr i hi

/-- a node laid in -/
theorem add_stp {t : Tb} {S : List Nat} (h : Pl t S) (n : Nd) (hN : t.N.length ≤ 1000000) (hF : t.F.length ≤ 1000000) :
  addOk t ∧ Stp t S (addT t n).2 ((addT t n).1 :: S) ∧ (addT t n).2.N[(addT t n).1]? = some n ∧ (∀ i ∈ S, (addT t n).2.N[i]? = t.N[i]?) ∧ 0 < (addT t n).1 ∧ (addT t n).2.N.length ≤ t.N.length + 1 ∧ (addT t n).2.F.length ≤ t.F.length := by
 have hok : addOk t := ⟨fun a ha => (h.lt a (by simp [ha])).2, hN, hF⟩
 refine ⟨hok, ?_⟩
 rcases List.eq_nil_or_concat t.F with he | ⟨F', a, he⟩
 ·have e : addT t n = (t.N.length, { t with N := t.N ++ [n] }) := by unfold addT; rw [he]; rfl
  rw [e]
  have hS : ∀ i ∈ S, i < t.N.length := fun i hi => (h.lt i (by simp [hi])).2
  refine ⟨⟨⟨rfl, rfl, rfl, rfl⟩, ⟨?_, ?_, by simp⟩, ?_, ?_, by simp⟩, by simp, fun i hi => ?_, h.pos, by simp, Nat.le_refl _⟩
  ·have := h.nodup
   rw [he, List.append_nil] at this
   show (t.N.length :: S ++ t.F).Nodup
   rw [he, List.append_nil]
   exact List.nodup_cons.2 ⟨fun hm => by have := hS _ hm; omega, this⟩
  ·intro i hi
   show 0 < i ∧ i < (t.N ++ [n]).length
   have hi' : i ∈ t.N.length :: S ++ t.F := hi
   rw [List.length_append, List.length_singleton]
   rcases List.mem_append.1 hi' with hi | hi
   ·rcases List.mem_cons.1 hi with rfl | hi
    ·exact ⟨h.pos, by omega⟩
    have := h.lt i (by simp [hi]); omega
   have := h.lt i (by simp [hi]); omega
  ·intro i hi
   show _ ∨ _
   have hi' : i ∈ t.N.length :: S ++ t.F := hi
   rcases List.mem_append.1 hi' with hi | hi
   ·rcases List.mem_cons.1 hi with rfl | hi
    ·exact .inr (Nat.le_refl _)
    exact .inl (by simp [hi])
   exact .inl (by simp [hi])
  ·intro i hi hn
   show (t.N ++ [n])[i]? = _
   rw [List.getElem?_append_left hi]
  show (t.N ++ [n])[i]? = _
  rw [List.getElem?_append_left (hS i hi)]
 have hlast : t.F.getLast? = some a := by rw [he]; simp
 have e : addT t n = (a, { t with N := t.N.set a n, F := F' }) := by unfold addT; rw [hlast]; simp [he]
 rw [e]
 have ha := h.lt a (by rw [he]; simp)
 have hnd := h.nodup
 rw [he, List.concat_eq_append] at hnd
 have hp : (S ++ (F' ++ [a])).Perm (a :: S ++ F') := by
  rw [← List.append_assoc]
  exact (List.perm_append_comm (l₁ := S ++ F') (l₂ := [a]))
 have hnd2 := hp.nodup_iff.1 hnd
 have haS : a ∉ S := fun hm => (List.nodup_cons.1 hnd2).1 (by simp [hm])
 have hm2 : ∀ i, i ∈ a :: S ++ F' → i ∈ S ++ t.F := fun i hi => by
  rw [he, List.concat_eq_append]
  exact hp.mem_iff.2 hi
 refine ⟨⟨⟨rfl, rfl, rfl, rfl⟩, ⟨hnd2, fun i hi => by show 0 < i ∧ i < (t.N.set a n).length; rw [List.length_set]; exact h.lt i (hm2 i hi), by show 0 < (t.N.set a n).length; rw [List.length_set]; exact h.pos⟩, fun i hi => .inl (hm2 i hi), fun i hi hn => ?_, by show _ ≤ (t.N.set a n).length; rw [List.length_set]; exact Nat.le_refl _⟩, ?_, fun i hi => ?_, ha.1, by show (t.N.set a n).length ≤ _; rw [List.length_set]; omega, by rw [he]; simp⟩
 ·show (t.N.set a n)[i]? = _
  rw [List.getElem?_set_ne (fun e => hn (by rw [← e, he]; simp))]
 ·show (t.N.set a n)[a]? = _
  exact List.getElem?_set_self ha.2
 show (t.N.set a n)[i]? = _
 rw [List.getElem?_set_ne (fun e => haS (by rw [e]; exact hi))]

/-- what is laid in below a node -/
theorem below_sits {x : Nd} (hx : x.p.good) (hi : x.is = true) (h0 : x.k0 = 0) (h1 : x.k1 = 0) : ∀ (tr : Tr) (f : Nat) (t : Tb) (k : Nat), Sits t.N t.six tr k → Pl t tr.ids → tr.dep < f → t.N.length ≤ 999990 → t.F.length ≤ 1000000 → x.p.six = t.six →
  ∃ r t' n1 n2, belowN f t k x = some (r, t') ∧ Sits t'.N t.six (tr.ins n1 n2 x.p.bits x.v) r ∧ Stp t tr.ids t' (tr.ins n1 n2 x.p.bits x.v).ids ∧ t'.N.length ≤ t.N.length + 2 ∧ t'.F.length ≤ t.F.length
 | .nil, f, t, k, hs, hp, hf, hN, hF, h6 => by
  obtain ⟨f, rfl⟩ : ∃ g, f = g + 1 := ⟨f - 1, by omega⟩
  obtain rfl : k = 0 := hs
  obtain ⟨hok, hst, hn, hk, hr0, hl, hfl⟩ := add_stp hp x (by omega) hF
  refine ⟨(addT t x).1, (addT t x).2, (addT t x).1, 0, by unfold belowN; rw [if_pos hok, if_pos rfl], ?_, hst, by omega, hfl⟩
  exact ⟨rfl, hr0, x, hn, ⟨hx, h6, rfl, hi, rfl⟩, h0, h1⟩
 | .node n q is v l r, f, t, k, hs, hp, hf, hN, hF, h6 => by
  obtain ⟨f, rfl⟩ : ∃ g, f = g + 1 := ⟨f - 1, by omega⟩
  have hsits := hs
  obtain ⟨rfl, hk0, o, ho, hd, hl, hr⟩ := hs
  obtain ⟨g, o6, hb, his, hv⟩ := hd
  have hdl : l.dep < f := by simp only [Tr.dep] at hf; omega
  have hdr : r.dep < f := by simp only [Tr.dep] at hf; omega
  subst hb his hv
  have hok : addOk t := ⟨fun a ha => (hp.lt a (by simp [ha])).2, by omega, hF⟩
  have hchk : chkP o.p = 0 ∧ o.p.six = x.p.six := ⟨(chkP_iff o.p g.addr).2 g, by rw [o6, h6]⟩
  have hcg : (commonF o.p x.p).good := commonF_good g
  have hcb : (commonF o.p x.p).bits = lcp o.p.bits x.p.bits := (common_ok g _ rfl).2
  have hc6 : (commonF o.p x.p).six = t.six := o6
  have hbn : belowN (f + 1) t k x = (if o.p = x.p then some (k, { t with N := t.N.set k { o with is := true, v := x.v } }) else
     if commonF o.p x.p = o.p then
      match belowN f t (o.kid (bitN x.p.addr o.p.len)) x with
      | none => none
      | some (kid, t') =>
       match t'.N[k]? with
       | none => none
       | some o' => some (k, { t' with N := t'.N.set k (o'.setKid (bitN x.p.addr o.p.len) kid) })
     else if commonF o.p x.p = x.p then some (addT t (x.setKid (bitN o.p.addr (commonF o.p x.p).len) k))
     else if addOk (addT t x).2 then
      some (addT (addT t x).2 (((Nd.of (commonF o.p x.p)).setKid (bitN o.p.addr (commonF o.p x.p).len) k).setKid (bitN x.p.addr (commonF o.p x.p).len) (addT t x).1))
     else none) := by
   conv => lhs; unfold belowN
   rw [if_pos hok, if_neg (by omega), ho]
   simp only []
   rw [if_pos hchk]
   rfl
  rw [hbn]
  clear hbn
  have hlp : Pl t ((k :: r.ids) ++ l.ids) := hp.perm (by
   show (k :: (l.ids ++ r.ids)).Perm (k :: (r.ids ++ l.ids))
   exact List.Perm.cons k List.perm_append_comm)
  have hrp : Pl t ((k :: l.ids) ++ r.ids) := hp
  by_cases e : o.p = x.p
  ·rw [if_pos e]
   refine ⟨k, _, 0, 0, rfl, ?_, ?_, by simp, by simp⟩
   ·unfold Tr.ins
    rw [if_pos (by rw [e])]
    have hlt := (hp.lt k (by simp [Tr.ids])).2
    have hnd := hp.nodup
    rw [List.nodup_append] at hnd
    have hkn := (List.nodup_cons.1 hnd.1).1
    refine ⟨rfl, hk0, { o with is := true, v := x.v }, List.getElem?_set_self hlt, ⟨g, o6, rfl, rfl, rfl⟩, ?_, ?_⟩
    ·exact hl.frame fun i hi => List.getElem?_set_ne (fun e => hkn (by rw [e]; exact List.mem_append.2 (.inl hi)))
    exact hr.frame fun i hi => List.getElem?_set_ne (fun e => hkn (by rw [e]; exact List.mem_append.2 (.inr hi)))
   have h2 : (Tr.ins 0 0 x.p.bits x.v (.node k o.p.bits o.is o.v l r)).ids = (Tr.node k o.p.bits o.is o.v l r).ids := by
    unfold Tr.ins
    rw [if_pos (by rw [e])]
    rfl
   rw [h2]
   exact (Stp.refl hp).set (by simp [Tr.ids]) _
  have eb : o.p.bits ≠ x.p.bits := fun h => e (good_eq g hx (by rw [o6, h6]) h)
  rw [if_neg e]
  by_cases e1 : commonF o.p x.p = o.p
  ·have hpre : o.p.bits <+: x.p.bits := (lcp_is_left _ _).1 (by rw [← hcb, e1])
   rw [if_pos e1, side_N hx g (prefix_lt hpre eb), kid_if]
   cases hsd : sideB x.p.bits o.p.bits.length
   ·obtain ⟨kid, t1, n1, n2, hb1, hs1, hst1, hl1, hf1⟩ := below_sits hx hi h0 h1 l f t o.k0 hl ⟨(List.nodup_append.1 (by have := hlp.nodup; rwa [List.append_assoc] at this)).2.1, fun i hi => hlp.lt i (by rw [List.append_assoc]; exact List.mem_append.2 (.inr hi)), hp.pos⟩ hdl hN hF h6
    have hkeep := hst1.keep (k :: r.ids) hlp
    have hk1 := hkeep k (by simp)
    simp only [Bool.false_eq_true, if_false]
    rw [hb1]
    simp only []
    rw [hk1.1, ho]
    simp only []
    have hins : Tr.ins n1 n2 x.p.bits x.v (.node k o.p.bits o.is o.v l r) = .node k o.p.bits o.is o.v (l.ins n1 n2 x.p.bits x.v) r := by
     conv => lhs; unfold Tr.ins
     rw [if_neg eb, if_pos hpre, if_neg (by rw [hsd]; exact Bool.false_ne_true)]
    refine ⟨k, _, n1, n2, rfl, ?_, ?_, by simpa using hl1, hf1⟩
    ·rw [hins]
     have hlt1 : k < t1.N.length := Nat.lt_of_lt_of_le (hp.lt k (by simp [Tr.ids])).2 hst1.len
     refine ⟨rfl, hk0, o.setKid 0 kid, List.getElem?_set_self hlt1, ⟨g, o6, rfl, rfl, rfl⟩, ?_, ?_⟩
     ·exact hs1.frame fun i hi => List.getElem?_set_ne (fun e => hk1.2 (by rw [e]; exact List.mem_append.2 (.inl hi)))
     refine hr.frame fun i hi => ?_
     have hnd := hp.nodup
     rw [List.nodup_append] at hnd
     have hkn := (List.nodup_cons.1 hnd.1).1
     rw [List.getElem?_set_ne (fun e => hkn (by rw [e]; exact List.mem_append.2 (.inr hi)))]
     exact (hkeep i (by simp [hi])).1
    rw [hins]
    have hst2 := (hst1.beside (k :: r.ids) hlp).set (n := k) (by simp) (o.setKid 0 kid)
    refine hst2.perm ?_ ?_
    ·show (k :: (r.ids ++ l.ids)).Perm (k :: (l.ids ++ r.ids))
     exact List.Perm.cons k List.perm_append_comm
    show (k :: (r.ids ++ (l.ins n1 n2 x.p.bits x.v).ids)).Perm (k :: ((l.ins n1 n2 x.p.bits x.v).ids ++ r.ids))
    exact List.Perm.cons k List.perm_append_comm
   obtain ⟨kid, t1, n1, n2, hb1, hs1, hst1, hl1, hf1⟩ := below_sits hx hi h0 h1 r f t o.k1 hr ⟨(List.nodup_append.1 (by have := hrp.nodup; rwa [List.append_assoc] at this)).2.1, fun i hi => hrp.lt i (by rw [List.append_assoc]; exact List.mem_append.2 (.inr hi)), hp.pos⟩ hdr hN hF h6
   have hkeep := hst1.keep (k :: l.ids) hrp
   have hk1 := hkeep k (by simp)
   simp only [if_true]
   rw [hb1]
   simp only []
   rw [hk1.1, ho]
   simp only []
   have hins : Tr.ins n1 n2 x.p.bits x.v (.node k o.p.bits o.is o.v l r) = .node k o.p.bits o.is o.v l (r.ins n1 n2 x.p.bits x.v) := by
    conv => lhs; unfold Tr.ins
    rw [if_neg eb, if_pos hpre, if_pos hsd]
   refine ⟨k, _, n1, n2, rfl, ?_, ?_, by simpa using hl1, hf1⟩
   ·rw [hins]
    have hlt1 : k < t1.N.length := Nat.lt_of_lt_of_le (hp.lt k (by simp [Tr.ids])).2 hst1.len
    refine ⟨rfl, hk0, o.setKid 1 kid, List.getElem?_set_self hlt1, ⟨g, o6, rfl, rfl, rfl⟩, ?_, ?_⟩
    ·refine hl.frame fun i hi => ?_
     have hnd := hp.nodup
     rw [List.nodup_append] at hnd
     have hkn := (List.nodup_cons.1 hnd.1).1
     rw [List.getElem?_set_ne (fun e => hkn (by rw [e]; exact List.mem_append.2 (.inl hi)))]
     exact (hkeep i (by simp [hi])).1
    exact hs1.frame fun i hi => List.getElem?_set_ne (fun e => hk1.2 (by rw [e]; exact List.mem_append.2 (.inl hi)))
   rw [hins]
   exact (hst1.beside (k :: l.ids) hrp).set (n := k) (by simp) (o.setKid 1 kid)
  have hnp : ¬ o.p.bits <+: x.p.bits := fun h => e1 (good_eq hcg g (by rw [hc6, o6]) (by rw [hcb]; exact (lcp_is_left _ _).2 h))
  rw [if_neg e1]
  by_cases e2 : commonF o.p x.p = x.p
  ·have hpre : x.p.bits <+: o.p.bits := (lcp_is_right _ _).1 (by rw [← hcb, e2])
   have hlt := prefix_lt hpre (fun h => eb h.symm)
   rw [if_pos e2, e2, side_N g hx hlt]
   obtain ⟨_, hst, hn, hk, hr0, hl', hfl⟩ := add_stp hp (x.setKid (if sideB o.p.bits x.p.bits.length then 1 else 0) k) (by omega) hF
   obtain ⟨r1, t1, hat⟩ : ∃ r1 t1, addT t (x.setKid (if sideB o.p.bits x.p.bits.length then 1 else 0) k) = (r1, t1) := ⟨_, _, rfl⟩
   rw [hat] at hst hn hk hr0 hl' hfl
   rw [hat]
   simp only at hst hn hk hr0 hl' hfl
   have hold : Sits t1.N t.six (.node k o.p.bits o.is o.v l r) k := hsits.frame fun i hi => hk i hi
   have hins : Tr.ins r1 0 x.p.bits x.v (.node k o.p.bits o.is o.v l r) = if sideB o.p.bits x.p.bits.length then .node r1 x.p.bits true x.v .nil (.node k o.p.bits o.is o.v l r) else .node r1 x.p.bits true x.v (.node k o.p.bits o.is o.v l r) .nil := by
    conv => lhs; unfold Tr.ins
    rw [if_neg eb, if_neg hnp, if_pos hpre]
   refine ⟨r1, t1, r1, 0, rfl, ?_, ?_, by omega, hfl⟩
   ·rw [hins]
    cases hsd : sideB o.p.bits x.p.bits.length
    ·rw [hsd] at hn
     exact ⟨rfl, hr0, _, hn, ⟨hx, h6, rfl, hi, rfl⟩, hold, h1⟩
    rw [hsd] at hn
    exact ⟨rfl, hr0, _, hn, ⟨hx, h6, rfl, hi, rfl⟩, h0, hold⟩
   rw [hins]
   cases sideB o.p.bits x.p.bits.length
   ·refine hst.perm (List.Perm.refl _) ?_
    show (r1 :: (Tr.node k o.p.bits o.is o.v l r).ids).Perm (r1 :: ((Tr.node k o.p.bits o.is o.v l r).ids ++ []))
    rw [List.append_nil]
   exact hst
  have hnx : ¬ x.p.bits <+: o.p.bits := fun h => e2 (good_eq hcg hx (by rw [hc6, h6]) (by rw [hcb]; exact (lcp_is_right _ _).2 h))
  rw [if_neg e2]
  obtain ⟨b, hb1, hb2⟩ := lcp_side o.p.bits x.p.bits (fun h => hnp ((lcp_is_left _ _).1 h)) (fun h => hnx ((lcp_is_right _ _).1 h))
  have s1 : bitN o.p.addr (commonF o.p x.p).len = if b then 1 else 0 := by
   have hl9 := hb1.length_le
   simp at hl9
   rw [side_N g hcg (by rw [hcb]; omega), hcb, bit_of hb1]
  have s2 : bitN x.p.addr (commonF o.p x.p).len = if !b then 1 else 0 := by
   have hl9 := hb2.length_le
   simp at hl9
   rw [side_N hx hcg (by rw [hcb]; omega), hcb, bit_of hb2]
  rw [s1, s2]
  obtain ⟨_, hst, hn, hk, hr0, hl', hfl⟩ := add_stp hp x (by omega) hF
  obtain ⟨r1, t1, hat⟩ : ∃ r1 t1, addT t x = (r1, t1) := ⟨_, _, rfl⟩
  rw [hat] at hst hn hk hr0 hl' hfl
  rw [hat]
  simp only at hst hn hk hr0 hl' hfl
  obtain ⟨hok1, hst2, hn2, hk2, hr02, hl2, hfl2⟩ := add_stp hst.pl (((Nd.of (commonF o.p x.p)).setKid (if b then 1 else 0) k).setKid (if !b then 1 else 0) r1) (by omega) (by omega)
  rw [if_pos hok1]
  obtain ⟨r2, t2, hat2⟩ : ∃ r2 t2, addT t1 (((Nd.of (commonF o.p x.p)).setKid (if b then 1 else 0) k).setKid (if !b then 1 else 0) r1) = (r2, t2) := ⟨_, _, rfl⟩
  rw [hat2] at hst2 hn2 hk2 hr02 hl2 hfl2
  rw [hat2]
  simp only at hst2 hn2 hk2 hr02 hl2 hfl2
  have hold : Sits t2.N t.six (.node k o.p.bits o.is o.v l r) k := hsits.frame fun i hi => (hk2 i (by simp only [List.mem_cons]; exact .inr hi)).trans (hk i hi)
  have hnew : Sits t2.N t.six (.node r1 x.p.bits true x.v .nil .nil) r1 := ⟨rfl, hr0, x, (hk2 r1 (by simp)).trans hn, ⟨hx, h6, rfl, hi, rfl⟩, h0, h1⟩
  have hsd : sideB x.p.bits (lcp o.p.bits x.p.bits).length = !b := bit_of hb2
  have hins : Tr.ins r1 r2 x.p.bits x.v (.node k o.p.bits o.is o.v l r) = if (!b) = true then .node r2 (lcp o.p.bits x.p.bits) false 0 (.node k o.p.bits o.is o.v l r) (.node r1 x.p.bits true x.v .nil .nil) else .node r2 (lcp o.p.bits x.p.bits) false 0 (.node r1 x.p.bits true x.v .nil .nil) (.node k o.p.bits o.is o.v l r) := by
   conv => lhs; unfold Tr.ins
   rw [if_neg eb, if_neg hnp, if_neg hnx, hsd]
  have hstt := hst.trans hst2
  refine ⟨r2, t2, r1, r2, rfl, ?_, ?_, by omega, by omega⟩
  ·rw [hins]
   cases b
   ·exact ⟨rfl, hr02, _, hn2, ⟨hcg, hc6, hcb, rfl, rfl⟩, hold, hnew⟩
   exact ⟨rfl, hr02, _, hn2, ⟨hcg, hc6, hcb, rfl, rfl⟩, hnew, hold⟩
  rw [hins]
  cases b
  ·refine hstt.perm (List.Perm.refl _) ?_
   show (r2 :: (r1 :: (Tr.node k o.p.bits o.is o.v l r).ids)).Perm (r2 :: ((Tr.node k o.p.bits o.is o.v l r).ids ++ [r1]))
   exact List.Perm.cons r2 (List.perm_append_comm (l₁ := [r1]))
  exact hstt
end Go.Proofs.Ytdmgomknamdcfaa

/- Plain laws: the table's nodes (layer 9) against a tree of prefixes: what is taken out; the table as a whole. No condition. -/
namespace Go.Proofs.Ytdmgomknamdcfaa
set_option linter.unusedVariables false
set_option linter.unusedSimpArgs false
set_option maxRecDepth 20000

theorem len_filters (p : Nat → Bool) : ∀ (l : List Nat), l.length = (l.filter p).length + (l.filter fun i => !p i).length
 | [] => rfl
 | a :: l => by
  have := len_filters p l
  cases h : p a <;> simp [List.filter_cons, h] <;> omega
theorem nodup_bound : ∀ (n : Nat) (l : List Nat), l.Nodup → (∀ i ∈ l, i < n) → l.length ≤ n
 | 0, l, _, h => by
  cases l with
  | nil => exact Nat.le_refl _
  | cons a l => have := h a (by simp); omega
 | n + 1, l, hd, h => by
  have h1 := nodup_bound n (l.filter fun i => decide (i ≠ n)) (hd.filter _) (fun i hi => by
   obtain ⟨h2, h3⟩ := List.mem_filter.1 hi
   have := h i h2
   have h4 : i ≠ n := of_decide_eq_true h3
   omega)
  have h2 : (l.filter fun i => !decide (i ≠ n)).length ≤ 1 := by
   have hnd := hd.filter fun i => !decide (i ≠ n)
   have hall : ∀ i ∈ l.filter fun i => !decide (i ≠ n), i = n := fun i hi => by simpa using (List.mem_filter.1 hi).2
   generalize (l.filter fun i => !decide (i ≠ n)) = m at hnd hall
   match m, hnd, hall with
   | [], _, _ => simp
   | [_], _, _ => simp
   | a :: b :: m, hnd, hall =>
    have e1 := hall a (by simp)
    have e2 := hall b (by simp)
    rw [e1, e2] at hnd
    simp at hnd
  have h3 := len_filters (fun i => decide (i ≠ n)) l
  omega
theorem Pl.flen {t : Tb} {S : List Nat} (h : Pl t S) : S.length + t.F.length ≤ t.N.length := by
 have := nodup_bound t.N.length _ h.nodup (fun i hi => (h.lt i hi).2)
 simpa using this
/-- a place dropped -/
theorem drop_stp {t : Tb} {S : List Nat} {k : Nat} (h : Pl t (k :: S)) : Stp t (k :: S) (dropT t k) S ∧ (∀ i ∈ S, (dropT t k).N[i]? = t.N[i]?) ∧ (dropT t k).N.length = t.N.length := by
 have hk : k ∉ S := fun hm => by
  have := h.nodup
  rw [List.cons_append, List.nodup_cons] at this
  exact this.1 (by simp [hm])
 have hp : (k :: S ++ t.F).Perm (S ++ (t.F ++ [k])) := by
  rw [← List.append_assoc]
  exact (List.perm_append_comm (l₁ := [k]) (l₂ := S ++ t.F))
 refine ⟨⟨⟨rfl, rfl, rfl, rfl⟩, ⟨hp.nodup_iff.1 h.nodup, fun i hi => ?_, by show 0 < (t.N.set k Nd.zero).length; rw [List.length_set]; exact h.pos⟩, fun i hi => .inl (hp.mem_iff.2 hi), fun i hi hn => ?_, by show _ ≤ (t.N.set k Nd.zero).length; rw [List.length_set]; exact Nat.le_refl _⟩, fun i hi => ?_, by show (t.N.set k Nd.zero).length = _; rw [List.length_set]⟩
 ·show 0 < i ∧ i < (t.N.set k Nd.zero).length
  rw [List.length_set]
  exact h.lt i (hp.mem_iff.2 hi)
 ·show (t.N.set k Nd.zero)[i]? = _
  rw [List.getElem?_set_ne (fun e => hn (by rw [← e]; simp))]
 show (t.N.set k Nd.zero)[i]? = _
 rw [List.getElem?_set_ne (fun e => hk (by rw [e]; exact hi))]
theorem sits_lt {t : Tb} {s : Bool} {tr : Tr} {k : Nat} {S : List Nat} (h : Sits t.N s tr k) (hp : Pl t S) (hS : ∀ i ∈ tr.ids, i ∈ S) : k < t.N.length := by
 cases tr with
 | nil => rw [show k = 0 from h]; exact hp.pos
 | node n p is v l r =>
  obtain ⟨rfl, _⟩ := h
  exact (hp.lt k (by have := hS k (by simp [Tr.ids]); simp [this])).2
/-- what stands there then -/
theorem join_sits {t : Tb} {s : Bool} {k : Nat} {n : Nd} {q : List Bool} {is : Bool} {v : Int} {l r : Tr} (hn : t.N[k]? = some n) (hd : Hd s n q is v) (hl : Sits t.N s l n.k0) (hr : Sits t.N s r n.k1) (hp : Pl t (k :: (l.ids ++ r.ids))) (hN : t.N.length ≤ 1000000) :
  ∃ k' t', joinN t k = some (k', t') ∧ Sits t'.N s (Tr.join k q is v l r) k' ∧ Stp t (k :: (l.ids ++ r.ids)) t' (Tr.join k q is v l r).ids ∧ t'.N.length = t.N.length := by
 have hk0 := (hp.lt k (by simp)).1
 have z0 := hl.zero
 have z1 := hr.zero
 have b0 := sits_lt hl hp (fun i hi => by simp [hi])
 have b1 := sits_lt hr hp (fun i hi => by simp [hi])
 have hfl := hp.flen
 have hself : Sits t.N s (.node k q is v l r) k := ⟨rfl, hk0, n, hn, hd, hl, hr⟩
 unfold joinN
 rw [hn]
 simp only []
 have his := hd.is
 by_cases h1 : n.is = true
 ·rw [if_pos h1]
  have e : Tr.join k q is v l r = .node k q is v l r := by unfold Tr.join; rw [← his, h1]; rfl
  rw [e]
  exact ⟨k, t, rfl, hself, Stp.refl hp, rfl⟩
 rw [if_neg h1]
 have h1' : is = false := by rw [← his]; simpa using h1
 by_cases h2 : n.k0 ≠ 0 ∧ n.k1 ≠ 0
 ·rw [if_pos h2]
  have e : Tr.join k q is v l r = .node k q is v l r := by
   unfold Tr.join
   have e0 : l.isNil = false := by cases h : l.isNil with | false => rfl | true => exact absurd (z0.2 h) h2.1
   have e1 : r.isNil = false := by cases h : r.isNil with | false => rfl | true => exact absurd (z1.2 h) h2.2
   rw [e0, e1, if_pos (by simp)]
  rw [e]
  exact ⟨k, t, rfl, hself, Stp.refl hp, rfl⟩
 rw [if_neg h2, if_pos ⟨by omega, by omega, by omega⟩]
 obtain ⟨hst, hkeep, hlen⟩ := drop_stp hp
 by_cases h3 : n.k0 = 0
 ·have e0 := z0.1 h3
  have en := nil_of e0
  subst en
  have e : Tr.join k q is v .nil r = r := by unfold Tr.join; rw [h1']; rfl
  rw [e, h3, Nat.zero_add]
  exact ⟨_, _, rfl, hr.frame (fun i hi => hkeep i (by simp [hi])), hst, hlen⟩
 have h4 : n.k1 = 0 := by
  rcases Nat.eq_zero_or_pos n.k1 with h | h
  ·exact h
  exact absurd ⟨h3, by omega⟩ h2
 have en := nil_of (z1.1 h4)
 subst en
 have e0 : l.isNil = false := by cases h : l.isNil with | false => rfl | true => exact absurd (z0.2 h) h3
 have e : Tr.join k q is v l .nil = l := by unfold Tr.join; rw [h1', e0]; rfl
 rw [e, h4, Nat.add_zero]
 refine ⟨_, _, rfl, hl.frame (fun i hi => hkeep i (by simp [hi])), hst.perm (List.Perm.refl _) ?_, hlen⟩
 show (l.ids ++ []).Perm l.ids
 rw [List.append_nil]
/-- what is taken out at a node or below -/
theorem without_sits {p : Px} (hp : p.good) {s : Bool} (h6 : p.six = s) : ∀ (tr : Tr) (f : Nat) (t : Tb) (k : Nat), t.six = s → Sits t.N s tr k → Pl t tr.ids → tr.dep < f + 1 → t.N.length ≤ 1000000 → tr.find p.bits ≠ .nil →
  ∃ r t', withoutN f t k p = some (r, t') ∧ Sits t'.N s (tr.del p.bits) r ∧ Stp t tr.ids t' (tr.del p.bits).ids ∧ t'.N.length = t.N.length
 | .nil, f, t, k, hs6, hs, hpl, hf, hN, hfd => absurd rfl hfd
 | .node n q is v l r, f, t, k, hs6, hs, hpl, hf, hN, hfd => by
  obtain ⟨f, rfl⟩ : ∃ g, f = g + 1 := ⟨f - 1, by simp only [Tr.dep] at hf; omega⟩
  obtain ⟨rfl, hk0, o, ho, hd, hl, hr⟩ := hs
  have hd0 := hd
  obtain ⟨g, o6, hb, his, hv⟩ := hd
  have hdl : l.dep < f + 1 := by simp only [Tr.dep] at hf; omega
  have hdr : r.dep < f + 1 := by simp only [Tr.dep] at hf; omega
  subst hb his hv
  have hlp : Pl t ((k :: r.ids) ++ l.ids) := hpl.perm (by
   show (k :: (l.ids ++ r.ids)).Perm (k :: (r.ids ++ l.ids))
   exact List.Perm.cons k List.perm_append_comm)
  have hrp : Pl t ((k :: l.ids) ++ r.ids) := hpl
  have hklt := (hpl.lt k (by simp [Tr.ids])).2
  have hnd := hpl.nodup
  rw [List.nodup_append] at hnd
  have hkn := (List.nodup_cons.1 hnd.1).1
  have hw : withoutN (f + 1) t k p = match cutN (fun t k => withoutN f t k p) t k o p with | none => none | some t2 => joinN t2 k := by
   conv => lhs; unfold withoutN
   rw [ho]
   rfl
  rw [hw]
  clear hw
  by_cases e : o.p = p
  ·have ecut : cutN (fun t k => withoutN f t k p) t k o p = some { t with N := t.N.set k { o with is := false, v := 0 } } := by unfold cutN; rw [if_pos e]
   rw [ecut]
   simp only []
   have hst := (Stp.refl hpl).set (n := k) (by simp [Tr.ids]) { o with is := false, v := 0 }
   obtain ⟨k', t', hj, hs', hst', hl'⟩ := join_sits (t := { t with N := t.N.set k { o with is := false, v := 0 } }) (s := s) (k := k) (n := { o with is := false, v := 0 }) (q := o.p.bits) (is := false) (v := 0) (l := l) (r := r)
    (List.getElem?_set_self hklt) ⟨g, o6, rfl, rfl, rfl⟩ (hl.frame fun i hi => List.getElem?_set_ne (fun e => hkn (by rw [e]; exact List.mem_append.2 (.inl hi)))) (hr.frame fun i hi => List.getElem?_set_ne (fun e => hkn (by rw [e]; exact List.mem_append.2 (.inr hi)))) hst.pl (by simpa using hN)
   have edel : Tr.del p.bits (.node k o.p.bits o.is o.v l r) = Tr.join k o.p.bits false 0 l r := by
    conv => lhs; unfold Tr.del
    rw [if_pos (by rw [e])]
   rw [edel]
   exact ⟨k', t', hj, hs', hst.trans hst', by rw [hl']; simp⟩
  have eb : o.p.bits ≠ p.bits := fun h => e (good_eq g hp (by rw [o6, h6]) h)
  unfold Tr.find at hfd
  rw [if_neg eb] at hfd
  by_cases hpre : o.p.bits <+: p.bits
  ·rw [if_pos hpre] at hfd
   have hbit := side_N hp g (prefix_lt hpre eb)
   cases hsd : sideB p.bits o.p.bits.length
   ·rw [hsd] at hfd hbit
    simp only [Bool.false_eq_true, if_false] at hfd hbit
    obtain ⟨kid, t1, hb1, hs1, hst1, hl1⟩ := without_sits hp h6 l f t o.k0 hs6 hl ⟨(List.nodup_append.1 (by have := hlp.nodup; rwa [List.append_assoc] at this)).2.1, fun i hi => hlp.lt i (by rw [List.append_assoc]; exact List.mem_append.2 (.inr hi)), hpl.pos⟩ hdl hN hfd
    have hkeep := hst1.keep (k :: r.ids) hlp
    have hk1 := hkeep k (by simp)
    have ecut : cutN (fun t k => withoutN f t k p) t k o p = some { t1 with N := t1.N.set k (o.setKid 0 kid) } := by
     unfold cutN
     rw [if_neg e, hbit]
     simp only []
     rw [show o.kid 0 = o.k0 from rfl, hb1]
     simp only []
     rw [hk1.1, ho]
    rw [ecut]
    simp only []
    have hst2 := (((hst1.beside (k :: r.ids) hlp).set (n := k) (by simp) (o.setKid 0 kid)).perm (show ((k :: r.ids) ++ l.ids).Perm (k :: (l.ids ++ r.ids)) from List.Perm.cons k List.perm_append_comm) (show ((k :: r.ids) ++ (l.del p.bits).ids).Perm (k :: ((l.del p.bits).ids ++ r.ids)) from List.Perm.cons k List.perm_append_comm))
    have hlt1 : k < t1.N.length := by rw [hl1]; exact hklt
    obtain ⟨k', t', hj, hs', hst', hl'⟩ := join_sits (t := { t1 with N := t1.N.set k (o.setKid 0 kid) }) (s := s) (k := k) (n := o.setKid 0 kid) (q := o.p.bits) (is := o.is) (v := o.v) (l := l.del p.bits) (r := r)
     (List.getElem?_set_self hlt1) ⟨g, o6, rfl, rfl, rfl⟩ (hs1.frame fun i hi => List.getElem?_set_ne (fun e => hk1.2 (by rw [e]; exact List.mem_append.2 (.inl hi))))
     (hr.frame fun i hi => by rw [List.getElem?_set_ne (fun e => hkn (by rw [e]; exact List.mem_append.2 (.inr hi)))]; exact (hkeep i (by simp [hi])).1) hst2.pl (by simp; omega)
    have edel : Tr.del p.bits (.node k o.p.bits o.is o.v l r) = Tr.join k o.p.bits o.is o.v (l.del p.bits) r := by
     conv => lhs; unfold Tr.del
     rw [if_neg eb, hsd]
     rfl
    rw [edel]
    exact ⟨k', t', hj, hs', hst2.trans hst', by rw [hl']; simpa using hl1⟩
   rw [hsd] at hfd hbit
   simp only [if_true] at hfd hbit
   obtain ⟨kid, t1, hb1, hs1, hst1, hl1⟩ := without_sits hp h6 r f t o.k1 hs6 hr ⟨(List.nodup_append.1 (by have := hrp.nodup; rwa [List.append_assoc] at this)).2.1, fun i hi => hrp.lt i (by rw [List.append_assoc]; exact List.mem_append.2 (.inr hi)), hpl.pos⟩ hdr hN hfd
   have hkeep := hst1.keep (k :: l.ids) hrp
   have hk1 := hkeep k (by simp)
   have ecut : cutN (fun t k => withoutN f t k p) t k o p = some { t1 with N := t1.N.set k (o.setKid 1 kid) } := by
    unfold cutN
    rw [if_neg e, hbit]
    simp only []
    rw [show o.kid 1 = o.k1 from rfl, hb1]
    simp only []
    rw [hk1.1, ho]
   rw [ecut]
   simp only []
   have hst2 := ((hst1.beside (k :: l.ids) hrp).set (n := k) (by simp) (o.setKid 1 kid))
   have hlt1 : k < t1.N.length := by rw [hl1]; exact hklt
   obtain ⟨k', t', hj, hs', hst', hl'⟩ := join_sits (t := { t1 with N := t1.N.set k (o.setKid 1 kid) }) (s := s) (k := k) (n := o.setKid 1 kid) (q := o.p.bits) (is := o.is) (v := o.v) (l := l) (r := r.del p.bits)
    (List.getElem?_set_self hlt1) ⟨g, o6, rfl, rfl, rfl⟩ (hl.frame fun i hi => by rw [List.getElem?_set_ne (fun e => hkn (by rw [e]; exact List.mem_append.2 (.inl hi)))]; exact (hkeep i (by simp [hi])).1)
    (hs1.frame fun i hi => List.getElem?_set_ne (fun e => hk1.2 (by rw [e]; exact List.mem_append.2 (.inl hi)))) hst2.pl (by simp; omega)
   have edel : Tr.del p.bits (.node k o.p.bits o.is o.v l r) = Tr.join k o.p.bits o.is o.v l (r.del p.bits) := by
    conv => lhs; unfold Tr.del
    rw [if_neg eb, hsd]
    rfl
   rw [edel]
   exact ⟨k', t', hj, hs', hst2.trans hst', by rw [hl']; simpa using hl1⟩
  rw [if_neg hpre] at hfd
  exact absurd rfl hfd

/-! the whole table -/
/-- a table, and the row of what it holds -/
structure TbOk (t : Tb) (L : List Itm) : Prop where
 tree : ∃ tr, Sits t.N t.six tr t.root ∧ Pl t tr.ids ∧ Rel9 t.six L tr
 zero : ∃ z, t.N[0]? = some z ∧ z.v = 0 ∧ z.is = false ∧ z.p = Px.zero
 count : t.count = L.length
theorem okT_iff {six : Bool} {p : Px} (hf : p.addr.length = 16) : okT six p = true ↔ p.good ∧ p.six = six := by
 unfold okT
 rw [Bool.and_eq_true, decide_eq_true_eq, beq_iff_eq, chkP_iff p hf]
/-- what is answered of a prefix -/
def ansG (six : Bool) (L : List Itm) (p : Px) : Int × Bool := if okT six p = true then valP L p else (0, false)
theorem putP_len {L : List Itm} {p : Px} {v : Int} : (putP L p v).length = if hasP L p then L.length else L.length + 1 := by
 have := cntP_le L p
 have hlt : hasP L p = true → cntP L p < L.length := fun h => by
  unfold hasP at h
  rcases Nat.lt_or_ge (cntP L p) L.length with h1 | h1
  ·exact h1
  rw [List.getElem?_eq_none h1] at h; cases h
 unfold putP
 cases hh : hasP L p
 ·simp; omega
 have := hlt hh
 simp; omega
theorem delP_len {L : List Itm} {p : Px} (h : hasP L p = true) : (delP L p).length + 1 = L.length := by
 have hlt : cntP L p < L.length := by
  unfold hasP at h
  rcases Nat.lt_or_ge (cntP L p) L.length with h1 | h1
  ·exact h1
  rw [List.getElem?_eq_none h1] at h; cases h
 unfold delP
 simp
 omega
/-- what Put answers, and makes of a row -/
def ansP (six : Bool) (room : Int) (L : List Itm) (p : Px) (v : Int) : List Itm × Int :=
 if okT six p = true then if hasP L p = false ∧ (L.length : Int) = room then (L, 30) else (putP L p v, 0) else (L, 1)
def ansD (six : Bool) (L : List Itm) (p : Px) : List Itm × Int :=
 if okT six p = true then if hasP L p = true then (delP L p, 0) else (L, 31) else (L, 1)
theorem valP_snd (L : List Itm) (p : Px) : (valP L p).2 = hasP L p := by unfold valP; cases hasP L p <;> rfl
/-- a table turned: the tree's new root -/
theorem TbOk.turned {t t' : Tb} {L' : List Itm} {tr tr' : Tr} {r : Nat} (h0 : ∃ z, t.N[0]? = some z ∧ z.v = 0 ∧ z.is = false ∧ z.p = Px.zero) (hp : Pl t tr.ids) (hst : Stp t tr.ids t' tr'.ids) (hs : Sits t'.N t.six tr' r) (hr : Rel9 t.six L' tr') (hc : t.count = L'.length) : TbOk { t' with root := r } L' := by
 obtain ⟨z, hz, h1⟩ := h0
 refine ⟨⟨tr', ?_, ⟨hst.pl.nodup, hst.pl.lt, hst.pl.pos⟩, ?_⟩, ⟨z, ?_, h1⟩, ?_⟩
 ·show Sits t'.N t'.six tr' r
  rw [hst.same.1]; exact hs
 ·show Rel9 t'.six L' tr'
  rw [hst.same.1]; exact hr
 ·show t'.N[0]? = _
  rw [hst.far 0 hp.pos (fun hm => by have := (hp.lt 0 hm).1; omega)]
  exact hz
 show t'.count = _
 rw [hst.same.2.2.1]; exact hc
theorem TbOk.put {t : Tb} {L : List Itm} (h : TbOk t L) (p : Px) (hf : p.addr.length = 16) (v : Int) (hN : t.N.length ≤ 999990) :
  ∃ F t', putT t p v F = some ((ansP t.six t.room L p v).2, t') ∧ TbOk t' (ansP t.six t.room L p v).1 ∧ t'.six = t.six ∧ t'.room = t.room ∧ t'.N.length ≤ t.N.length + 2 := by
 obtain ⟨tr, hs, hp, hr⟩ := h.tree
 have hFl := hp.flen
 have hget : ∀ F, tr.dep < F → getT t p F = some (ansG t.six L p) := fun F hF => by
  unfold getT ansG
  by_cases ho : okT t.six p = true
  ·rw [if_pos ho, if_pos ho]
   obtain ⟨g, h6⟩ := (okT_iff hf).1 ho
   obtain ⟨z, hz, zv, zi, _⟩ := h.zero
   have hv := hr.val g h6
   obtain ⟨r, e, h2⟩ := find_sits g h6 tr t.root F hs hF
   rw [e]
   simp only []
   rcases h2 with ⟨rfl, hn⟩ | ⟨x, hx, hxv⟩
   ·rw [hz]
    simp only []
    rw [zv, zi, ← hv, hn]
    rfl
   rw [hx]
   simp only []
   rw [hxv, hv]
  rw [if_neg ho, if_neg ho]
 refine ⟨tr.dep + 1, ?_⟩
 unfold putT ansP
 by_cases ho : okT t.six p = true
 ·rw [if_pos ho, if_pos ho, hget _ (Nat.lt_succ_self _)]
  obtain ⟨g, h6⟩ := (okT_iff hf).1 ho
  have e9 : ansG t.six L p = valP L p := by unfold ansG; rw [if_pos ho]
  rw [e9]
  simp only []
  rw [valP_snd]
  cases hh : hasP L p
  ·rw [if_pos rfl]
   by_cases hfull : (L.length : Int) = t.room
   ·rw [if_pos (by rw [h.count]; exact hfull), if_pos ⟨rfl, hfull⟩]
    exact ⟨t, rfl, h, rfl, rfl, by omega⟩
   rw [if_neg (by rw [h.count]; exact hfull), if_neg (fun e => hfull e.2)]
   obtain ⟨r, t', n1, n2, hb, hs', hst, hl, hfl⟩ := below_sits (x := ⟨p, true, v, 0, 0⟩) g rfl rfl rfl tr (tr.dep + 1) { t with count := t.count + 1 } t.root hs ⟨hp.nodup, hp.lt, hp.pos⟩ (Nat.lt_succ_self _) hN (by show t.F.length ≤ _; omega) h6
   rw [hb]
   simp only []
   refine ⟨_, rfl, TbOk.turned (t := { t with count := t.count + 1 }) h.zero ⟨hp.nodup, hp.lt, hp.pos⟩ hst hs' (hr.put g h6 v n1 n2) ?_, hst.same.1, hst.same.2.1, hl⟩
   show t.count + 1 = _
   rw [putP_len, hh, h.count]
   simp
  rw [if_neg (by simp), if_neg (by simp)]
  obtain ⟨r, t', n1, n2, hb, hs', hst, hl, hfl⟩ := below_sits (x := ⟨p, true, v, 0, 0⟩) g rfl rfl rfl tr (tr.dep + 1) t t.root hs hp (Nat.lt_succ_self _) hN (by omega) h6
  rw [hb]
  simp only []
  refine ⟨_, rfl, TbOk.turned h.zero hp hst hs' (hr.put g h6 v n1 n2) ?_, hst.same.1, hst.same.2.1, hl⟩
  rw [putP_len, hh, h.count]
  simp
 rw [if_neg ho, if_neg ho]
 exact ⟨t, rfl, h, rfl, rfl, by omega⟩
theorem TbOk.del {t : Tb} {L : List Itm} (h : TbOk t L) (p : Px) (hf : p.addr.length = 16) (hN : t.N.length ≤ 1000000) :
  ∃ F t', delT t p F = some ((ansD t.six L p).2, t') ∧ TbOk t' (ansD t.six L p).1 ∧ t'.six = t.six ∧ t'.room = t.room ∧ t'.N.length = t.N.length := by
 obtain ⟨tr, hs, hp, hr⟩ := h.tree
 have hFl := hp.flen
 have hget : ∀ F, tr.dep < F → okT t.six p = true → getT t p F = some (valP L p) := fun F hF ho => by
  unfold getT
  rw [if_pos ho]
  obtain ⟨g, h6⟩ := (okT_iff hf).1 ho
  obtain ⟨z, hz, zv, zi, _⟩ := h.zero
  have hv := hr.val g h6
  obtain ⟨r, e, h2⟩ := find_sits g h6 tr t.root F hs hF
  rw [e]
  simp only []
  rcases h2 with ⟨rfl, hn⟩ | ⟨x, hx, hxv⟩
  ·rw [hz]
   simp only []
   rw [zv, zi, ← hv, hn]
   rfl
  rw [hx]
  simp only []
  rw [hxv, hv]
 refine ⟨tr.dep + 1, ?_⟩
 unfold delT ansD
 by_cases ho : okT t.six p = true
 ·rw [if_pos ho, if_pos ho, hget _ (Nat.lt_succ_self _) ho]
  obtain ⟨g, h6⟩ := (okT_iff hf).1 ho
  simp only []
  rw [valP_snd]
  cases hh : hasP L p
  ·rw [if_pos rfl, if_neg (by simp)]
   exact ⟨t, rfl, h, rfl, rfl, rfl⟩
  rw [if_neg (by simp), if_pos rfl]
  have hfd : tr.find p.bits ≠ .nil := fun e => by
   have hv := hr.val g h6
   rw [e] at hv
   have h9 := valP_snd L p
   rw [← hv, hh] at h9
   cases h9
  obtain ⟨r, t', hb, hs', hst, hl⟩ := without_sits g h6 tr (tr.dep + 1) { t with count := t.count - 1 } t.root rfl hs ⟨hp.nodup, hp.lt, hp.pos⟩ (by omega) hN hfd
  rw [hb]
  simp only []
  refine ⟨_, rfl, TbOk.turned (t := { t with count := t.count - 1 }) h.zero ⟨hp.nodup, hp.lt, hp.pos⟩ hst hs' (hr.del g h6 hh) ?_, hst.same.1, hst.same.2.1, hl⟩
  show t.count - 1 = _
  have := delP_len hh
  rw [h.count]
  omega
 rw [if_neg ho, if_neg ho]
 exact ⟨t, rfl, h, rfl, rfl, rfl⟩
/-- what Look answers -/
def ansL (L : List Itm) (a : List UInt8) : Itm × Bool := match bestP a L none with | none => ((Px.zero, 0), false) | some x => (x, true)
theorem bestP_mem {a : List UInt8} {L : List Itm} {y : Itm} (h : bestP a L none = some y) : y ∈ L := by
 rcases ((bestP_max a L none (by simp)).2 y h).1 with e | e
 ·cases e
 exact e
theorem TbOk.look {t : Tb} {L : List Itm} (h : TbOk t L) (a : List UInt8) (ha : a.length = 16) : ∃ F, lookT t a F = some (ansL L a) := by
 obtain ⟨tr, hs, hp, hr⟩ := h.tree
 obtain ⟨z, hz, zv, zi, zp⟩ := h.zero
 obtain ⟨r, e, hrep⟩ := look_sits (N := t.N) (s := t.six) ha tr t.root (tr.dep + 1) 0 .nil hs (.inl ⟨rfl, rfl⟩) (Nat.lt_succ_self _)
 have hl := hr.look ha
 refine ⟨tr.dep + 1, ?_⟩
 unfold lookT ansL
 rw [e]
 simp only []
 rcases hrep with ⟨rfl, hi⟩ | ⟨x, hx, hi, hxi, hg, h6⟩
 ·rw [hz]
  simp only []
  rw [hi] at hl
  cases hb : bestP a L none with
  | none => rw [zp, zv, zi]
  | some y => rw [hb] at hl; cases hl
 rw [hx]
 simp only []
 rw [hi] at hl
 cases hb : bestP a L none with
 | none => rw [hb] at hl; cases hl
 | some y =>
  rw [hb] at hl
  have hk : (x.p.bits, x.v) = keyB y := by injection hl
  have hy := bestP_mem hb
  have hpe : x.p = y.1 := good_eq hg (hr.ok.good y hy) (by rw [h6, hr.ok.six y hy]) (congrArg (·.1) hk)
  have hve : x.v = y.2 := congrArg (·.2) hk
  rw [hpe, hve, hxi]
theorem TbOk.all {t : Tb} {L : List Itm} (h : TbOk t L) : ∃ F, allN t.N F t.root = some L := by
 obtain ⟨tr, hs, hp, hr⟩ := h.tree
 obtain ⟨z, hz, _⟩ := h.zero
 obtain ⟨M, e, hm, hk⟩ := all_sits hz tr t.root (tr.dep + 1) hs (Nat.lt_succ_self _)
 refine ⟨tr.dep + 1, ?_⟩
 rw [e, row_eq M L hk (fun x hx => ⟨hr.ok.good x hx, hr.ok.six x hx⟩) (by rw [hm, hr.all])]
theorem TbOk.lok {t : Tb} {L : List Itm} (h : TbOk t L) : Lok t.six L := by obtain ⟨_, _, _, hr⟩ := h.tree; exact hr.ok
theorem TbOk.new (six : Bool) (room : Int) : TbOk (newT six room) [] :=
 ⟨⟨.nil, rfl, ⟨List.nodup_nil, by simp [Tr.ids, newT], by simp [newT]⟩, ⟨Lok.nil _, trivial, rfl⟩⟩, ⟨Nd.zero, rfl, rfl, rfl, rfl⟩, rfl⟩
theorem TbOk.get' {t : Tb} {L : List Itm} (h : TbOk t L) (p : Px) (hf : p.addr.length = 16) : ∃ F, getT t p F = some (ansG t.six L p) := by
 obtain ⟨tr, hs, hp, hr⟩ := h.tree
 obtain ⟨z, hz, zv, zi, _⟩ := h.zero
 refine ⟨tr.dep + 1, ?_⟩
 unfold getT ansG
 by_cases ho : okT t.six p = true
 ·rw [if_pos ho, if_pos ho]
  obtain ⟨g, h6⟩ := (okT_iff hf).1 ho
  have hv := hr.val g h6
  obtain ⟨r, e, h2⟩ := find_sits g h6 tr t.root (tr.dep + 1) hs (Nat.lt_succ_self _)
  rw [e]
  simp only []
  rcases h2 with ⟨rfl, hn⟩ | ⟨x, hx, hxv⟩
  ·rw [hz]
   simp only []
   rw [zv, zi, ← hv, hn]
   rfl
  rw [hx]
  simp only []
  rw [hxv, hv]
 rw [if_neg ho, if_neg ho]
end Go.Proofs.Ytdmgomknamdcfaa


/- Plain laws of extensions (layer 22): what is put is told; a bit turned; objects of other kinds. No condition. -/
import Derived.Test.YtbabkcdhihmomaaX22i
import Derived.Test.YtbabkcdhihmomaaSumLaw
namespace Go.Proofs.Ytbabkcdhihmomaa
open Go.RowKit
set_option linter.unusedVariables false
set_option maxRecDepth 20000
set_option linter.unusedSimpArgs false

theorem unp_packedX (x : Ent) (hf : x.fit) (hg : x.good) (r : List UInt8) : unpE (packL x ++ r) = x := by
  have hl : (packL x).length = 4 := packL_four hg
  have hp : packL x = toBe 4 x.num.toNat := if_pos hg
  obtain ⟨l, c, b, t⟩ := x
  obtain ⟨g0, g1, g2⟩ := hg
  have c0 := hf.c0
  have t0 := hf.t0
  have t1 := hf.t1
  simp only at g0 g1 g2 c0 t0 t1
  obtain ⟨N, hN⟩ : ∃ N : Nat, (Ent.mk l c b t).num = (N : Int) := ⟨(Ent.mk l c b t).num.toNat, by unfold Ent.num; simp only; split <;> omega⟩
  have hb : be ((packL ⟨l, c, b, t⟩ ++ r).take 4) = N := by
    rw [List.take_left' hl, hp, hN, be_toBe, Int.toNat_natCast]
    have : (N : Int) < 4294967296 := by rw [← hN]; unfold Ent.num; simp only; split <;> omega
    omega
  unfold unpE
  rw [if_neg (by rw [List.length_append]; omega), hb]
  unfold Ent.num at hN
  simp only at hN
  cases b
  · simp only [Bool.false_eq_true, if_false] at hN
    congr 1
    · omega
    · omega
    · simp; omega
    · omega
  · simp only [if_true] at hN
    congr 1
    · omega
    · omega
    · simp; omega
    · omega
theorem xor_bitX (u b : Nat) (hu : u < 256) (hb : b < 8) : ((u ^^^ 2 ^ b) = u + 2 ^ b ∨ (u ^^^ 2 ^ b) + 2 ^ b = u) ∧ (u ^^^ 2 ^ b) < 256 := by
  have key : ∀ (u : Fin 256) (b : Fin 8), ((u.val ^^^ 2 ^ b.val) = u.val + 2 ^ b.val ∨ (u.val ^^^ 2 ^ b.val) + 2 ^ b.val = u.val) ∧ (u.val ^^^ 2 ^ b.val) < 256 := by decide +kernel
  exact key ⟨u, hu⟩ ⟨b, hb⟩
theorem pow_le7X (b : Nat) (h : b < 8) : 1 ≤ 2 ^ b ∧ 2 ^ b ≤ 128 := by
  have : 2 ^ b ≤ 2 ^ 7 := Nat.pow_le_pow_right (by omega) (by omega)
  exact ⟨Nat.one_le_two_pow, by omega⟩
theorem raw_turnedX (l : List UInt8) (j : Nat) (u : UInt8) (b : Nat) (hb : b < 8) (hu : l[j]? = some u) (hr : rawN l = 65535) : rawN (l.set j (UInt8.ofNat (u.toNat ^^^ 2 ^ b))) ≠ 65535 := by
  obtain ⟨hx, hlt⟩ := xor_bitX u.toNat b u.toNat_lt hb
  obtain ⟨p1, p2⟩ := pow_le7X b hb
  have hs := sumB_set false l j (UInt8.ofNat (u.toNat ^^^ 2 ^ b)) u hu
  rw [UInt8.toNat_ofNat', Nat.mod_eq_of_lt (show u.toNat ^^^ 2 ^ b < 2 ^ 8 by omega)] at hs
  unfold rawN at hr ⊢
  generalize sumB false l = s at *
  generalize sumB false (l.set j (UInt8.ofNat (u.toNat ^^^ 2 ^ b))) = s' at *
  generalize u.toNat ^^^ 2 ^ b = v at *
  generalize 2 ^ b = p at *
  generalize u.toNat = x at *
  intro hr'
  unfold foldN at hr hr'
  split at hr
  · omega
  split at hr'
  · omega
  split at hs <;> omega
theorem toBe2_eq (c : Nat) (h : c ≤ 65535) : toBe 2 c = [UInt8.ofNat (c / 256), UInt8.ofNat (c % 256)] := by
  have h1 := toBe_cons 1 c
  have h2 := toBe_cons 0 c
  rw [h1, h2]
  simp only [Nat.pow_one, Nat.pow_zero, Nat.div_one, toBe]
  rw [Nat.mod_eq_of_lt (show c / 256 < 256 by omega)]
theorem raw_hd22 (s : List UInt8) : rawN (hd22 s) = 65535 := by
  have h := sum_right ([32, 0, 0, 0] ++ s) 1 (by simp) (65535 - rawN ([32, 0, 0, 0] ++ s)) rfl
  unfold hd22
  rw [toBe2_eq _ (by omega)]
  exact h

structure Ob.fine (x : Ob) : Prop where
  good : x.good = true
  cls : 0 ≤ x.cls ∧ x.cls ≤ 255
  kind : 0 ≤ x.kind ∧ x.kind ≤ 255
theorem Ob.good_len {x : Ob} (h : x.good = true) : x.body.length ≤ 1000 ∧ x.body.length % 4 = 0 := by
  unfold Ob.good at h
  simpa using h
theorem goG_obs : ∀ (l : List Ob) (f : Nat) (acc : List Ob), l.length ≤ f → (∀ x ∈ l, x.fine) → goG f acc (obsB l) = (acc ++ l, 0) := by
  intro l
  induction l with
  | nil =>
    intro f acc _ _
    rw [List.append_nil]
    cases f with
    | zero => rfl
    | succ f => unfold goG; rw [if_pos (show (obsB []).length = 0 from rfl)]
  | cons x l ih =>
    intro f acc hf hx
    obtain ⟨f, rfl⟩ : ∃ q, f = q + 1 := ⟨f - 1, by simp at hf; omega⟩
    have hxf := hx x (by simp)
    obtain ⟨h1, h2⟩ := Ob.good_len hxf.good
    have he : obsB (x :: l) = obB x ++ obsB l := rfl
    have hbl := obB_length x
    have ho : obB x = toBe 2 (x.body.length + 4) ++ ([ub x.cls, ub x.kind] ++ x.body) := by unfold obB; rw [List.append_assoc]
    have ht : be ((obB x ++ obsB l).take 2) = x.body.length + 4 := by
      rw [ho, List.append_assoc, List.take_left' (toBe_length _ _), be_toBe]
      exact Nat.mod_eq_of_lt (by omega)
    have hbad : badG (obB x ++ obsB l) = false := by
      unfold badG
      rw [ht, List.length_append, hbl]
      simp
      omega
    have hob : obG (obB x ++ obsB l) = x := by
      unfold obG
      rw [ht, List.take_left' hbl, ho, toBe2_eq _ (by omega)]
      have e1 := ub_nat x.cls hxf.cls.1 hxf.cls.2
      have e2 := ub_nat x.kind hxf.kind.1 hxf.kind.2
      obtain ⟨c, k, b⟩ := x
      simp only [List.cons_append, List.nil_append, List.getD_cons_succ, List.getD_cons_zero, List.drop_succ_cons, List.drop_zero] at e1 e2 ⊢
      rw [e1, e2]
    rw [he]
    unfold goG
    rw [if_neg (by rw [List.length_append, hbl]; omega), if_neg (by rw [List.length_append, hbl]; omega), hbad, if_neg (by decide), hob, ht, List.drop_left' hbl, ih f (acc ++ [x]) (by simp at hf; omega) (fun y hy => hx y (by simp [hy]))]
    simp
theorem obsB_ge (l : List Ob) : l.length ≤ (obsB l).length := by
  induction l with
  | nil => simp
  | cons x l ih =>
    have he : obsB (x :: l) = obB x ++ obsB l := rfl
    rw [he, List.length_append, obB_length, List.length_cons]
    omega
theorem hd22_cons (s : List UInt8) : ∃ a b, hd22 s = 32 :: 0 :: a :: b :: s := by
  unfold hd22
  rw [toBe2_eq _ (by omega)]
  exact ⟨_, _, rfl⟩
theorem getG_hd (l : List Ob) (h : ∀ x ∈ l, x.fine) : getG (hd22 (obsB l)) = (l, 0) := by
  have hr := raw_hd22 (obsB l)
  obtain ⟨a, b, he⟩ := hd22_cons (obsB l)
  rw [he] at hr ⊢
  unfold getG
  rw [if_neg (by simp), if_neg (by simp), if_neg (by rw [hr]; simp)]
  simp only [List.length_cons, List.drop_succ_cons, List.drop_zero]
  have := goG_obs l ((obsB l).length) [] (obsB_ge l) h
  simpa using this
theorem getG_turned (z : List UInt8) (h4 : 4 ≤ z.length) (hr : rawN z = 65535) (j : Nat) (u : UInt8) (b : Nat) (hb : b < 8) (hu : z[j]? = some u) :
    (getG (z.set j (UInt8.ofNat (u.toNat ^^^ 2 ^ b)))).2 = 12 ∨ (getG (z.set j (UInt8.ofNat (u.toNat ^^^ 2 ^ b)))).2 = 14 := by
  have hne := raw_turnedX z j u b hb hu hr
  have hl : (z.set j (UInt8.ofNat (u.toNat ^^^ 2 ^ b))).length = z.length := by simp
  generalize z.set j (UInt8.ofNat (u.toNat ^^^ 2 ^ b)) = z' at hne hl ⊢
  unfold getG
  rw [if_neg (by omega)]
  by_cases hv : (z'.getD 0 0).toNat / 16 ≠ 2
  · rw [if_pos hv]
    exact .inl rfl
  · rw [if_neg hv, if_pos hne]
    exact .inr rfl
theorem entAt_cons (p T : List UInt8) (hp : p.length = 4) (k : Nat) : entAt (p ++ T) (k + 1) = entAt T k := by
  unfold entAt
  rw [show 4 * (k + 1) = 4 + 4 * k by omega, ← List.drop_drop, List.drop_left' hp]
theorem outs_packs (l : List Ent) (hf : ∀ x ∈ l, x.fit) (hg : ∀ x ∈ l, x.good) : outs (l.flatMap packL) l.length = l := by
  induction l with
  | nil => rfl
  | cons x l ih =>
    have hp := packL_four (hg x (by simp))
    have ih' := ih (fun y hy => hf y (by simp [hy])) (fun y hy => hg y (by simp [hy]))
    unfold outs at ih' ⊢
    rw [List.length_cons, List.range_succ_eq_map, List.map_cons, List.map_map, List.flatMap_cons]
    rw [show entAt (packL x ++ l.flatMap packL) 0 = x by unfold entAt; rw [Nat.mul_zero, List.drop_zero]; exact unp_packedX x (hf x (by simp)) (hg x (by simp)) _]
    congr 1
    exact Eq.trans (List.map_congr_left fun k _ => entAt_cons _ _ hp k) ih'
theorem told_of (L : List Ob) (hL : ∀ x ∈ L, x.fine) (l : List Ent) (hf : ∀ x ∈ l, x.fit) (hg : ∀ x ∈ l, x.good) (h16 : l.length ≤ 16) (hfd : L.find? Ob.lab = some ⟨1, 1, l.flatMap packL⟩) : toldG (hd22 (obsB L)) = (l, 0) := by
  unfold toldG
  rw [getG_hd L hL]
  simp only [hfd, packs_len l hg]
  rw [if_neg (by decide), if_neg (by omega), show 4 * l.length / 4 = l.length by omega, outs_packs l hf hg]
end Go.Proofs.Ytbabkcdhihmomaa

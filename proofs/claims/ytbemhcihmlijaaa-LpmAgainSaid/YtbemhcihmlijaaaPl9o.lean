/- Plain laws of scripts of prefixes put in any order (layer 9). No condition. -/
import Derived.Test.YtbemhcihmlijaaaG27
import Derived.Test.YtbemhcihmlijaaaG30
namespace Go.Proofs.Ytbemhcihmlijaaa
set_option linter.unusedVariables false
set_option linter.unusedSimpArgs false

/-- rows with the same members are the same -/
theorem keyB_inj {s : Bool} : ∀ (L M : List Itm), (∀ x ∈ L, x.1.good ∧ x.1.six = s) → (∀ x ∈ M, x.1.good ∧ x.1.six = s) → L.map keyB = M.map keyB → L = M
 | [], [], _, _, _ => rfl
 | [], y :: M, _, _, h => by cases h
 | x :: L, [], _, _, h => by cases h
 | x :: L, y :: M, hL, hM, h => by
  rw [List.map_cons, List.map_cons] at h
  injection h with h1 h2
  injection h1 with h3 h4
  have hx := hL x (by simp)
  have hy := hM y (by simp)
  have e : x.1 = y.1 := good_eq hx.1 hy.1 (by rw [hx.2, hy.2]) h3
  have e2 : x = y := Prod.ext e h4
  rw [e2, keyB_inj L M (fun z hz => hL z (by simp [hz])) (fun z hz => hM z (by simp [hz])) h2]
theorem lok_same {s : Bool} {L M : List Itm} (h : Lok s L) (k : Lok s M) (hm : ∀ x, x ∈ L ↔ x ∈ M) : L = M := by
 refine keyB_inj (s := s) L M (fun x hx => ⟨h.good x hx, h.six x hx⟩) (fun x hx => ⟨k.good x hx, k.six x hx⟩) (map_mem h _ k.sorted fun b u => ?_)
 constructor
 ·intro hb
  obtain ⟨x, hx, e⟩ := List.mem_map.1 hb
  exact List.mem_map.2 ⟨x, (hm x).1 hx, e⟩
 ·intro hb
  obtain ⟨x, hx, e⟩ := List.mem_map.1 hb
  exact List.mem_map.2 ⟨x, (hm x).2 hx, e⟩
/-- what a script has first of a prefix -/
def firstO : List St9 → Px → Option Int
 | [], _ => none
 | s :: R, p => if s.p = p then some s.v else firstO R p
theorem firstO_snoc (s : St9) (p : Px) : ∀ (R : List St9), firstO (R ++ [s]) p = match firstO R p with | some u => some u | none => if s.p = p then some s.v else none
 | [] => rfl
 | x :: R => by
  show (if x.p = p then some x.v else firstO (R ++ [s]) p) = match (if x.p = p then some x.v else firstO R p) with | some u => some u | none => if s.p = p then some s.v else none
  by_cases h : x.p = p
  ·rw [if_pos h, if_pos h]
  ·rw [if_neg h, if_neg h]; exact firstO_snoc s p R
/-- a row that holds what a script has first -/
structure Hold (six : Bool) (L : List Itm) (R : List St9) : Prop where
 lok : Lok six L
 mem : ∀ p u, (p, u) ∈ L ↔ (p.good ∧ p.six = six) ∧ firstO R p = some u
theorem Hold.nil (six : Bool) : Hold six [] [] := ⟨Lok.nil six, fun p u => ⟨(fun h => by cases h), (fun h => by cases h.2)⟩⟩
theorem Hold.same {six : Bool} {L M : List Itm} {R : List St9} (h : Hold six L R) (k : Hold six M R) : L = M :=
 lok_same h.lok k.lok fun x => (h.mem x.1 x.2).trans (k.mem x.1 x.2).symm
theorem okR_iff {six : Bool} {p : Px} (hp : p.addr.length = 16) : okR true six p = true ↔ p.good ∧ p.six = six := by
 rw [okR_T]; exact okT_iff hp
theorem put_bad {six : Bool} {room : Int} {L : List Itm} {p : Px} (hp : p.addr.length = 16) (hg : ¬ (p.good ∧ p.six = six)) (v : Int) : putR true six room L p v = (L, 1) := by
 unfold putR
 rw [if_neg (fun e => hg ((okR_iff hp).1 e))]
theorem put_good {six : Bool} {room : Int} {L : List Itm} (hL : Lok six L) (hr : (L.length : Int) ≠ room) {p : Px} (hg : p.good ∧ p.six = six) (v : Int) : putR true six room L p v = (putP L p v, 0) := by
 unfold putR
 rw [if_pos ((okR_iff hg.1.addr).2 hg), if_neg (fun e => hr e.2), putC_same hL hg.1.addr hg.2]
theorem Hold.back {six : Bool} {room : Int} {L : List Itm} {R : List St9} (h : Hold six L R) (hr : (L.length : Int) ≠ room) (s : St9) (hp : s.p.addr.length = 16) : Hold six (putR true six room L s.p s.v).1 (s :: R) := by
 by_cases hg : s.p.good ∧ s.p.six = six
 ·rw [put_good h.lok hr hg]
  obtain ⟨h1, h2⟩ := putP_ok h.lok hg.1 hg.2 s.v
  refine ⟨h1, fun q u => ?_⟩
  rw [h2 q u]
  show _ ↔ _ ∧ (if s.p = q then some s.v else firstO R q) = some u
  by_cases e : s.p = q
  ·rw [if_pos e]
   constructor
   ·rintro (⟨e1, e2⟩ | ⟨e1, _⟩)
    ·exact ⟨by rw [e1]; exact hg, by rw [e2]⟩
    ·exact absurd e.symm e1
   ·rintro ⟨_, e2⟩
    injection e2 with e2
    exact .inl ⟨e.symm, e2.symm⟩
  ·rw [if_neg e, ← h.mem q u]
   constructor
   ·rintro (⟨e1, _⟩ | ⟨_, e2⟩)
    ·exact absurd e1.symm e
    ·exact e2
   ·intro e2
    exact .inr ⟨fun e3 => e e3.symm, e2⟩
 ·rw [put_bad hp hg]
  refine ⟨h.lok, fun q u => ?_⟩
  rw [h.mem q u]
  show _ ↔ _ ∧ (if s.p = q then some s.v else firstO R q) = some u
  by_cases e : s.p = q
  ·constructor
   ·rintro ⟨e1, _⟩
    exact absurd (e ▸ e1) hg
   ·rintro ⟨e1, _⟩
    exact absurd (e ▸ e1) hg
  ·rw [if_neg e]
theorem Hold.front {six : Bool} {room : Int} {L : List Itm} {R : List St9} (h : Hold six L R) (hr : (L.length : Int) ≠ room) (s : St9) (hp : s.p.addr.length = 16) : Hold six (if hasC L s.p then L else (putR true six room L s.p s.v).1) (R ++ [s]) := by
 by_cases hg : s.p.good ∧ s.p.six = six
 ·rcases hasP_iff h.lok hg.1 hg.2 with ⟨e1, e2, _⟩ | ⟨e1, e2, _⟩
  ·rw [hasC_same h.lok hp hg.2, e1, if_pos rfl]
   refine ⟨h.lok, fun q u => ?_⟩
   rw [h.mem q u, firstO_snoc]
   by_cases e : s.p = q
   ·have h9 := ((h.mem _ _).1 e2).2
    rw [e] at h9
    rw [h9]
   ·cases hf : firstO R q
    ·simp only [if_neg e]
    ·rfl
  ·rw [hasC_same h.lok hp hg.2, e1, if_neg (by simp), put_good h.lok hr hg]
   obtain ⟨h1, h2⟩ := putP_ok h.lok hg.1 hg.2 s.v
   refine ⟨h1, fun q u => ?_⟩
   rw [h2 q u, firstO_snoc]
   by_cases e : s.p = q
   ·have h9 : firstO R q = none := by
     cases hf : firstO R q
     ·rfl
     ·exact absurd ((h.mem _ _).2 ⟨hg, e ▸ hf⟩) (e2 _)
    rw [h9]
    simp only [if_pos e]
    constructor
    ·rintro (⟨e1, e2⟩ | ⟨e1, _⟩)
     ·exact ⟨by rw [e1]; exact hg, by rw [e2]⟩
     ·exact absurd e.symm e1
    ·rintro ⟨_, e2⟩
     injection e2 with e2
     exact .inl ⟨e.symm, e2.symm⟩
   ·have h9 : (match firstO R q with | some u => some u | none => if s.p = q then some s.v else none) = firstO R q := by
     cases hf : firstO R q
     ·simp only [if_neg e]
     ·rfl
    rw [h9, ← h.mem q u]
    constructor
    ·rintro (⟨e1, _⟩ | ⟨_, e2⟩)
     ·exact absurd e1.symm e
     ·exact e2
    ·intro e2
     exact .inr ⟨fun e3 => e e3.symm, e2⟩
 ·rw [hasC_bad h.lok hg, if_neg (by simp), put_bad hp hg]
  refine ⟨h.lok, fun q u => ?_⟩
  rw [h.mem q u, firstO_snoc]
  by_cases e : s.p = q
  ·constructor
   ·rintro ⟨e1, _⟩
    exact absurd (e ▸ e1) hg
   ·rintro ⟨e1, _⟩
    exact absurd (e ▸ e1) hg
  ·cases hf : firstO R q
   ·simp only [if_neg e]
   ·rfl
/-- neighbours of a row stand in order -/
theorem Lok.next {s : Bool} {L : List Itm} (h : Lok s L) {k : Nat} {x y : Itm} (hx : L[k]? = some x) (hy : L[k + 1]? = some y) : cmpP x.1 y.1 < 0 := by
 have hxm := List.mem_of_getElem? hx
 have hym := List.mem_of_getElem? hy
 have h1 := cmpP_lt (p := x.1) (q := y.1) (by rw [h.six x hxm, h.six y hym]) (h.good x hxm).addr (h.good y hym).addr
 obtain ⟨lx, ex⟩ := List.getElem?_eq_some_iff.1 hx
 obtain ⟨ly, ey⟩ := List.getElem?_eq_some_iff.1 hy
 have h2 := List.pairwise_iff_getElem.1 h.sorted k (k + 1) (by simpa using lx) (by simpa using ly) (by omega)
 simp only [List.getElem_map, ex, ey] at h2
 rw [ltP_bits (h.good x hxm) (h.good y hym)] at h1
 exact of_decide_eq_true (h1.trans h2)
/-- a prefix that is put and deleted again leaves the row -/
theorem del_put {s : Bool} {L : List Itm} (h : Lok s L) {p : Px} (hp : p.good) (hs : p.six = s) (hh : hasP L p = false) (v : Int) : Lok s (putP L p v) ∧ hasP (putP L p v) p = true ∧ (valP (putP L p v) p).1 = v ∧ delP (putP L p v) p = L := by
 obtain ⟨h1, h2⟩ := putP_ok h hp hs v
 have hin : (p, v) ∈ putP L p v := (h2 p v).2 (.inl ⟨rfl, rfl⟩)
 have h3 : hasP (putP L p v) p = true ∧ (valP (putP L p v) p).1 = v := by
  rcases hasP_iff h1 hp hs with ⟨e1, e2, _⟩ | ⟨_, e2, _⟩
  ·refine ⟨e1, ?_⟩
   rcases (h2 _ _).1 e2 with ⟨_, e3⟩ | ⟨e3, _⟩
   ·exact e3
   ·exact absurd rfl e3
  ·exact absurd hin (e2 v)
 obtain ⟨h4, h5⟩ := delP_ok h1 hp hs h3.1
 refine ⟨h1, h3.1, h3.2, lok_same h4 h fun x => ?_⟩
 have hno : ∀ u, (p, u) ∉ L := by
  rcases hasP_iff h hp hs with ⟨e1, _⟩ | ⟨_, e2, _⟩
  ·rw [hh] at e1; cases e1
  ·exact e2
 rw [show x = (x.1, x.2) from rfl, h5, h2]
 constructor
 ·rintro ⟨e1, ⟨e2, _⟩ | ⟨_, e2⟩⟩
  ·exact absurd e2 e1
  ·exact e2
 ·intro e
  have e1 : x.1 ≠ p := fun e2 => hno x.2 (e2 ▸ e)
  exact ⟨e1, .inr ⟨e1, e⟩⟩
end Go.Proofs.Ytbemhcihmlijaaa

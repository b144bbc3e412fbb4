/- Texts of this claim put together, in build order: each one's own remark stands ahead of it. -/
import Derived.Test.YtdmgomknamdcfaaG26
import Derived.Deep.DeepCutAuto
import Derived.Test.YtdmgomknamdcfaaG22
import Derived.Test.YtdmgomknamdcfaaG02
/- What the reference's Do (layer 9) computes. No condition but sizes. -/
namespace Go.Proofs.Ytdmgomknamdcfaa
open Go.RowKit
set_option linter.unusedVariables false
set_option maxRecDepth 20000
set_option linter.unusedSimpArgs false
end Go.Proofs.Ytdmgomknamdcfaa

/- The table of layer 9 and its reference side by side: what each method answers, by the reference's row. No condition but sizes. -/
namespace Go.Proofs.Ytdmgomknamdcfaa
open Go.RowKit
set_option linter.unusedVariables false
set_option linter.unusedSimpArgs false
set_option maxRecDepth 20000

/-! the reference's answers are the tree's -/
theorem okR_T (six : Bool) (p : Px) : okR true six p = okT six p := by
 unfold okR okT
 rw [Bool.true_and, show (p.six == six) = decide (p.six = six) from by cases p.six <;> cases six <;> rfl]
theorem putR_ans {six : Bool} {room : Int} {L : List Itm} (h : Lok six L) {p : Px} (hf : p.addr.length = 16) (v : Int) : putR true six room L p v = ansP six room L p v := by
 unfold putR ansP
 rw [okR_T]
 by_cases ho : okT six p = true
 ·rw [if_pos ho, if_pos ho]
  obtain ⟨g, h6⟩ := (okT_iff hf).1 ho
  rw [hasC_same h hf h6, putC_same h hf h6]
 rw [if_neg ho, if_neg ho]
theorem delR_ans {six : Bool} {L : List Itm} (h : Lok six L) {p : Px} (hf : p.addr.length = 16) : delR true six L p = ansD six L p := by
 unfold delR ansD
 rw [okR_T]
 by_cases ho : okT six p = true
 ·rw [if_pos ho, if_pos ho]
  obtain ⟨g, h6⟩ := (okT_iff hf).1 ho
  rw [hasC_same h hf h6, delC_same h hf h6]
 rw [if_neg ho, if_neg ho]
theorem getC_ans {six : Bool} {L : List Itm} (h : Lok six L) {p : Px} (hf : p.addr.length = 16) : (getC L p, hasC L p) = ansG six L p := by
 unfold ansG
 by_cases ho : okT six p = true
 ·rw [if_pos ho]
  obtain ⟨g, h6⟩ := (okT_iff hf).1 ho
  rw [getC_same h hf h6]
 rw [if_neg ho]
 have hb := hasC_bad h (p := p) (fun e => ho ((okT_iff hf).2 e))
 rw [hb, hasC_none hb]
theorem all_ids (t : Tr) : t.all.length ≤ t.ids.length := by
 induction t with
 | nil => exact Nat.le_refl _
 | node n p is v l r ihl ihr =>
  unfold Tr.all Tr.ids
  cases is <;> simp <;> omega

/-! tables by their rows -/
/-- the blocks S, and those that came between two worlds -/
def ext (S : Nat → Prop) (w w' : World) (b : Nat) : Prop := S b ∨ (w.heap.size ≤ b ∧ b < w'.heap.size)
def ptV : Option Nat → Value
 | none => .pointer none
 | some g => .pointer (some ⟨g, 0, none⟩)
/-- a table (or none), the blocks that it may have, and its row -/
def TabO (w : World) (S : Nat → Prop) (o : Option Nat) (is six : Bool) (room : Int) (L : List Itm) (K : Nat) : Prop :=
 match o with
 | none => is = false ∧ L = []
 | some g => is = true ∧ ∃ t A c Af cf, Tab w g t A c Af cf ∧ TbOk t L ∧ t.six = six ∧ t.room = room ∧ t.N.length ≤ K ∧ ∀ b, own3 g A c Af cf b → S b
section
variable {w w' : World} {S : Nat → Prop} {o : Option Nat} {is six : Bool} {room : Int} {L : List Itm} {K : Nat}
theorem TabO.on (h : TabO w S o is six room L K) (hb : Below w.heap.size w w') : TabO w' S o is six room L K := by
 cases o with
 | none => exact h
 | some g =>
  obtain ⟨h1, t, A, c, Af, cf, h2, h3⟩ := h
  exact ⟨h1, t, A, c, Af, cf, h2.on hb, h3⟩
theorem TabO.kept {T : Nat → Prop} (h : TabO w S o is six room L K) (hk : Kept T w w') (hd : ∀ b, S b → ¬ T b) : TabO w' S o is six room L K := by
 cases o with
 | none => exact h
 | some g =>
  obtain ⟨h1, t, A, c, Af, cf, h2, h3, h4, h5, h6, h7⟩ := h
  exact ⟨h1, t, A, c, Af, cf, h2.kept hk (fun b hb => hd b (h7 b hb)), h3, h4, h5, h6, h7⟩
theorem TabO.mono {S' : Nat → Prop} {K' : Nat} (h : TabO w S o is six room L K) (hs : ∀ b, b < w.heap.size → S b → S' b) (hK : K ≤ K') : TabO w S' o is six room L K' := by
 cases o with
 | none => exact h
 | some g =>
  obtain ⟨h1, t, A, c, Af, cf, h2, h3, h4, h5, h6, h7⟩ := h
  exact ⟨h1, t, A, c, Af, cf, h2, h3, h4, h5, Nat.le_trans h6 hK, fun b hb => hs b (h2.lt b hb) (h7 b hb)⟩
theorem TabO.lok (h : TabO w S o is six room L K) : Lok six L := by
 cases o with
 | none => rw [h.2]; exact Lok.nil _
 | some g =>
  obtain ⟨h1, t, A, c, Af, cf, h2, h3, h4, _⟩ := h
  rw [← h4]; exact h3.lok
theorem TabO.fit (h : TabO w S o is six room L K) : ∀ x ∈ L, x.1.fit := fun x hx => (h.lok.good x hx).fit
theorem TabO.len (h : TabO w S o is six room L K) : L.length ≤ K := by
 cases o with
 | none => rw [h.2]; exact Nat.zero_le _
 | some g =>
  obtain ⟨h1, t, A, c, Af, cf, h2, h3, h4, _, h6, _⟩ := h
  obtain ⟨tr, _, hp, hr⟩ := h3.tree
  have e1 := hr.len
  have e2 := all_ids tr
  have e3 := hp.flen
  omega
theorem tput_O (h : TabO w S o is six room L K) (hK : K ≤ 999990) (p : Px) (hf : p.fit) (v : Int) :
  Calls Try.prog 31 #[ptV o, .agg p.cells.toArray, .int .i64 v] w fun e w' => e = .returned (.int .i64 (putR is six room L p v).2) ∧ TabO w' (ext S w w') o is six room (putR is six room L p v).1 (K + 2) ∧ Kept S w w' := by
 have hl := h.len
 have hlk := h.lok
 cases o with
 | none =>
  obtain ⟨rfl, rfl⟩ := h
  refine (tput_nil p hf v w).mono ?_
  rintro e w' ⟨rfl, hb⟩
  exact ⟨rfl, ⟨rfl, rfl⟩, Kept.of_below hb⟩
 | some g =>
  obtain ⟨rfl, t, A, c, Af, cf, h2, h3, rfl, rfl, h6, h7⟩ := h
  obtain ⟨F, t', e, hok, e6, er, eN⟩ := h3.put p hf.addr v (by omega)
  rw [putR_ans hlk hf.addr]
  have hc := h3.count
  refine (tput_any w g t A Af c cf h2 ⟨by omega, by omega⟩ p hf v F _ t' e).mono ?_
  rintro e w' ⟨A', c', Af', cf', rfl, h9, h10, h11⟩
  refine ⟨rfl, ⟨rfl, t', A', c', Af', cf', h9, hok, e6, er, by omega, fun b hb => ?_⟩, ⟨h10.os, h10.tape, h10.output, h10.size, fun k hk hs => h10.block k hk (fun hm => hs (h7 k hm))⟩⟩
  rcases h11 b hb with h12 | h12
  ·exact .inl (h7 b h12)
  exact .inr ⟨h12, h9.lt b hb⟩
theorem tdel_O (h : TabO w S o is six room L K) (hK : K ≤ 999990) (p : Px) (hf : p.fit) :
  Calls Try.prog 47 #[ptV o, .agg p.cells.toArray] w fun e w' => e = .returned (.int .i64 (delR is six L p).2) ∧ TabO w' (ext S w w') o is six room (delR is six L p).1 K ∧ Kept S w w' := by
 have hl := h.len
 have hlk := h.lok
 cases o with
 | none =>
  obtain ⟨rfl, rfl⟩ := h
  refine (tdelete_nil p hf w).mono ?_
  rintro e w' ⟨rfl, hb⟩
  exact ⟨rfl, ⟨rfl, rfl⟩, Kept.of_below hb⟩
 | some g =>
  obtain ⟨rfl, t, A, c, Af, cf, h2, h3, rfl, rfl, h6, h7⟩ := h
  obtain ⟨F, t', e, hok, e6, er, eN⟩ := h3.del p hf.addr (by omega)
  rw [delR_ans hlk hf.addr]
  have hc := h3.count
  refine (tdelete_any w g t A Af c cf h2 ⟨by omega, by omega⟩ p hf F _ t' e).mono ?_
  rintro e w' ⟨A', c', Af', cf', rfl, h9, h10, h11⟩
  refine ⟨rfl, ⟨rfl, t', A', c', Af', cf', h9, hok, e6, er, by omega, fun b hb => ?_⟩, ⟨h10.os, h10.tape, h10.output, h10.size, fun k hk hs => h10.block k hk (fun hm => hs (h7 k hm))⟩⟩
  rcases h11 b hb with h12 | h12
  ·exact .inl (h7 b h12)
  exact .inr ⟨h12, h9.lt b hb⟩
theorem tget_O (h : TabO w S o is six room L K) (p : Px) (hf : p.fit) :
  Calls Try.prog 35 #[ptV o, .agg p.cells.toArray] w fun e w' => e = .returned (.tuple #[.int .i64 (getC L p), .bool (hasC L p)]) ∧ Below w.heap.size w w' := by
 have hlk := h.lok
 cases o with
 | none =>
  obtain ⟨rfl, rfl⟩ := h
  exact tget_nil p hf w
 | some g =>
  obtain ⟨rfl, t, A, c, Af, cf, h2, h3, rfl, rfl, h6, h7⟩ := h
  obtain ⟨F, e⟩ := h3.get' p hf.addr
  have ha := getC_ans hlk hf.addr
  exact tget_any w g t A Af c cf h2 p hf F (getC L p) (hasC L p) (by rw [e, ← ha])
theorem tlook_O (h : TabO w S o is six room L K) (ad : List UInt8) (ha : ad.length = 16) :
  Calls Try.prog 34 #[ptV o, .agg (bv ad).toArray] w fun e w' => e = .returned (.tuple #[.agg (itC (ansL' L ad).1).toArray, .bool (ansL' L ad).2]) ∧ Below w.heap.size w w' := by
 cases o with
 | none =>
  obtain ⟨rfl, rfl⟩ := h
  exact tlook_nil ad ha w
 | some g =>
  obtain ⟨rfl, t, A, c, Af, cf, h2, h3, rfl, rfl, h6, h7⟩ := h
  obtain ⟨F, e⟩ := h3.look ad ha
  exact tlook_any w g t A Af c cf h2 ad ha F _ _ e
theorem tall_O (h : TabO w S o is six room L K) (hK : K ≤ 999990) :
  Calls Try.prog 38 #[ptV o] w fun e w' => ∃ A' c', e = .returned (.slice A' L.length c') ∧ Own w' w.heap.size 35 19 A' L.length c' (its L) ∧ Below w.heap.size w w' := by
 have hl := h.len
 cases o with
 | none =>
  obtain ⟨rfl, rfl⟩ := h
  refine (tall_nil w).mono ?_
  rintro e w' ⟨rfl, rfl⟩
  exact ⟨none, 0, rfl, Own.nil _ _ _ _ _, Below.refl _ _⟩
 | some g =>
  obtain ⟨rfl, t, A, c, Af, cf, h2, h3, rfl, rfl, h6, h7⟩ := h
  obtain ⟨F, e⟩ := h3.all
  exact tall_any w g t A Af c cf h2 F L e (by omega)
end
theorem tnew_O (six : Bool) (room : Int) (w : World) :
  Calls Try.prog 29 #[.bool six, .int .i64 room] w fun e w' => ∃ o, e = .returned (ptV o) ∧ (o = none ↔ (room < 1 ∨ 65536 < room)) ∧ TabO w' (ext (fun _ => False) w w') o (!o.isNone) six room [] 1 ∧ Below w.heap.size w w' := by
 by_cases h : room < 1 ∨ 65536 < room
 ·refine (tnew_nil six room h w).mono ?_
  rintro e w' ⟨rfl, hb⟩
  exact ⟨none, rfl, ⟨fun _ => h, fun _ => rfl⟩, ⟨rfl, rfl⟩, hb⟩
 refine (tnew_any six room (fun e => h (.inl e)) (fun e => h (.inr e)) w).mono ?_
 rintro e w' ⟨g, A, c, rfl, hT, hb, ho⟩
 exact ⟨some g, rfl, ⟨(fun e => by cases e), fun e => absurd e h⟩, ⟨rfl, _, A, c, none, 0, hT, TbOk.new six room, rfl, rfl, Nat.le_refl _, fun b hb' => .inr ⟨ho b hb', hT.lt b hb'⟩⟩, hb⟩
end Go.Proofs.Ytdmgomknamdcfaa

/- Rows of items by an index function; the index laws of swapping, turning round and turning end to end; a row in memory under a swap (layer 10). No condition. -/
namespace Go.Proofs.Ytdmgomknamdcfaa
open Go.RowKit
set_option linter.unusedVariables false
set_option maxRecDepth 20000
set_option linter.unusedSimpArgs false

def rowD (n : Nat) (d : Nat → Itm) : List Itm := (List.range n).map d
theorem rowD_length (n : Nat) (d : Nat → Itm) : (rowD n d).length = n := by simp [rowD]
theorem rowD_get {n k : Nat} (d : Nat → Itm) (h : k < n) : (rowD n d)[k]? = some (d k) := by simp [rowD, h]
theorem rowD_congr {n : Nat} {d e : Nat → Itm} (h : ∀ k, k < n → d k = e k) : rowD n d = rowD n e := List.map_congr_left fun k hk => h k (List.mem_range.1 hk)
theorem rowD_of (L : List Itm) : ∃ d, rowD L.length d = L := by
 refine ⟨fun k => L.getD k (Px.zero, 0), ?_⟩
 apply List.ext_getElem?
 intro k
 by_cases h : k < L.length
 ·rw [rowD_get _ h, List.getD_eq_getElem?_getD, List.getElem?_eq_getElem h]; rfl
 rw [List.getElem?_eq_none (by rw [rowD_length]; omega), List.getElem?_eq_none (by omega)]
def upd (d : Nat → Itm) (i : Nat) (y : Itm) : Nat → Itm := fun k => if k = i then y else d k
theorem rowD_set {n i : Nat} (d : Nat → Itm) (h : i < n) (y : Itm) : (rowD n d).take i ++ y :: (rowD n d).drop (i + 1) = rowD n (upd d i y) := by
 have e := List.set_eq_take_append_cons_drop (l := rowD n d) (i := i) (a := y)
 rw [if_pos (by rw [rowD_length]; exact h)] at e
 rw [← e]
 apply List.ext_getElem?
 intro k
 by_cases hk : k < n
 ·rw [rowD_get _ hk, List.getElem?_set, rowD_length]
  unfold upd
  by_cases hi : i = k
  ·rw [if_pos hi, if_pos hi.symm, if_pos h]
  rw [if_neg hi, if_neg (fun e => hi e.symm), rowD_get _ hk]
 rw [List.getElem?_eq_none (by rw [List.length_set, rowD_length]; omega), List.getElem?_eq_none (by rw [rowD_length]; omega)]
theorem its_set (L : List Itm) (hf : ∀ x ∈ L, x.1.fit) (i : Nat) (h : i < L.length) (y : Itm) (hy : y.1.addr.length = 16) : (its L).take (i * 19) ++ itC y ++ (its L).drop (i * 19 + (itC y).length) = its (L.take i ++ y :: L.drop (i + 1)) := by
 rw [its_take L hf i (by omega), show i * 19 + (itC y).length = (i + 1) * 19 by rw [itC_length y hy]; omega, its_drop L hf (i + 1) (by omega), its_append, List.append_assoc]
 rfl
/-- a row of items in memory -/
structure Rd (w : World) (base : Nat) (A : Option Addr) (n c : Nat) (d : Nat → Itm) : Prop where
 own : Own w base 35 19 A n c (its (rowD n d))
 fit : ∀ k, k < n → (d k).1.fit
/-- its block -/
def blkS (A : Option Addr) (c b : Nat) : Prop := blk A c = some b
section
variable {w w' : World} {base : Nat} {A : Option Addr} {n c : Nat} {d : Nat → Itm}
theorem Rd.fits (h : Rd w base A n c d) : ∀ x ∈ rowD n d, x.1.fit := fun x hx => by
 obtain ⟨k, hk, rfl⟩ := List.mem_map.1 hx
 exact h.fit k (List.mem_range.1 hk)
theorem Rd.on (h : Rd w base A n c d) (hb : Below w.heap.size w w') : Rd w' base A n c d := ⟨h.own.below hb, h.fit⟩
theorem Rd.congr (h : Rd w base A n c d) {e : Nat → Itm} (he : ∀ k, k < n → d k = e k) : Rd w base A n c e := ⟨by rw [← rowD_congr he]; exact h.own, fun k hk => by rw [← he k hk]; exact h.fit k hk⟩
theorem Rd.at_ (h : Rd w base A n c d) {k : Nat} (hk : k < n) : ∃ g, A = some ⟨g, 0, none⟩ ∧ blkS A c g ∧ base ≤ g ∧ g < w.heap.size := by
 obtain ⟨g, hA, hg, hlt, _, _⟩ := h.own.open_ (by omega)
 refine ⟨g, hA, ?_, hg, hlt⟩
 unfold blkS blk
 rw [hA, if_neg (by have := h.own.le; omega)]
 rfl
theorem Rd.cells {g : Nat} (h : Rd w base (some ⟨g, 0, none⟩) n c d) {k : Nat} (hk : k < n) : w.rangeAt g (k * 19) (itC (d k)) := by
 obtain ⟨b, o, he, hb, hc⟩ := its_at2 h.own.row h.fits k (d k) (rowD_get d hk)
 injection he with he
 injection he with h1 h2
 subst h1
 subst h2
 rw [Nat.zero_add] at hc
 exact hc
theorem Rd.lt {g : Nat} (h : Rd w base (some ⟨g, 0, none⟩) n c d) {k : Nat} (hk : k < n) : g < w.heap.size := by
 obtain ⟨g', hA, _, _, hl⟩ := h.at_ hk
 injection hA with hA
 injection hA with hA
 rw [hA]
 exact hl
theorem Rd.blkS {g : Nat} (h : Rd w base (some ⟨g, 0, none⟩) n c d) {k : Nat} (hk : k < n) : blkS (some ⟨g, 0, none⟩) c g := by
 obtain ⟨g', hA, hB, _, hl⟩ := h.at_ hk
 injection hA with hA
 injection hA with hA
 rw [← hA] at hB
 exact hB
/-- the row with an item laid into it -/
theorem Rd.put {g : Nat} (h : Rd w base (some ⟨g, 0, none⟩) n c d) {i : Nat} (hi : i < n) (y : Itm) (hy : y.1.fit) (ho : Own w' base 35 19 (some ⟨g, 0, none⟩) n c ((its (rowD n d)).take (i * 19) ++ itC y ++ (its (rowD n d)).drop (i * 19 + (itC y).length))) : Rd w' base (some ⟨g, 0, none⟩) n c (upd d i y) := by
 refine ⟨?_, fun k hk => ?_⟩
 ·rw [its_set _ h.fits i (by rw [rowD_length]; exact hi) y hy.addr, rowD_set d hi y] at ho
  exact ho
 unfold upd
 split
 ·exact hy
 exact h.fit k hk
end
/-- which of two items the sort lays ahead -/
def cmpL (x y : Itm) : Int := if y.1.len < x.1.len then -1 else if x.1.len < y.1.len then 1 else 0
theorem cmpL_lt {x y : Itm} (h : y.1.len < x.1.len) : cmpL x y < 0 := by unfold cmpL; rw [if_pos h]; decide
/-! index laws -/
def sw (d : Nat → Itm) (i j : Nat) : Nat → Itm := upd (upd d i (d j)) j (d i)
/-- two stretches change places -/
def swpI (a b m k : Nat) : Nat := if a ≤ k ∧ k < a + m then k - a + b else if b ≤ k ∧ k < b + m then k - b + a else k
def swI (i j k : Nat) : Nat := if k = j then i else if k = i then j else k
theorem sw_eq (d : Nat → Itm) (i j : Nat) : sw d i j = fun k => d (swI i j k) := by
 funext k
 unfold sw upd swI
 by_cases h1 : k = j
 ·rw [if_pos h1, if_pos h1]
 rw [if_neg h1, if_neg h1]
 by_cases h2 : k = i
 ·rw [if_pos h2, if_pos h2]
 rw [if_neg h2, if_neg h2]
theorem swp_step (a b i m k : Nat) (h : a + m ≤ b) (hi : i < m) : swpI a b i (swI (a + i) (b + i) k) = swpI a b (i + 1) k := by
 unfold swI swpI
 repeat' split
 all_goals omega
/-- u v becomes v u: [a, m) and [m, b) -/
def rotI (a m b k : Nat) : Nat := if a ≤ k ∧ k < a + (b - m) then k + (m - a) else if a + (b - m) ≤ k ∧ k < b then k - (b - m) else k
theorem rot_even (m i k : Nat) (h : i ≤ m) : rotI (m - i) m (m + i) k = swpI (m - i) m i k := by
 unfold rotI swpI
 repeat' split
 all_goals omega
theorem rot_gt (m i j k : Nat) (h : j < i) (hj : 0 < j) (hm : i ≤ m) : swpI (m - i) m j (rotI (m - (i - j)) m (m + j) k) = rotI (m - i) m (m + j) k := by
 unfold rotI swpI
 repeat' split
 all_goals omega
theorem rot_lt (m i j k : Nat) (h : i < j) (hi : 0 < i) (hm : i ≤ m) : swpI (m - i) (m + j - i) i (rotI (m - i) m (m + (j - i)) k) = rotI (m - i) m (m + j) k := by
 unfold rotI swpI
 repeat' split
 all_goals omega
/-- end to end: [a, b) -/
def revI (a b k : Nat) : Nat := if a ≤ k ∧ k < b then a + b - 1 - k else k
end Go.Proofs.Ytdmgomknamdcfaa

/- What the sort's order answers; calls of it by value (layer 10). No condition but sizes. -/
namespace Go.Proofs.Ytdmgomknamdcfaa
open Go.RowKit
set_option linter.unusedVariables false
set_option maxRecDepth 20000
set_option linter.unusedSimpArgs false

theorem isnan_any (x : Int) (w : World) : Calls Try.prog 65 #[.int .i64 x] w fun e w' => e = .returned (.bool false) ∧ w = w' := by
 go_enter Try.func65, Try.ntmps65
 go_wp2_with fail
 go_ret
 exact ⟨rfl, rfl⟩
set_option maxHeartbeats 1000000 in
theorem compare_any (x y : Int) (w : World) : Calls Try.prog 43 #[.int .i64 x, .int .i64 y] w fun e w' => e = .returned (.int .i64 (if x < y then -1 else if y < x then 1 else 0)) ∧ w = w' := by
 go_enter Try.func43, Try.ntmps43
 go_wp2_with fail
 refine (isnan_any x w).mono ?_
 rintro e w1 ⟨rfl, rfl⟩
 go_wp2_with fail
 refine (isnan_any y w).mono ?_
 rintro e w1 ⟨rfl, rfl⟩
 by_cases h1 : x < y
 ·go_wp2_with fail
  go_ret
  exact ⟨rfl, rfl⟩
 ·by_cases h2 : y < x
  ·go_wp2_with fail
   go_ret
   exact ⟨rfl, rfl⟩
  ·go_wp2_with fail
   go_ret
   exact ⟨rfl, rfl⟩
def cmpV : Value := .func (.func 42) #[] #[]
set_option maxHeartbeats 1000000 in
theorem less_any (x y : Itm) (hx : x.1.fit) (hy : y.1.fit) (w : World) : Calls Try.prog 42 #[.agg (itC x).toArray, .agg (itC y).toArray] w fun e w' => e = .returned (.int .i64 (cmpL x y)) ∧ Below w.heap.size w w' := by
 have HX := Lib.hid hx
 have HY := Lib.hid hy
 clear hx hy
 go_enter Try.func42, Try.ntmps42
 go_upto_region 1 with (first
  | (refine wpList_box_blk (by rfl) 35 (.tmp 0) rfl (itC x) rfl ?_; intro w1 hb1 hB1 hs1; clear hs1)
  | (refine wpList_box_blk (by rfl) 35 (.tmp 1) rfl (itC y) rfl ?_; intro w2 hb2 hB2 hs2; clear hs2))
 obtain ⟨g2, hg2⟩ : ∃ g, w.heap.size = g := ⟨_, rfl⟩
 obtain ⟨g3, hg3⟩ : ∃ g, w1.heap.size = g := ⟨_, rfl⟩
 have hk2 := hb1.on hB2
 have HW := Lib.hid (bthen hB1 hB2)
 rw [hg2] at hk2
 rw [hg3] at hb2
 try rw [hg2]
 try rw [hg3]
 have c2 : w2.cell? ⟨g2, 17, none⟩ = some (.int .i64 x.1.len) := (hk2.cell 17).trans (it_len HX.out.addr)
 have c3 : w2.cell? ⟨g3, 17, none⟩ = some (.int .i64 y.1.len) := (hb2.cell 17).trans (it_len HY.out.addr)
 clear hb1 hB1 hb2 hB2 hk2 hg2 hg3
 go_wp2_with fail
 refine (compare_any y.1.len x.1.len w2).mono ?_
 rintro e w3 ⟨rfl, rfl⟩
 rw [show (if y.1.len < x.1.len then (-1 : Int) else if x.1.len < y.1.len then 1 else 0) = cmpL x y from rfl]
 clear c2 c3
 go_wp2_with fail
 go_ret
 exact ⟨rfl, HW.out⟩
theorem exec_callv2 {w : World} {oo : Oper} {ca : Act} (x y z : Operand) (tys : Array TypeId) (m : Nat) (rs : Array Value) (v u : Value) (ho : oo.op = .call { callee := .value x, args := #[y, z], argTypes := tys }) (hx : ca.eval x = .func (.func m) #[] rs) (hy : ca.eval y = v) (hz : ca.eval z = u)
  (hf : (callFunc m (#[v, u] ++ rs)).run Try.prog w = .ok (.enter m (#[v, u] ++ rs)) w) : (execOp ca.eval oo).run Try.prog w = .ok (.enter m (#[v, u] ++ rs)) w := by
 have hm : #[y, z].map ca.eval = #[v, u] := by simp [hy, hz]
 unfold execOp
 simp only [ho]
 simp only [resolve, hx, hm]
 exact hf
end Go.Proofs.Ytdmgomknamdcfaa

/- What fib.only, slices.IndexFunc, slices.DeleteFunc of items compute (layer 10). No condition but sizes. -/
namespace Go.Proofs.Ytdmgomknamdcfaa
open Go.RowKit
set_option linter.unusedVariables false
set_option maxRecDepth 20000
set_option linter.unusedSimpArgs false

/-- a function value that answers of an item, in whatever world that differs from w0 in the blocks T alone -/
def PredI (T : Nat → Prop) (w0 : World) (v : Value) (pr : Itm → Bool) : Prop := ∃ m rs, v = .func (.func m) #[] rs ∧ (∀ x W, (callFunc m (#[.agg (itC x).toArray] ++ rs)).run Try.prog W = .ok (.enter m (#[.agg (itC x).toArray] ++ rs)) W) ∧
 ∀ x W, x.1.fit → Kept T w0 W → Calls Try.prog m (#[.agg (itC x).toArray] ++ rs) W fun e w' => e = .returned (.bool (pr x)) ∧ Below W.heap.size W w'
theorem cell_kept {T : Nat → Prop} {w W : World} {b o : Nat} {v : Value} (h : Kept T w W) (hb : b < w.heap.size) (hT : ¬ T b) (hc : w.cell? ⟨b, o, none⟩ = some v) : W.cell? ⟨b, o, none⟩ = some v := by
 rw [← hc]
 unfold World.cell?
 rw [h.block b hb hT]
set_option maxHeartbeats 1000000 in
theorem not1_any {T : Nat → Prop} {w0 : World} {fv : Value} {pr : Itm → Bool} (hP : PredI T w0 fv pr) (gb : Nat) (hb : gb < w0.heap.size) (hT : ¬ T gb) (hc : w0.cell? ⟨gb, 0, none⟩ = some fv) (x : Itm) (W : World) (hx : x.1.fit) (hK : Kept T w0 W) :
  Calls Try.prog 62 #[.agg (itC x).toArray, .pointer (some ⟨gb, 0, none⟩)] W fun e w' => e = .returned (.bool (!(pr x))) ∧ Below W.heap.size W w' := by
 obtain ⟨m, rs, rfl, hf, hP⟩ := hP
 have HF := Hh hf
 have HP := Hh hP
 have HX := Hh hx
 have HK := Hh hK
 have HC := Hh hc
 have HB := Hh hb
 have HT := Hh hT
 clear hf hP hx hK hc hb hT
 go_enter Try.func62, Try.ntmps62
 go_upto_region 1 with (refine wpList_box_blk (by rfl) 35 (.tmp 0) rfl (itC x) rfl ?_; intro w1 hb1 hB1 hs1; clear hs1)
 obtain ⟨g2, hg2⟩ : ∃ g, W.heap.size = g := ⟨_, rfl⟩
 rw [hg2] at hb1
 try rw [hg2]
 have HK1 := Hh (HK.out.then_below hB1)
 have H2 := Hh hb1
 have HW := Hh hB1
 clear hb1 hB1 hg2
 have c0 : w1.cell? ⟨gb, 0, none⟩ = some (.func (.func m) #[] rs) := cell_kept HK1.out HB.out HT.out HC.out
 have HCL := Hh (HP.out x w1 HX.out HK1.out)
 go_wp2_with (refine wpList_value (by rfl) (exec_load 35 _ rfl g2 (by rfl) 35 (itC x) _ H2.out Try.underlying35 rfl (sizeIt _ HX.out.addr)) ?_)
 rw [HF.out x w1]
 go_wp2_with fail
 refine HCL.out.mono ?_
 rintro e w3 ⟨rfl, hb⟩
 have HW3 := Hh (bthen HW.out hb)
 clear hb c0
 go_wp2_with fail
 go_ret
 exact ⟨rfl, HW3.out⟩
/-- what the first item is of which something is so -/
def AtI (pr : Itm → Bool) (n : Nat) (d : Nat → Itm) (r : Int) : Prop := (∃ i : Nat, r = (i : Int) ∧ i < n ∧ pr (d i) = true ∧ ∀ j, j < i → pr (d j) = false) ∨ (r = -1 ∧ ∀ j, j < n → pr (d j) = false)
set_option maxHeartbeats 1000000 in
theorem index_any (base : Nat) (A : Option Addr) (n c : Nat) (d : Nat → Itm) (hn : n ≤ 1000000) (w : World) (hR : Rd w base A n c d) (gb : Nat) (pr : Itm → Bool)
  (hT : ∀ x W, x.1.fit → Kept (blkS A c) w W → Calls Try.prog 62 #[.agg (itC x).toArray, .pointer (some ⟨gb, 0, none⟩)] W fun e w' => e = .returned (.bool (pr x)) ∧ Below W.heap.size W w') :
  Calls Try.prog 74 #[.slice A n c, .func (.func 62) #[] #[.pointer (some ⟨gb, 0, none⟩)]] w fun e w' => ∃ r, e = .returned (.int .i64 r) ∧ AtI pr n d r ∧ Below w.heap.size w w' := by
 have HR := Hh hR
 have HT := Hh hT
 clear hR hT
 go_enter Try.func74, Try.ntmps74
 go_wp2_with fail
 go_loopw [5, 8] (fun _ s8 wr => ∃ (i : Nat), i ≤ n ∧ s8 = .int .i64 (i : Nat) ∧ (∀ j, j < i → pr (d j) = false) ∧ Below w.heap.size w wr) (fun _ s8 _ => n - (intOf s8).toNat)
 case atStart => exact ⟨0, Nat.zero_le _, rfl, fun j h => absurd h (Nat.not_lt_zero _), Below.refl _ _⟩
 case round =>
  obtain ⟨i, hi, rfl, hno, hb⟩ := hrel
  have HB := Hh hb
  have HNO := Hh hno
  clear hb hno
  by_cases hlt : i < n
  ·obtain ⟨g, rfl, hgS, hgb, hgl⟩ := HR.out.at_ (k := i) hlt
   obtain ⟨x, hx⟩ : ∃ x, d i = x := ⟨_, rfl⟩
   have h1 := range_below HB.out hgl (HR.out.cells hlt)
   have h2 := HR.out.fit i hlt
   rw [hx] at h1 h2
   have HXC := Hh h1
   have HXF := Hh h2
   have HX := Hh hx
   have hlt2 : (i : Int) < (n : Int) := by omega
   have hlt3 : (n : Int) ≤ 1000000 := by omega
   clear hgS hgb hgl h1 h2 hx
   go_wp2_with (refine wpList_value (by rfl) (exec_load_mid 35 _ rfl g (i * 19) (by rfl) (itC x) _ HXC.out Try.underlying35 rfl (sizeIt _ HXF.out.addr)) ?_)
   refine (HT.out x wr HXF.out (Kept.of_below HB.out)).mono ?_
   rintro e w2 ⟨rfl, hb⟩
   replace HB := Hh (bthen HB.out hb)
   clear hb
   cases hp : pr x
   ·have HP := Hh hp
    clear hp
    go_wp2_with fail
    go_roundw
    case rel => exact ⟨i + 1, by omega, by simp, fun j h => (Nat.lt_succ_iff_lt_or_eq.1 h).elim (HNO.out j) (fun e => by rw [e, HX.out]; exact HP.out), HB.out⟩
    case measure => simp [intOf]; omega
   have HP := Hh hp
   clear hp
   go_wp2_with fail
   go_ret
   exact ⟨_, rfl, .inl ⟨i, rfl, hlt, by rw [HX.out]; exact HP.out, HNO.out⟩, HB.out⟩
  obtain rfl : i = n := by omega
  go_wp2_with fail
  go_ret
  exact ⟨_, rfl, .inr ⟨rfl, HNO.out⟩, HB.out⟩
/-! the builtin clear on items -/
theorem zero_cells1 (m : Nat) : ∀ v ∈ (Builtin.zeroCells (Value.agg (itC (Px.zero, 0)).toArray).cells m).toList, v.oneCell' = true := by
 intro v hv
 unfold Builtin.zeroCells at hv
 rw [Array.toList_map] at hv
 obtain ⟨i, _, rfl⟩ := List.mem_map.1 hv
 have h19 : i % 19 < 19 := Nat.mod_lt _ (by decide)
 show ((itC (Px.zero, 0)).toArray[i % 19]!).oneCell' = true
 refine itC_one (Px.zero, 0) _ ?_
 rw [getElem!_pos _ _ (by exact h19)]
 show (itC (Px.zero, 0))[i % 19] ∈ _
 exact List.getElem_mem _
theorem clear_it {w : World} (g q m cx : Nat) {base n c : Nat} {xs : List Value} (hown : Own w base 35 19 (some ⟨g, 0, none⟩) n c xs) (hq : q + m ≤ n) (hm : 0 < m) :
  ∃ w' zs, (∀ ty, (Builtin.clear_ #[40] ty #[.slice (some ⟨g, q * 19, none⟩) m cx]).run Try.prog w = .ok (.tuple #[]) w') ∧ Own w' base 35 19 (some ⟨g, 0, none⟩) n c (xs.take (q * 19) ++ zs ++ xs.drop (q * 19 + zs.length)) ∧ w.grownBy w' (some g) := by
 obtain ⟨zs, hz⟩ : ∃ zs, (Builtin.zeroCells (Value.agg (itC (Px.zero, 0)).toArray).cells m).toList = zs := ⟨_, rfl⟩
 have hzl : zs.length = m * 19 := by rw [← hz, Array.length_toList, size_zeroCells]; rfl
 have h1 : ∀ v ∈ zs, v.oneCell' = true := by rw [← hz]; exact zero_cells1 m
 have hoff : q * 19 + zs.length ≤ n * 19 := by rw [hzl]; omega
 have hth := hown.there (q * 19) zs.length hoff (by omega)
 have hst := run_storeCells_cells (P := Try.prog) g (q * 19) zs 0 w (by intro j hj; have := (hth j hj).1; simpa using this) (by intro j hj; have := (hth j hj).2; simpa using this) h1
 refine ⟨w.setCells g (q * 19) zs, zs, fun ty => ?_, own_setCells zs (q * 19) w xs hown hoff, grown_setCells g zs (q * 19) w w (grown_refl w _)⟩
 obtain ⟨m, rfl⟩ : ∃ k, m = k + 1 := ⟨m - 1, by omega⟩
 have hzv := fun w => zeroIt (w := w)
 generalize Value.agg (itC (Px.zero, 0)).toArray = z at hz hzv
 simp only [Nat.add_zero] at hst
 simp [Builtin.clear_, run_underlying Try.underlying40, hzv, hz, hst]
/-! filtering, by index functions -/
theorem rowD_succ (n : Nat) (d : Nat → Itm) : rowD (n + 1) d = rowD n d ++ [d n] := by simp [rowD, List.range_succ]
theorem filter_all (pr : Itm → Bool) (n : Nat) (d : Nat → Itm) (h : ∀ j, j < n → pr (d j) = true) : (rowD n d).filter pr = rowD n d :=
 List.filter_eq_self.2 fun x hx => by
  obtain ⟨k, hk, rfl⟩ := List.mem_map.1 hx
  exact h k (List.mem_range.1 hk)
theorem filter_step (pr : Itm → Bool) (n : Nat) (d : Nat → Itm) : (rowD (n + 1) d).filter pr = (rowD n d).filter pr ++ (if pr (d n) then [d n] else []) := by
 rw [rowD_succ, List.filter_append]
 congr 1
 cases h : pr (d n) <;> simp [h]
theorem rowD_upd (q : Nat) (e : Nat → Itm) (x : Itm) : rowD (q + 1) (upd e q x) = rowD q e ++ [x] := by
 rw [rowD_succ]
 congr 1
 ·exact rowD_congr fun k hk => by unfold upd; rw [if_neg (by omega)]
 unfold upd; rw [if_pos rfl]
theorem rowD_take (n q : Nat) (h : q ≤ n) (e : Nat → Itm) : (rowD n e).take q = rowD q e := by
 apply List.ext_getElem?
 intro k
 rw [List.getElem?_take]
 split
 ·rw [rowD_get _ (by omega), rowD_get _ (by omega)]
 rw [List.getElem?_eq_none (by rw [rowD_length]; omega)]
set_option maxHeartbeats 4000000 in
theorem delete_any (base : Nat) (A : Option Addr) (n c : Nat) (d : Nat → Itm) (hn : n ≤ 1000000) (w : World) (hR : Rd w base A n c d) (gb : Nat) (pr : Itm → Bool)
  (hT : ∀ x W, x.1.fit → Kept (blkS A c) w W → Calls Try.prog 62 #[.agg (itC x).toArray, .pointer (some ⟨gb, 0, none⟩)] W fun e w' => e = .returned (.bool (!(pr x))) ∧ Below W.heap.size W w') :
  Calls Try.prog 61 #[.slice A n c, .func (.func 62) #[] #[.pointer (some ⟨gb, 0, none⟩)]] w fun e w' => e = .returned (.slice A ((rowD n d).filter pr).length c) ∧ Own w' base 35 19 A ((rowD n d).filter pr).length c (its ((rowD n d).filter pr)) ∧ Kept (blkS A c) w w' := by
 have HR := Hh hR
 have HT := Hh hT
 clear hR hT
 go_enter Try.func61, Try.ntmps61
 go_wp2_with fail
 refine (index_any base A n c d hn w HR.out gb (fun x => !(pr x)) HT.out).mono ?_
 rintro e w1 ⟨r, rfl, hat, hb⟩
 have HB1 := Hh hb
 clear hb
 rcases hat with ⟨i, rfl, hi, hpi, hno⟩ | ⟨rfl, hno⟩
 ·obtain ⟨g, rfl, hgS, hgb, hgl⟩ := HR.out.at_ (k := i) hi
  have HGS := Hh hgS
  have HGB := Hh hgb
  have HF0 := Hh (show rowD i d = (rowD (i + 1) d).filter pr by
   rw [filter_step, filter_all pr i d (fun j hj => by simpa using hno j hj), show pr (d i) = false by simpa using hpi]
   simp)
  have hin : (i : Int) < (n : Int) := by omega
  have hnn : (n : Int) ≤ 1000000 := by omega
  have hi0 : ((i : Int) == -1) = false := beq_eq_false_iff_ne.2 (by omega)
  clear hgS hgb hgl hpi hno
  go_wp2_with fail
  go_loopw [5, 6, 7] (fun s5 s6 _ wr => ∃ (q j : Nat) (e : Nat → Itm), q < j ∧ j ≤ n ∧ s5 = .int .i64 (q : Nat) ∧ s6 = .int .i64 (j : Nat) ∧ Rd wr base (some ⟨g, 0, none⟩) n c e ∧ rowD q e = (rowD j d).filter pr ∧ (∀ k, j ≤ k → e k = d k) ∧ Kept (blkS (some ⟨g, 0, none⟩) c) w wr) (fun _ s6 _ _ => n - (intOf s6).toNat)
  case atStart => exact ⟨i, i + 1, d, by omega, by omega, rfl, by simp, HR.out.on HB1.out, HF0.out, fun _ _ => rfl, Kept.of_below HB1.out⟩
  case round =>
   obtain ⟨q, j, e, hqj, hjn, rfl, rfl, hR, hfl, hed, hk⟩ := hrel
   have HRE := Hh hR
   have HFL := Hh hfl
   have HED := Hh hed
   have HK0 := Hh hk
   clear hR hfl hed hk HF0 hin
   by_cases hlt : j < n
   ·obtain ⟨x, hx⟩ : ∃ x, d j = x := ⟨_, rfl⟩
    have h1 := HRE.out.cells (k := j) hlt
    have h2 := HRE.out.fit j hlt
    rw [HED.out j (Nat.le_refl _), hx] at h1 h2
    have HXC := Hh h1
    have HXF := Hh h2
    have HX := Hh hx
    have hlt2 : (j : Int) < (n : Int) := by omega
    have hq2 : (q : Int) < (n : Int) := by omega
    clear h1 h2 hx
    go_upto_region 8 with (first
     | (refine wpList_value (by rfl) (exec_load_mid 35 _ rfl g (j * 19) (by rfl) (itC x) _ HXC.out Try.underlying35 rfl (sizeIt _ HXF.out.addr)) ?_)
     | (refine wpList_alloc_blk (by rfl) 35 rfl (itC (Px.zero, 0)) zeroIt ?_; intro wa hba hBa hsa)
     | (refine wpList_store_all (by rfl) 35 _ _ rfl wr.heap.size (itC x) rfl rfl 35 _ hba (sizeIt _ HXF.out.addr) (by rw [itC_length x HXF.out.addr]; rfl) (oneIt _) ?_; intro w5 hb5 hg5 hs5))
    have hbb := bgrown hBa hg5 hBa.size (Nat.le_refl _)
    obtain ⟨g7, hg7⟩ : ∃ g, wr.heap.size = g := ⟨_, rfl⟩
    have h7 : g7 < w5.heap.size := hg7 ▸ hb5.lt
    replace HRE := Hh (HRE.out.on hbb)
    replace HK0 := Hh (HK0.out.then_below hbb)
    rw [hg7] at hb5
    try rw [hg7]
    have H7 := Hh hb5
    clear hba hBa hsa hb5 hg5 hs5 hbb hg7 HXC
    go_wp2_with (refine wpList_value (by rfl) (exec_load 35 _ rfl g7 (by rfl) 35 (itC x) _ H7.out Try.underlying35 rfl (sizeIt _ HXF.out.addr)) ?_)
    refine (HT.out x w5 HXF.out HK0.out).mono ?_
    rintro e' w6 ⟨rfl, hb⟩
    replace HRE := Hh (HRE.out.on hb)
    replace HK0 := Hh (HK0.out.then_below hb)
    replace H7 := Hh (H7.out.on hb)
    clear hb h7
    cases hp : pr x
    ·have HP := Hh hp
     clear hp
     go_wp2_with fail
     go_roundw
     case rel => exact ⟨q, j + 1, e, by omega, by omega, rfl, by simp, HRE.out, by rw [filter_step, HFL.out, HX.out, HP.out]; simp, fun k hk => HED.out k (by omega), HK0.out⟩
     case measure => simp [intOf]; omega
    have HP := Hh hp
    clear hp
    go_upto_region 10 with (first
     | (refine wpList_value (by rfl) (exec_load 35 _ rfl g7 (by rfl) 35 (itC x) _ H7.out Try.underlying35 rfl (sizeIt _ HXF.out.addr)) ?_)
     | (refine wpList_store_own (by rfl) 35 _ _ rfl g (q * 19) (itC x) rfl rfl HRE.out.own (sizeIt _ HXF.out.addr) (by rw [itC_length _ HXF.out.addr]; omega) (by omega) (oneIt _) ?_; intro w7 ho7 hg7 hs7))
    have hR7 := HRE.out.put (i := q) (by omega) x HXF.out ho7
    have hK7 := HK0.out.trans (T := blkS (some ⟨g, 0, none⟩) c) (Kept.of_grown hg7 (fun k hk => by injection hk with hk; rw [← hk]; exact HGS.out)) (fun _ h _ => h)
    replace HRE := Hh hR7
    replace HK0 := Hh hK7
    clear ho7 hg7 hs7 hR7 hK7
    go_wp2_with fail
    go_roundw
    case rel => exact ⟨q + 1, j + 1, upd e q x, by omega, by omega, by simp, by simp, HRE.out, by rw [rowD_upd, filter_step, HFL.out, HX.out, HP.out]; simp, fun k hk => by unfold upd; rw [if_neg (by omega)]; exact HED.out k (by omega), HK0.out⟩
    case measure => simp [intOf]; omega
   obtain rfl : j = n := by omega
   obtain ⟨m, hm⟩ : ∃ m, j - q = m := ⟨_, rfl⟩
   have hq2 : (q : Int) < (j : Int) := by omega
   have hq3 : (q : Int) ≤ (j : Int) := by omega
   have hjc : (j : Int) ≤ (c : Int) := by have := HRE.out.own.le; omega
   have HQL := Hh (show ((rowD j d).filter pr).length = q by rw [← HFL.out, rowD_length])
   have HM := Hh (show ((j : Int) - (q : Int)) = (m : Int) by omega)
   obtain ⟨w7, zs, hrun, ho7, hg7⟩ := clear_it (w := wr) g q m (c - q) HRE.out.own (by omega) (by omega)
   have HRUN := Hh hrun
   have HO7 := Hh (ho7.shrink (m := q) (by omega))
   have HK7 := Hh (HK0.out.trans (T := blkS (some ⟨g, 0, none⟩) c) (Kept.of_grown hg7 (fun k hk => by injection hk with hk; rw [← hk]; exact HGS.out)) (fun _ h _ => h))
   clear hrun ho7 hg7
   go_upto_region 12 with fail
   rw [HRUN.out]
   go_wp2_with fail
   trace_state
   go_ret
   rw [HQL.out]
   refine ⟨rfl, ?_, HK7.out⟩
   have h9 := HO7.out
   rw [List.append_assoc, List.take_left' (by rw [List.length_take, its_length _ HRE.out.fits, rowD_length]; omega), its_take _ HRE.out.fits q (by rw [rowD_length]; omega), rowD_take j q (by omega), HFL.out] at h9
   exact h9
 have HALL := Hh (filter_all pr n d (fun j hj => by simpa using hno j hj))
 have HA := Hh (HR.out.own.below HB1.out)
 clear hno
 go_wp2_with fail
 go_ret
 rw [HALL.out, rowD_length]
 exact ⟨rfl, HA.out, Kept.of_below HB1.out⟩
end Go.Proofs.Ytdmgomknamdcfaa


/- Texts of this claim put together, in build order: each one's own remark stands ahead of it. -/
import Derived.Test.YtdmgomknamdcfaaG03
/- Plain laws of bytes' bits, and of prefixes as rows of bits (layers 8, 9). No condition. -/
namespace Go.Proofs.Ytdmgomknamdcfaa
set_option linter.unusedVariables false
set_option linter.unusedSimpArgs false

/-- the last k bits of a number, the greatest one first -/
def bitsN : Nat → Nat → List Bool
 | 0, _ => []
 | k + 1, n => (n / 2 ^ k % 2 == 1) :: bitsN k n
theorem bitsN_length (k n : Nat) : (bitsN k n).length = k := by
 induction k with
 | zero => rfl
 | succ k ih => simp [bitsN, ih]
theorem bitsN_get (k n i : Nat) (h : i < k) : (bitsN k n)[i]? = some (n / 2 ^ (k - 1 - i) % 2 == 1) := by
 induction k generalizing i with
 | zero => omega
 | succ k ih =>
  cases i with
  | zero => simp [bitsN]
  | succ i =>
   show (bitsN k n)[i]? = _
   rw [ih i (by omega), show k - 1 - i = k + 1 - 1 - (i + 1) by omega]
theorem pow_split (m t : Nat) : 2 ^ (m + t) = 2 ^ m * 2 ^ t := Nat.pow_add 2 m t
theorem bitsN_mod (k n : Nat) : bitsN k (n % 2 ^ k) = bitsN k n := by
 apply List.ext_getElem?
 intro i
 by_cases h : i < k
 ·rw [bitsN_get k _ i h, bitsN_get k _ i h]
  obtain ⟨t, ht⟩ : ∃ t, k = (k - 1 - i) + 1 + t := ⟨i, by omega⟩
  congr 2
  rw [ht]
  simp only [show k - 1 - i + 1 + t - 1 - i = k - 1 - i by omega]
  generalize k - 1 - i = m
  rw [pow_split, Nat.pow_succ, Nat.mul_assoc, Nat.mod_mul_right_div_self]
  rw [Nat.mod_mod_of_dvd _ ⟨2 ^ t, rfl⟩]
 rw [List.getElem?_eq_none (by rw [bitsN_length]; omega), List.getElem?_eq_none (by rw [bitsN_length]; omega)]
theorem bitsN_lt (k : Nat) : ∀ (x y : Nat), x < 2 ^ k → y < 2 ^ k → ltB (bitsN k x) (bitsN k y) = decide (x < y) := by
 induction k with
 | zero =>
  intro x y hx hy
  have : ¬ x < y := by simp at hx hy; omega
  rw [decide_eq_false this]
  rfl
 | succ k ih =>
  intro x y hx hy
  rw [Nat.pow_succ] at hx hy
  have hp : 0 < 2 ^ k := Nat.pow_pos (by decide)
  have ex := Nat.div_add_mod x (2 ^ k)
  have ey := Nat.div_add_mod y (2 ^ k)
  have mx := Nat.mod_lt x hp
  have my := Nat.mod_lt y hp
  have dx : x / 2 ^ k < 2 := Nat.div_lt_of_lt_mul hx
  have dy : y / 2 ^ k < 2 := Nat.div_lt_of_lt_mul hy
  have h := ih (x % 2 ^ k) (y % 2 ^ k) mx my
  rw [bitsN_mod, bitsN_mod] at h
  show (if (x / 2 ^ k % 2 == 1) = (y / 2 ^ k % 2 == 1) then ltB (bitsN k x) (bitsN k y) else (!(x / 2 ^ k % 2 == 1) && (y / 2 ^ k % 2 == 1))) = _
  rw [h]
  generalize x / 2 ^ k = a at *
  generalize y / 2 ^ k = b at *
  generalize 2 ^ k = P at *
  have ha : a = 0 ∨ a = 1 := by omega
  have hb : b = 0 ∨ b = 1 := by omega
  rcases ha with rfl | rfl <;> rcases hb with rfl | rfl
  ·rw [if_pos rfl]
   congr 1
   exact propext ⟨fun h => by omega, fun h => by omega⟩
  ·rw [if_neg (by decide), decide_eq_true (by omega)]
   rfl
  ·rw [if_neg (by decide), decide_eq_false (by omega)]
   rfl
  rw [if_pos rfl]
  congr 1
  exact propext ⟨fun h => by omega, fun h => by omega⟩
theorem bitsN_inj (k x y : Nat) (hx : x < 2 ^ k) (hy : y < 2 ^ k) (h : bitsN k x = bitsN k y) : x = y := by
 have h1 := bitsN_lt k x y hx hy
 have h2 := bitsN_lt k y x hy hx
 rw [h, ltB_irrefl] at h1
 rw [h, ltB_irrefl] at h2
 have := of_decide_eq_false h1.symm
 have := of_decide_eq_false h2.symm
 omega
/-- the first j bits of a byte -/
def maskN (u j : Nat) : Nat := u / 2 ^ (8 - j) * 2 ^ (8 - j)
theorem bitsN_mask (u j : Nat) (hj : j ≤ 8) : bitsN 8 (maskN u j) = (bitsN 8 u).take j ++ List.replicate (8 - j) false := by
 apply List.ext_getElem?
 intro i
 by_cases h : i < 8
 ·rw [bitsN_get 8 _ i h]
  by_cases hi : i < j
  ·rw [List.getElem?_append_left (by rw [List.length_take, bitsN_length]; omega), List.getElem?_take, if_pos hi, bitsN_get 8 _ i h]
   obtain ⟨t, ht⟩ : ∃ t, 8 - 1 - i = (8 - j) + t := ⟨8 - 1 - i - (8 - j), by omega⟩
   rw [ht]
   unfold maskN
   generalize 8 - j = m
   rw [pow_split, ← Nat.div_div_eq_div_mul, Nat.mul_div_cancel _ (Nat.pow_pos (by decide)), Nat.div_div_eq_div_mul]
  rw [List.getElem?_append_right (by rw [List.length_take, bitsN_length]; omega), List.length_take, bitsN_length, Nat.min_eq_left hj, List.getElem?_replicate, if_pos (by omega)]
  obtain ⟨t, ht⟩ : ∃ t, 8 - j = (8 - 1 - i) + (t + 1) := ⟨8 - j - (8 - 1 - i) - 1, by omega⟩
  unfold maskN
  rw [ht]
  generalize 8 - 1 - i = m
  rw [pow_split m (t + 1), show ∀ q a b : Nat, q * (a * b) = q * b * a from fun q a b => by rw [Nat.mul_comm a b, Nat.mul_assoc], Nat.mul_div_cancel _ (Nat.pow_pos (by decide)), Nat.pow_succ, ← Nat.mul_assoc, Nat.mul_mod_left]
  rfl
 rw [List.getElem?_eq_none (by rw [bitsN_length]; omega), List.getElem?_eq_none (by simp [bitsN_length]; omega)]
/-- the bits of bytes -/
def abits (a : List UInt8) : List Bool := a.flatMap fun u => bitsN 8 u.toNat
theorem abits_cons (u : UInt8) (a : List UInt8) : abits (u :: a) = bitsN 8 u.toNat ++ abits a := by simp [abits]
theorem abits_length (a : List UInt8) : (abits a).length = 8 * a.length := by
 induction a with
 | nil => rfl
 | cons u a ih => rw [abits_cons, List.length_append, bitsN_length, ih, List.length_cons]; omega
theorem abits_inj : ∀ (a b : List UInt8), a.length = b.length → abits a = abits b → a = b
 | [], [], _, _ => rfl
 | [], _ :: _, h, _ => by simp at h
 | _ :: _, [], h, _ => by simp at h
 | u :: a, v :: b, h, e => by
  rw [abits_cons, abits_cons] at e
  have e1 := List.append_inj_left e (by rw [bitsN_length, bitsN_length])
  have e2 := List.append_inj_right e (by rw [bitsN_length, bitsN_length])
  rw [UInt8.toNat_inj.1 (bitsN_inj 8 _ _ u.toNat_lt v.toNat_lt e1), abits_inj a b (by simpa using h) e2]
/-- an address's bit -/
def bitF (a : List UInt8) (i : Nat) : Bool := sideB (abits a) i
theorem abits_get : ∀ (a : List UInt8) (i : Nat), i < 8 * a.length → (abits a)[i]? = some ((a.getD (i / 8) 0).toNat / 2 ^ (7 - i % 8) % 2 == 1)
 | [], i, h => by simp at h
 | u :: a, i, h => by
  rw [abits_cons]
  by_cases hi : i < 8
  ·rw [List.getElem?_append_left (by rw [bitsN_length]; exact hi), bitsN_get 8 _ i hi, Nat.div_eq_of_lt hi, Nat.mod_eq_of_lt hi]
   rfl
  rw [List.getElem?_append_right (by rw [bitsN_length]; omega), bitsN_length, abits_get a (i - 8) (by simp at h; omega)]
  rw [show i / 8 = (i - 8) / 8 + 1 by omega, show (i - 8) % 8 = i % 8 by omega]
  rfl
theorem bitF_eq (a : List UInt8) (i : Nat) (h : i < 8 * a.length) : bitF a i = ((a.getD (i / 8) 0).toNat / 2 ^ (7 - i % 8) % 2 == 1) := by
 unfold bitF sideB
 rw [List.getD_eq_getElem?_getD, abits_get a i h]
 rfl
/-- the first bits of an address -/
def firstF : List UInt8 → Nat → List UInt8
 | [], _ => []
 | u :: a, n => UInt8.ofNat (maskN u.toNat (min n 8)) :: firstF a (n - 8)
theorem firstF_length (a : List UInt8) (n : Nat) : (firstF a n).length = a.length := by
 induction a generalizing n with
 | nil => rfl
 | cons u a ih => simp [firstF, ih]
theorem maskN_lt (u j : Nat) (h : u < 256) : maskN u j < 256 := Nat.lt_of_le_of_lt (Nat.div_mul_le_self _ _) h
theorem abits_first (a : List UInt8) (n : Nat) : abits (firstF a n) = (abits a).take n ++ List.replicate (8 * a.length - n) false := by
 induction a generalizing n with
 | nil => simp [firstF, abits]
 | cons u a ih =>
  rw [firstF, abits_cons, abits_cons, UInt8.toNat_ofNat', Nat.mod_eq_of_lt (maskN_lt _ _ u.toNat_lt), bitsN_mask _ _ (Nat.min_le_right _ _), ih]
  by_cases h : n < 8
  ·rw [Nat.min_eq_left (by omega), show n - 8 = 0 by omega, List.take_zero, List.nil_append, List.take_append_of_le_length (by rw [bitsN_length]; omega), List.append_assoc, List.replicate_append_replicate]
   congr 2
   simp
   omega
  rw [Nat.min_eq_right (by omega), List.take_of_length_le (by rw [bitsN_length]; omega), List.take_append, bitsN_length, List.take_of_length_le (l := bitsN 8 u.toNat) (by rw [bitsN_length]; omega)]
  simp only [Nat.sub_self, List.replicate_zero, List.append_nil, List.append_assoc]
  congr 3
  simp
  omega

/-! the order -/
/-- which of two rows of bytes stands ahead -/
def ltA : List UInt8 → List UInt8 → Bool
 | [], _ => false
 | _ :: _, [] => false
 | u :: a, v :: b => if u = v then ltA a b else decide (u.toNat < v.toNat)
theorem ltB_append : ∀ (x y r s : List Bool), x.length = y.length → ltB (x ++ r) (y ++ s) = if x = y then ltB r s else ltB x y
 | [], [], r, s, _ => by simp
 | [], _ :: _, _, _, h => by simp at h
 | _ :: _, [], _, _, h => by simp at h
 | a :: x, b :: y, r, s, h => by
  have ih := ltB_append x y r s (by simpa using h)
  show (if a = b then ltB (x ++ r) (y ++ s) else (!a && b)) = _
  rw [ih]
  by_cases e : a = b
  ·subst e
   rw [if_pos rfl]
   by_cases e2 : x = y
   ·rw [if_pos e2, if_pos (by rw [e2])]
   rw [if_neg e2, if_neg (by simp [e2])]
   show _ = (if a = a then ltB x y else (!a && a))
   rw [if_pos rfl]
  rw [if_neg e, if_neg (by simp [e])]
  show _ = (if a = b then ltB x y else (!a && b))
  rw [if_neg e]
theorem ltA_bits : ∀ (a b : List UInt8), a.length = b.length → ltB (abits a) (abits b) = ltA a b
 | [], [], _ => rfl
 | [], _ :: _, h => by simp at h
 | _ :: _, [], h => by simp at h
 | u :: a, v :: b, h => by
  rw [abits_cons, abits_cons, ltB_append _ _ _ _ (by rw [bitsN_length, bitsN_length]), ltA_bits a b (by simpa using h), bitsN_lt 8 _ _ u.toNat_lt v.toNat_lt]
  show _ = (if u = v then ltA a b else decide (u.toNat < v.toNat))
  by_cases e : u = v
  ·rw [if_pos (by rw [e]), if_pos e]
  rw [if_neg (fun h => e (UInt8.toNat_inj.1 (bitsN_inj 8 _ _ u.toNat_lt v.toNat_lt h))), if_neg e]
/-- the order of prefixes, by their bits with no bits behind them -/
theorem ltB_zeros : ∀ (x y : List Bool) (m n : Nat), x.length + m = y.length + n →
  ltB x y = (ltB (x ++ List.replicate m false) (y ++ List.replicate n false) || (decide (x ++ List.replicate m false = y ++ List.replicate n false) && decide (x.length < y.length)))
 | [], [], m, n, h => by
  have : m = n := by simpa using h
  subst this
  simp [ltB_irrefl, ltB]
 | [], b :: y, m, n, h => by
  simp only [List.nil_append]
  have hm : m = y.length + 1 + n := by simp at h; omega
  have key : ∀ (y : List Bool) (n m : Nat), m = y.length + n → (ltB (List.replicate m false) (y ++ List.replicate n false) || decide (List.replicate m false = y ++ List.replicate n false)) = true := by
   intro y
   induction y with
   | nil => intro n m e; simp at e; subst e; simp
   | cons b y ih =>
    intro n m e
    obtain ⟨m', rfl⟩ : ∃ m', m = m' + 1 := ⟨m - 1, by simp at e; omega⟩
    have ih' := ih n m' (by simp at e; omega)
    rw [List.replicate_succ]
    show ((if false = b then ltB (List.replicate m' false) (y ++ List.replicate n false) else (!false && b)) || decide (false :: List.replicate m' false = b :: (y ++ List.replicate n false))) = true
    cases b
    ·rw [if_pos rfl]
     simpa using ih'
    rfl
  have hk := key (b :: y) n m (by simpa using hm)
  show true = _
  rw [show decide (([] : List Bool).length < (b :: y).length) = true by simp, Bool.and_true, hk]
 | a :: x, [], m, n, h => by
  simp only [List.nil_append]
  rw [show decide ((a :: x).length < ([] : List Bool).length) = false by simp, Bool.and_false, Bool.or_false]
  have key : ∀ (x : List Bool) (m n : Nat), n = x.length + m → ltB (x ++ List.replicate m false) (List.replicate n false) = false := by
   intro x
   induction x with
   | nil => intro m n e; simp at e; subst e; simp [ltB_irrefl]
   | cons b x ih =>
    intro m n e
    obtain ⟨n', rfl⟩ : ∃ n', n = n' + 1 := ⟨n - 1, by simp at e; omega⟩
    rw [List.replicate_succ]
    show (if b = false then ltB (x ++ List.replicate m false) (List.replicate n' false) else (!b && false)) = false
    cases b
    ·rw [if_pos rfl]
     exact ih m n' (by simp at e; omega)
    rfl
  rw [key (a :: x) m n (by simp at h ⊢; omega)]
  rfl
 | a :: x, b :: y, m, n, h => by
  have ih := ltB_zeros x y m n (by simp at h; omega)
  show (if a = b then ltB x y else (!a && b)) = ((if a = b then ltB (x ++ List.replicate m false) (y ++ List.replicate n false) else (!a && b)) || (decide (a :: (x ++ List.replicate m false) = b :: (y ++ List.replicate n false)) && decide (x.length + 1 < y.length + 1)))
  by_cases e : a = b
  ·subst e
   rw [if_pos rfl, if_pos rfl, ih]
   simp
  rw [if_neg e, if_neg e]
  simp [e]

/-! prefixes -/
structure Px where
 six : Bool
 addr : List UInt8
 len : Int
deriving DecidableEq
def Px.bits (p : Px) : List Bool := (abits p.addr).take p.len.toNat
def mostF (six : Bool) : Nat := if six then 128 else 32
/-- a prefix that may be: no bits stand behind it -/
structure Px.good (p : Px) : Prop where
 addr : p.addr.length = 16
 ge : 0 ≤ p.len
 le : p.len ≤ mostF p.six
 zero : firstF p.addr p.len.toNat = p.addr
theorem Px.good.bits_length {p : Px} (h : p.good) : p.bits.length = p.len.toNat := by
 unfold Px.bits
 rw [List.length_take, abits_length, h.addr]
 have h1 := h.le
 unfold mostF at h1
 split at h1 <;> omega
theorem Px.good.abits {p : Px} (h : p.good) : abits p.addr = p.bits ++ List.replicate (128 - p.len.toNat) false := by
 have h1 := abits_first p.addr p.len.toNat
 rw [h.zero, h.addr] at h1
 exact h1
theorem good_eq {p q : Px} (hp : p.good) (hq : q.good) (hs : p.six = q.six) (hb : p.bits = q.bits) : p = q := by
 have h1 := congrArg List.length hb
 rw [hp.bits_length, hq.bits_length] at h1
 have h2 : p.len = q.len := by have := hp.ge; have := hq.ge; omega
 have h3 : p.addr = q.addr := abits_inj _ _ (by rw [hp.addr, hq.addr]) (by rw [hp.abits, hq.abits, hb, h1])
 cases p; cases q; simp_all
/-- the first prefix stands ahead -/
def ltP (p q : Px) : Bool := ltA p.addr q.addr || (decide (p.addr = q.addr) && decide (p.len < q.len))
theorem ltP_bits {p q : Px} (hp : p.good) (hq : q.good) : ltP p q = ltB p.bits q.bits := by
 have lp := hp.bits_length
 have lq := hq.bits_length
 have m1 := hp.le
 have m2 := hq.le
 have g1 := hp.ge
 have g2 := hq.ge
 have hl : p.len.toNat ≤ 128 ∧ q.len.toNat ≤ 128 := by unfold mostF at m1 m2; constructor <;> (split at m1 <;> split at m2 <;> omega)
 rw [ltB_zeros p.bits q.bits (128 - p.len.toNat) (128 - q.len.toNat) (by omega), ← hp.abits, ← hq.abits, ltA_bits _ _ (by rw [hp.addr, hq.addr]), lp, lq]
 unfold ltP
 congr 2
 ·exact decide_eq_decide.2 ⟨fun e => by rw [e], fun e => abits_inj _ _ (by rw [hp.addr, hq.addr]) e⟩
 exact decide_eq_decide.2 ⟨fun e => by omega, fun e => by omega⟩
/-- a prefix has an address -/
theorem has_bits {p : Px} (hp : p.good) (a : List UInt8) (ha : a.length = 16) : (firstF p.addr p.len.toNat = firstF a p.len.toNat) ↔ p.bits <+: abits a := by
 have hl := hp.bits_length
 constructor
 ·intro h
  rw [hp.zero] at h
  have h1 := abits_first a p.len.toNat
  rw [← h, hp.abits] at h1
  have h2 := List.append_inj_left h1 (by
   rw [hl, List.length_take, abits_length, ha]
   have h1 := hp.le
   unfold mostF at h1
   split at h1 <;> omega)
  rw [h2]
  exact List.take_prefix _ _
 intro h
 rw [hp.zero]
 refine abits_inj _ _ (by rw [firstF_length, hp.addr, ha]) ?_
 rw [abits_first, hp.abits, ha]
 have h2 := List.prefix_iff_eq_take.1 h
 rw [hl] at h2
 rw [← h2]
end Go.Proofs.Ytdmgomknamdcfaa

/- Plain laws of the reference's rows of prefixes (layer 9), against a tree. No condition. -/
namespace Go.Proofs.Ytdmgomknamdcfaa
set_option linter.unusedVariables false
set_option linter.unusedSimpArgs false

abbrev Itm := Px × Int
def keyB (x : Itm) : List Bool × Int := (x.1.bits, x.2)
/-- prefixes of one kind, in order -/
structure Lok (s : Bool) (L : List Itm) : Prop where
 good : ∀ x ∈ L, x.1.good
 six : ∀ x ∈ L, x.1.six = s
 sorted : Sorted (L.map keyB)
theorem Lok.nil (s : Bool) : Lok s [] := ⟨by simp, by simp, List.Pairwise.nil⟩
/-- where a prefix stands, or would -/
def cntP : List Itm → Px → Nat
 | [], _ => 0
 | x :: L, p => if ltP x.1 p then cntP L p + 1 else 0
def hasP (L : List Itm) (p : Px) : Bool :=
 match L[cntP L p]? with
 | some x => decide (x.1 = p)
 | none => false
def putP (L : List Itm) (p : Px) (v : Int) : List Itm := L.take (cntP L p) ++ (p, v) :: L.drop (if hasP L p then cntP L p + 1 else cntP L p)
def delP (L : List Itm) (p : Px) : List Itm := L.take (cntP L p) ++ L.drop (cntP L p + 1)
def valP (L : List Itm) (p : Px) : Int × Bool :=
 if hasP L p then ((L.getD (cntP L p) (p, 0)).2, true) else (0, false)
theorem cntP_le (L : List Itm) (p : Px) : cntP L p ≤ L.length := by
 induction L with
 | nil => exact Nat.le_refl _
 | cons x L ih =>
  unfold cntP
  split
  ·simp; omega
  simp
/-- a row falls into what stands ahead of a prefix, that prefix, and what stands behind it -/
theorem cut_at {s : Bool} {L : List Itm} (h : Lok s L) {p : Px} (hp : p.good) (hs : p.six = s) :
  (∀ x ∈ L.take (cntP L p), ltB x.1.bits p.bits = true) ∧
  ((hasP L p = true ∧ ∃ u, L.drop (cntP L p) = (p, u) :: L.drop (cntP L p + 1) ∧ ∀ x ∈ L.drop (cntP L p + 1), ltB p.bits x.1.bits = true) ∨
   (hasP L p = false ∧ ∀ x ∈ L.drop (cntP L p), ltB p.bits x.1.bits = true)) := by
 induction L with
 | nil => exact ⟨by simp, .inr ⟨rfl, by simp⟩⟩
 | cons x L ih =>
  have hx := h.good x (by simp)
  have hxs := h.six x (by simp)
  obtain ⟨hxl, hL⟩ := List.pairwise_cons.1 (show List.Pairwise _ (keyB x :: L.map keyB) from h.sorted)
  have hLok : Lok s L := ⟨fun y hy => h.good y (by simp [hy]), fun y hy => h.six y (by simp [hy]), hL⟩
  have hlt := ltP_bits hx hp
  by_cases hc : ltP x.1 p = true
  ·have e : cntP (x :: L) p = cntP L p + 1 := by show (if ltP x.1 p then _ else _) = _; rw [if_pos hc]
   have eh : hasP (x :: L) p = hasP L p := by unfold hasP; rw [e]; rfl
   obtain ⟨h1, h2⟩ := ih hLok
   rw [e, eh]
   refine ⟨fun y hy => ?_, ?_⟩
   ·rw [List.take_succ_cons] at hy
    rcases List.mem_cons.1 hy with e2 | e2
    ·rw [e2, ← hlt]; exact hc
    exact h1 y e2
   simpa only [List.drop_succ_cons] using h2
  have hc' : ltP x.1 p = false := by simpa using hc
  have e : cntP (x :: L) p = 0 := by show (if ltP x.1 p then _ else _) = _; rw [hc']; rfl
  rw [e]
  refine ⟨by simp, ?_⟩
  rw [hc'] at hlt
  rcases ltB_tri x.1.bits p.bits with t | t | t
  ·rw [t] at hlt; cases hlt
  ·have ex : x.1 = p := good_eq hx hp (by rw [hxs, hs]) t
   have eh : hasP (x :: L) p = true := by unfold hasP; rw [e]; show decide (x.1 = p) = true; exact decide_eq_true ex
   refine .inl ⟨eh, x.2, ?_, fun y hy => ?_⟩
   ·rw [← ex]; rfl
   have := hxl (keyB y) (List.mem_map.2 ⟨y, by simpa using hy, rfl⟩)
   rw [← t]; exact this
  have ne : x.1 ≠ p := fun e2 => by rw [e2, ltB_irrefl] at t; cases t
  have eh : hasP (x :: L) p = false := by unfold hasP; rw [e]; show decide (x.1 = p) = false; exact decide_eq_false ne
  refine .inr ⟨eh, fun y hy => ?_⟩
  rw [List.drop_zero] at hy
  rcases List.mem_cons.1 hy with e2 | e2
  ·rw [e2]; exact t
  exact ltB_trans _ _ _ t (hxl (keyB y) (List.mem_map.2 ⟨y, e2, rfl⟩))
theorem lt_ne {x y : List Bool} (h : ltB x y = true) : x ≠ y := fun e => by rw [e, ltB_irrefl] at h; cases h
theorem take_drop_sorted {L : List Itm} (h : Sorted (L.map keyB)) (i j : Nat) (hij : i ≤ j) : Sorted (((L.take i) ++ (L.drop j)).map keyB) := by
 have e : (L.take i ++ L.drop j).Sublist L := by
  have h1 : L.drop j = (L.drop i).drop (j - i) := by rw [List.drop_drop]; congr 1; omega
  rw [h1]
  conv => rhs; rw [← List.take_append_drop i L]
  exact List.Sublist.append (List.Sublist.refl _) (List.drop_sublist _ _)
 exact h.sublist (e.map keyB)
theorem lt_mid {s : Bool} {L : List Itm} (h : Lok s L) {p : Px} (hp : p.good) (hs : p.six = s) :
  (∀ x ∈ L.take (cntP L p), ltB x.1.bits p.bits = true) ∧ (∀ x ∈ L.drop (if hasP L p then cntP L p + 1 else cntP L p), ltB p.bits x.1.bits = true) ∧
  (∀ x, x ∈ L ↔ x ∈ L.take (cntP L p) ∨ (hasP L p = true ∧ x = (p, (valP L p).1)) ∨ x ∈ L.drop (if hasP L p then cntP L p + 1 else cntP L p)) := by
 obtain ⟨h1, h2⟩ := cut_at h hp hs
 have hm : ∀ x, x ∈ L ↔ x ∈ L.take (cntP L p) ∨ x ∈ L.drop (cntP L p) := fun x => by
  conv => lhs; rw [← List.take_append_drop (cntP L p) L]
  exact List.mem_append
 rcases h2 with ⟨e, u, hd, hb⟩ | ⟨e, hb⟩
 ·rw [e]
  refine ⟨h1, hb, fun x => ?_⟩
  have hv : (valP L p).1 = u := by
   unfold valP
   rw [e, if_pos rfl]
   have := congrArg (fun l => l[0]?) hd
   simp at this
   show (L.getD (cntP L p) (p, 0)).2 = u
   rw [List.getD_eq_getElem?_getD, this]
   rfl
  rw [hm x, hd, hv]
  simp only [if_true, List.mem_cons, true_and]
 rw [e]
 refine ⟨h1, hb, fun x => ?_⟩
 rw [hm x]
 simp
theorem putP_ok {s : Bool} {L : List Itm} (h : Lok s L) {p : Px} (hp : p.good) (hs : p.six = s) (v : Int) :
  Lok s (putP L p v) ∧ ∀ q u, (q, u) ∈ putP L p v ↔ (q = p ∧ u = v) ∨ (q ≠ p ∧ (q, u) ∈ L) := by
 obtain ⟨h1, h2, h3⟩ := lt_mid h hp hs
 have hin : ∀ x ∈ putP L p v, x = (p, v) ∨ x ∈ L := by
  intro x hx
  unfold putP at hx
  rcases List.mem_append.1 hx with e | e
  ·exact .inr (List.mem_of_mem_take e)
  rcases List.mem_cons.1 e with e | e
  ·exact .inl e
  exact .inr (List.mem_of_mem_drop e)
 refine ⟨⟨fun x hx => ?_, fun x hx => ?_, ?_⟩, fun q u => ?_⟩
 ·rcases hin x hx with e | e
  ·rw [e]; exact hp
  exact h.good x e
 ·rcases hin x hx with e | e
  ·rw [e]; exact hs
  exact h.six x e
 ·unfold putP Sorted
  rw [List.map_append, List.map_cons]
  refine List.pairwise_append.2 ⟨?_, List.pairwise_cons.2 ⟨?_, ?_⟩, ?_⟩
  ·exact h.sorted.sublist ((List.take_sublist _ _).map keyB)
  ·intro y hy
   obtain ⟨z, hz, rfl⟩ := List.mem_map.1 hy
   exact h2 z hz
  ·exact h.sorted.sublist ((List.drop_sublist _ _).map keyB)
  intro a ha b hb
  obtain ⟨a', ha', rfl⟩ := List.mem_map.1 ha
  have l1 := h1 a' ha'
  rcases List.mem_cons.1 hb with e | e
  ·rw [e]; exact l1
  obtain ⟨b', hb', rfl⟩ := List.mem_map.1 e
  exact ltB_trans _ _ _ l1 (h2 b' hb')
 have hne1 : ∀ u, (p, u) ∉ L.take (cntP L p) := fun u hm => lt_ne (h1 _ hm) rfl
 have hne2 : ∀ u, (p, u) ∉ L.drop (if hasP L p then cntP L p + 1 else cntP L p) := fun u hm => lt_ne (h2 _ hm) rfl
 unfold putP
 rw [List.mem_append, List.mem_cons, h3 (q, u)]
 constructor
 ·rintro (e | e | e)
  ·exact .inr ⟨fun e2 => hne1 u (e2 ▸ e), .inl e⟩
  ·injection e with e1 e2
   exact .inl ⟨e1, e2⟩
  exact .inr ⟨fun e2 => hne2 u (e2 ▸ e), .inr (.inr e)⟩
 rintro (⟨e1, e2⟩ | ⟨e1, e | ⟨_, e⟩ | e⟩)
 ·exact .inr (.inl (by rw [e1, e2]))
 ·exact .inl e
 ·injection e with e3 _
  exact absurd e3 e1
 exact .inr (.inr e)
theorem delP_ok {s : Bool} {L : List Itm} (h : Lok s L) {p : Px} (hp : p.good) (hs : p.six = s) (hh : hasP L p = true) :
  Lok s (delP L p) ∧ ∀ q u, (q, u) ∈ delP L p ↔ (q ≠ p ∧ (q, u) ∈ L) := by
 obtain ⟨h1, h2, h3⟩ := lt_mid h hp hs
 rw [hh] at h2 h3
 simp only [if_true] at h2 h3
 have hin : ∀ x ∈ delP L p, x ∈ L := by
  intro x hx
  unfold delP at hx
  rcases List.mem_append.1 hx with e | e
  ·exact List.mem_of_mem_take e
  exact List.mem_of_mem_drop e
 refine ⟨⟨fun x hx => h.good x (hin x hx), fun x hx => h.six x (hin x hx), take_drop_sorted h.sorted _ _ (by omega)⟩, fun q u => ?_⟩
 have hne1 : ∀ u, (p, u) ∉ L.take (cntP L p) := fun u hm => lt_ne (h1 _ hm) rfl
 have hne2 : ∀ u, (p, u) ∉ L.drop (cntP L p + 1) := fun u hm => lt_ne (h2 _ hm) rfl
 unfold delP
 rw [List.mem_append, h3 (q, u)]
 constructor
 ·rintro (e | e)
  ·exact ⟨fun e2 => hne1 u (e2 ▸ e), .inl e⟩
  exact ⟨fun e2 => hne2 u (e2 ▸ e), .inr (.inr e)⟩
 rintro ⟨e1, e | ⟨_, e⟩ | e⟩
 ·exact .inl e
 ·injection e with e3 _
  exact absurd e3 e1
 exact .inr e
theorem hasP_iff {s : Bool} {L : List Itm} (h : Lok s L) {p : Px} (hp : p.good) (hs : p.six = s) : (hasP L p = true ∧ (p, (valP L p).1) ∈ L ∧ (valP L p).2 = true) ∨ (hasP L p = false ∧ (∀ u, (p, u) ∉ L) ∧ valP L p = (0, false)) := by
 obtain ⟨h1, h2, h3⟩ := lt_mid h hp hs
 cases e : hasP L p
 ·refine .inr ⟨rfl, fun u hm => ?_, by unfold valP; rw [e]; rfl⟩
  rw [e] at h2 h3
  rcases (h3 _).1 hm with m | ⟨m, _⟩ | m
  ·exact lt_ne (h1 _ m) rfl
  ·cases m
  exact lt_ne (h2 _ m) rfl
 exact .inl ⟨rfl, (h3 _).2 (.inr (.inl ⟨e, rfl⟩)), by unfold valP; rw [e]; rfl⟩

/-! against a tree -/
/-- the row holds what the tree does -/
structure Rel9 (s : Bool) (L : List Itm) (t : Tr) : Prop where
 ok : Lok s L
 wf : t.wf
 all : L.map keyB = t.all
theorem Rel9.mem {s : Bool} {L : List Itm} {t : Tr} (h : Rel9 s L t) {p : Px} (hp : p.good) (hs : p.six = s) (u : Int) : (p, u) ∈ L ↔ (p.bits, u) ∈ t.all := by
 rw [← h.all]
 constructor
 ·intro hm
  exact List.mem_map.2 ⟨(p, u), hm, rfl⟩
 intro hm
 obtain ⟨x, hx, e⟩ := List.mem_map.1 hm
 injection e with e1 e2
 have : x.1 = p := good_eq (h.ok.good x hx) hp (by rw [h.ok.six x hx, hs]) e1
 have : x = (p, u) := Prod.ext this e2
 rw [← this]; exact hx
theorem Rel9.val {s : Bool} {L : List Itm} {t : Tr} (h : Rel9 s L t) {p : Px} (hp : p.good) (hs : p.six = s) : (t.find p.bits).val = valP L p := by
 rcases hasP_iff h.ok hp hs with ⟨_, hm, h2⟩ | ⟨_, hm, h2⟩
 ·rcases find_val p.bits t h.wf with ⟨v, hv, e⟩ | ⟨hv, e⟩
  ·have h3 := (h.mem hp hs _).1 hm
   have h4 := sorted_uniq (all_sorted t h.wf) h3 hv
   rw [e]
   exact (Prod.ext h4 h2).symm
  exact absurd ((h.mem hp hs _).1 hm) (hv _)
 rcases find_val p.bits t h.wf with ⟨v, hv, e⟩ | ⟨hv, e⟩
 ·exact absurd ((h.mem hp hs _).2 hv) (hm _)
 rw [e, h2]
theorem map_mem {s : Bool} {L : List Itm} (h : Lok s L) (t : List (List Bool × Int)) (ht : Sorted t) (hm : ∀ b u, (b, u) ∈ L.map keyB ↔ (b, u) ∈ t) : L.map keyB = t :=
 sorted_same _ _ h.sorted ht fun x => hm x.1 x.2
theorem Rel9.put {s : Bool} {L : List Itm} {t : Tr} (h : Rel9 s L t) {p : Px} (hp : p.good) (hs : p.six = s) (v : Int) (n1 n2 : Nat) : Rel9 s (putP L p v) (t.ins n1 n2 p.bits v) := by
 obtain ⟨h1, h2⟩ := putP_ok h.ok hp hs v
 refine ⟨h1, ins_wf n1 n2 _ v t h.wf, map_mem h1 _ (all_sorted _ (ins_wf n1 n2 _ v t h.wf)) fun b u => ?_⟩
 rw [ins_mem n1 n2 _ v t h.wf, ← h.all]
 constructor
 ·intro hm
  obtain ⟨x, hx, e⟩ := List.mem_map.1 hm
  injection e with e1 e2
  rcases (h2 x.1 x.2).1 hx with ⟨a, c⟩ | ⟨a, c⟩
  ·exact .inl ⟨by rw [← e1, a], by rw [← e2, c]⟩
  refine .inr ⟨fun e3 => a (good_eq (h.ok.good _ c) hp (by rw [h.ok.six _ c, hs]) (by rw [e1, e3])), ?_⟩
  exact List.mem_map.2 ⟨(x.1, x.2), c, by rw [← e1, ← e2]; rfl⟩
 rintro (⟨a, c⟩ | ⟨a, c⟩)
 ·exact List.mem_map.2 ⟨(p, v), (h2 p v).2 (.inl ⟨rfl, rfl⟩), by rw [a, c]; rfl⟩
 obtain ⟨x, hx, e⟩ := List.mem_map.1 c
 injection e with e1 e2
 refine List.mem_map.2 ⟨(x.1, x.2), (h2 x.1 x.2).2 (.inr ⟨fun e3 => a (by rw [← e1, e3]), hx⟩), by rw [← e1, ← e2]; rfl⟩
theorem Rel9.del {s : Bool} {L : List Itm} {t : Tr} (h : Rel9 s L t) {p : Px} (hp : p.good) (hs : p.six = s) (hh : hasP L p = true) : Rel9 s (delP L p) (t.del p.bits) := by
 obtain ⟨h1, h2⟩ := delP_ok h.ok hp hs hh
 have hx : ∃ v, (p.bits, v) ∈ t.all := by
  rcases hasP_iff h.ok hp hs with ⟨_, hm, _⟩ | ⟨e, _⟩
  ·exact ⟨_, (h.mem hp hs _).1 hm⟩
  rw [hh] at e; cases e
 refine ⟨h1, del_wf _ t h.wf, map_mem h1 _ (all_sorted _ (del_wf _ t h.wf)) fun b u => ?_⟩
 rw [del_mem _ t h.wf hx, ← h.all]
 constructor
 ·intro hm
  obtain ⟨x, hx, e⟩ := List.mem_map.1 hm
  injection e with e1 e2
  obtain ⟨a, c⟩ := (h2 x.1 x.2).1 hx
  refine ⟨fun e3 => a (good_eq (h.ok.good _ c) hp (by rw [h.ok.six _ c, hs]) (by rw [e1, e3])), ?_⟩
  exact List.mem_map.2 ⟨(x.1, x.2), c, by rw [← e1, ← e2]; rfl⟩
 rintro ⟨a, c⟩
 obtain ⟨x, hx, e⟩ := List.mem_map.1 c
 injection e with e1 e2
 exact List.mem_map.2 ⟨(x.1, x.2), (h2 x.1 x.2).2 ⟨fun e3 => a (by rw [← e1, e3]), hx⟩, by rw [← e1, ← e2]; rfl⟩
/-- the longest one that has an address -/
def hasA (p : Px) (a : List UInt8) : Bool := decide (firstF p.addr p.len.toNat = firstF a p.len.toNat)
def betterP : Option Itm → Itm → Bool
 | none, _ => true
 | some y, x => decide (y.1.len < x.1.len)
def bestP (a : List UInt8) : List Itm → Option Itm → Option Itm
 | [], b => b
 | x :: L, b => bestP a L (if hasA x.1 a && betterP b x then some x else b)
theorem bestP_max (a : List UInt8) (L : List Itm) : ∀ (b : Option Itm), (∀ y, b = some y → hasA y.1 a = true) →
  (bestP a L b = none → b = none ∧ ∀ x ∈ L, hasA x.1 a = false) ∧
  ∀ y, bestP a L b = some y → (b = some y ∨ y ∈ L) ∧ hasA y.1 a = true ∧ (∀ z, b = some z → z.1.len ≤ y.1.len) ∧ ∀ x ∈ L, hasA x.1 a = true → x.1.len ≤ y.1.len := by
 induction L with
 | nil =>
  intro b hb
  show (b = none → _) ∧ ∀ y, b = some y → _
  refine ⟨fun e => ⟨e, by simp⟩, fun y e => ⟨.inl e, hb y e, fun z e2 => ?_, by simp⟩⟩
  rw [e] at e2
  injection e2 with e2
  rw [e2]; exact Int.le_refl _
 | cons x L ih =>
  intro b hb
  by_cases hx : (hasA x.1 a && betterP b x) = true
  ·have hx1 : hasA x.1 a = true := by simp only [Bool.and_eq_true] at hx; exact hx.1
   have hx2 : ∀ y, b = some y → y.1.len < x.1.len := fun y e => by
    subst e
    simp only [Bool.and_eq_true] at hx
    simpa [betterP] using hx.2
   obtain ⟨h0, h⟩ := ih (some x) (fun y e => by injection e with e; rw [← e]; exact hx1)
   have e : bestP a (x :: L) b = bestP a L (some x) := by
    show bestP a L (if hasA x.1 a && betterP b x then some x else b) = _
    rw [hx]; rfl
   rw [e]
   refine ⟨fun e1 => ?_, fun y e1 => ?_⟩
   ·have := (h0 e1).1
    cases this
   obtain ⟨h1, h2, h3, h4⟩ := h y e1
   have hxy := h3 x rfl
   refine ⟨.inr ?_, h2, fun z hz => by have := hx2 z hz; omega, fun z hz hza => ?_⟩
   ·rcases h1 with h1 | h1
    ·injection h1 with h1; rw [← h1]; simp
    simp [h1]
   rcases List.mem_cons.1 hz with e2 | e2
   ·rw [e2]; exact hxy
   exact h4 z e2 hza
  have hx' : (hasA x.1 a && betterP b x) = false := by simpa using hx
  obtain ⟨h0, h⟩ := ih b hb
  have e : bestP a (x :: L) b = bestP a L b := by
   show bestP a L (if hasA x.1 a && betterP b x then some x else b) = _
   rw [hx']; rfl
  rw [e]
  refine ⟨fun e1 => ?_, fun y e1 => ?_⟩
  ·obtain ⟨h1, h2⟩ := h0 e1
   refine ⟨h1, fun z hz => ?_⟩
   rcases List.mem_cons.1 hz with e2 | e2
   ·subst h1
    rw [e2]
    simpa [betterP] using hx'
   exact h2 z e2
  obtain ⟨h1, h2, h3, h4⟩ := h y e1
  refine ⟨?_, h2, h3, fun z hz hza => ?_⟩
  ·rcases h1 with h1 | h1
   ·exact .inl h1
   exact .inr (by simp [h1])
  rcases List.mem_cons.1 hz with e2 | e2
  ·subst e2
   cases b with
   | none => simp [hza, betterP] at hx'
   | some q =>
    have := h3 q rfl
    simp [hza, betterP] at hx'
    omega
  exact h4 z e2 hza
theorem hasA_iff {p : Px} (hp : p.good) {a : List UInt8} (ha : a.length = 16) : hasA p a = true ↔ p.bits <+: abits a := by
 unfold hasA
 rw [decide_eq_true_eq]
 exact has_bits hp a ha
theorem Rel9.look {s : Bool} {L : List Itm} {t : Tr} (h : Rel9 s L t) {a : List UInt8} (ha : a.length = 16) : (Tr.look (abits a) t .nil).item = (bestP a L none).map keyB := by
 have hb := bestP_max a L none (by simp)
 rcases look_item (abits a) t h.wf .nil with ⟨x, hx, hxa, hmx, hxi⟩ | ⟨hn, hl⟩
 ·rw [hxi]
  rw [← h.all] at hx hmx
  obtain ⟨z, hz, rfl⟩ := List.mem_map.1 hx
  have hza := (hasA_iff (h.ok.good z hz) ha).2 hxa
  cases hbb : bestP a L none with
  | none =>
   have h2 := (hb.1 hbb).2
   rw [h2 z hz] at hza
   cases hza
  | some y =>
   obtain ⟨h1, h2, _, h4⟩ := hb.2 y hbb
   have hy : y ∈ L := by
    rcases h1 with h1 | h1
    ·cases h1
    exact h1
   have gy := h.ok.good y hy
   have gz := h.ok.good z hz
   have hya := (hasA_iff gy ha).1 h2
   have l1 := hmx (keyB y) (List.mem_map.2 ⟨y, hy, rfl⟩) hya
   have l2 := h4 z hz hza
   have l3 : y.1.bits.length ≤ z.1.bits.length := l1
   rw [gy.bits_length, gz.bits_length] at l3
   have b1 := List.prefix_iff_eq_take.1 hya
   have b2 := List.prefix_iff_eq_take.1 hxa
   have hlen : y.1.len = z.1.len := by have := gy.ge; have := gz.ge; omega
   have hbits : y.1.bits = z.1.bits := by
    show y.1.bits = (keyB z).1
    rw [b1, b2]
    show List.take y.1.bits.length _ = List.take z.1.bits.length _
    rw [gy.bits_length, gz.bits_length, hlen]
   have hp : y.1 = z.1 := good_eq gy gz (by rw [h.ok.six y hy, h.ok.six z hz]) hbits
   have hv : z.2 = y.2 := by
    have m1 : (keyB z) ∈ t.all := by rw [← h.all]; exact List.mem_map.2 ⟨z, hz, rfl⟩
    have m2 : (keyB y) ∈ t.all := by rw [← h.all]; exact List.mem_map.2 ⟨y, hy, rfl⟩
    exact sorted_uniq (x := z.1.bits) (all_sorted t h.wf) m1 (by rw [← hbits]; exact m2)
   show some (z.1.bits, z.2) = some (y.1.bits, y.2)
   rw [hp, hv]
 rw [hl]
 cases hbb : bestP a L none with
 | none => rfl
 | some y =>
  obtain ⟨h1, h2, _, _⟩ := hb.2 y hbb
  have hy : y ∈ L := by
   rcases h1 with h1 | h1
   ·cases h1
   exact h1
  have hya := (hasA_iff (h.ok.good y hy) ha).1 h2
  exact absurd hya (hn (keyB y) (by rw [← h.all]; exact List.mem_map.2 ⟨y, hy, rfl⟩))
theorem Rel9.len {s : Bool} {L : List Itm} {t : Tr} (h : Rel9 s L t) : L.length = t.all.length := by
 rw [← h.all, List.length_map]
end Go.Proofs.Ytdmgomknamdcfaa

/- Plain laws of prefixes: what covers, what two have in common, which side (layers 8, 9). No condition. -/
namespace Go.Proofs.Ytdmgomknamdcfaa
set_option linter.unusedVariables false
set_option linter.unusedSimpArgs false

theorem Px.good.len128 {p : Px} (h : p.good) : p.len.toNat ≤ 128 := by
 have h1 := h.le
 unfold mostF at h1
 split at h1 <;> omega
/-- a prefix's first bits are a prefix -/
def ofF (six : Bool) (a : List UInt8) (n : Nat) : Px := ⟨six, firstF a n, n⟩
theorem first_first (a : List UInt8) (n : Nat) : firstF (firstF a n) n = firstF a n := by
 refine abits_inj _ _ (by rw [firstF_length]) ?_
 rw [abits_first, abits_first, firstF_length]
 congr 1
 rcases Nat.le_total n (8 * a.length) with h | h
 ·rw [List.take_append_of_le_length (by rw [List.length_take, abits_length]; omega), List.take_take, Nat.min_self]
 rw [show 8 * a.length - n = 0 by omega]
 simp [List.take_take]
theorem ofF_good (six : Bool) (a : List UInt8) (n : Nat) (ha : a.length = 16) (hn : n ≤ mostF six) : (ofF six a n).good := by
 refine ⟨by show (firstF a n).length = 16; rw [firstF_length, ha], by show (0 : Int) ≤ (n : Int); omega, by show (n : Int) ≤ (mostF six : Int); omega, ?_⟩
 show firstF (firstF a n) ((n : Int)).toNat = firstF a n
 rw [Int.toNat_natCast]
 exact first_first a n
theorem mostF_le (six : Bool) : mostF six ≤ 128 := by unfold mostF; split <;> omega
theorem ofF_bits (six : Bool) (a : List UInt8) (n : Nat) (ha : a.length = 16) (hn : n ≤ mostF six) : (ofF six a n).bits = (abits a).take n := by
 have h128 := mostF_le six
 unfold Px.bits ofF
 simp only [Int.toNat_natCast]
 rw [abits_first, List.take_append_of_le_length (by rw [List.length_take, abits_length, ha]; omega), List.take_take, Nat.min_self]
theorem bits_take {p : Px} (hp : p.good) (n : Nat) (hn : n ≤ p.len.toNat) : (abits p.addr).take n = p.bits.take n := by
 unfold Px.bits
 rw [List.take_take, Nat.min_eq_left hn]
/-- what two prefixes have in common is a prefix -/
theorem common_ok {p q : Px} (hp : p.good) (n : Nat) (hn : n = (lcp p.bits q.bits).length) : (ofF p.six p.addr n).good ∧ (ofF p.six p.addr n).bits = lcp p.bits q.bits := by
 have h1 := lcp_left p.bits q.bits
 have h2 := h1.length_le
 rw [hp.bits_length] at h2
 have h3 := hp.le
 have h4 := hp.ge
 have hm : n ≤ mostF p.six := by omega
 refine ⟨ofF_good _ _ _ hp.addr hm, ?_⟩
 rw [ofF_bits _ _ _ hp.addr hm, bits_take hp n (by omega), hn]
 exact (List.prefix_iff_eq_take.1 h1).symm
theorem lcp_count : ∀ (x y : List Bool) (n : Nat), n ≤ x.length → n ≤ y.length → (∀ i, i < n → sideB x i = sideB y i) → (n = x.length ∨ n = y.length ∨ sideB x n ≠ sideB y n) → n = (lcp x y).length
 | [], y, n, h1, _, _, _ => by simp [lcp] at h1 ⊢; omega
 | a :: x, [], n, _, h2, _, _ => by simp [lcp] at h2 ⊢; omega
 | a :: x, b :: y, 0, _, _, _, h4 => by
  rcases h4 with h | h | h
  ·simp at h
  ·simp at h
  have : a ≠ b := by simpa [sideB] using h
  simp [lcp, this]
 | a :: x, b :: y, n + 1, h1, h2, h3, h4 => by
  have h0 := h3 0 (by omega)
  have e : a = b := by simpa [sideB] using h0
  have ih := lcp_count x y n (by simpa using h1) (by simpa using h2) (fun i hi => by simpa [sideB] using h3 (i + 1) (by omega)) (by
   rcases h4 with h | h | h
   ·exact .inl (by simpa using h)
   ·exact .inr (.inl (by simpa using h))
   exact .inr (.inr (by simpa [sideB] using h)))
  simp [lcp, e]
  exact ih
/-- a good prefix's bits are its address's -/
theorem side_addr {p : Px} (hp : p.good) (i : Nat) (hi : i < p.len.toNat) : bitF p.addr i = sideB p.bits i := by
 unfold bitF
 rw [hp.abits]
 unfold sideB
 rw [List.getD_eq_getElem?_getD, List.getD_eq_getElem?_getD, List.getElem?_append_left (by rw [hp.bits_length]; exact hi)]
/-- a prefix covers another one -/
theorem covers_iff {p q : Px} (hp : p.good) (hq : q.good) : (p.len ≤ q.len ∧ firstF p.addr p.len.toNat = firstF q.addr p.len.toNat) ↔ p.bits <+: q.bits := by
 have hl := hp.bits_length
 have hm := hq.bits_length
 have g1 := hp.ge
 have g2 := hq.ge
 constructor
 ·rintro ⟨h1, h2⟩
  have h3 := (has_bits hp q.addr hq.addr).1 h2
  rw [hq.abits] at h3
  exact List.prefix_of_prefix_length_le h3 (List.prefix_append _ _) (by omega)
 intro h
 have h1 := h.length_le
 refine ⟨by omega, (has_bits hp q.addr hq.addr).2 ?_⟩
 rw [hq.abits]
 exact h.trans (List.prefix_append _ _)
end Go.Proofs.Ytdmgomknamdcfaa


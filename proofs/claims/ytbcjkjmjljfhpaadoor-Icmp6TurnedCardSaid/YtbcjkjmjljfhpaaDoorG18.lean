/- Texts of this claim put together, in build order: each one's own remark stands ahead of it. -/
import Derived.Test.YtbcjkjmjljfhpaaDoorG03
import Derived.Laws.CopyRow
import Derived.Lib.SlBuf
import Derived.Test.YtbcjkjmjljfhpaaDoorG17
import Derived.Test.YtbcjkjmjljfhpaaDoorG07
import Derived.Test.YtbcjkjmjljfhpaaDoorG10
import Derived.Test.YtbcjkjmjljfhpaaDoorG06
import Derived.Deep.DeepCutAuto
/- copy onto a row of the call's own, and a string made bytes, as steps. No condition but sizes. -/
namespace Go.Proofs.YtbcjkjmjljfhpaaDoor
open Go.RowKit
set_option linter.unusedVariables false
set_option maxRecDepth 20000

theorem run_copy_Own {P : Program} {w : World} {base n c g B m dc sc : Nat} {e dT sT ty : TypeId} {xs ys : List Value} {X : Option Addr} (hu : P.underlying dT = some (.slice e)) (hs : (P.info? e).map (·.size) = some 1)
    (hown : Own w base e 1 (some ⟨g, 0, none⟩) n c xs) (k : Nat) (hm : 0 < m) (hk : k + m ≤ n) (hr : Row w B 1 X m ys) (h1 : ∀ v ∈ ys, v.oneCell' = true) :
    ∃ w', (Builtin.copy_ #[dT, sT] ty #[.slice (some ⟨g, k, none⟩) (n - k) dc, .slice X m sc]).run P w = .ok (goInt m) w' ∧ Own w' base e 1 (some ⟨g, 0, none⟩) n c (xs.take k ++ ys ++ xs.drop (k + m)) ∧ w.grownBy w' (some g) ∧ w'.heap.size = w.heap.size := by
  have hym : ys.length = m := by have := hr.1; omega
  have hxn : xs.length = n := by have := hown.len; omega
  obtain ⟨b, o, rfl, hbB, hcell⟩ := hr.2 hm
  rcases hown.own with ⟨h0, _⟩ | ⟨g', cur, hA, hb, hg, hcs, ht⟩
  · omega
  · obtain rfl : g = g' := by injection hA with hA; injection hA
    have hcap := hown.le
    have hrun := run_copy_row (P := P) w dT sT ty e g k (n - k) dc ⟨b, o, none⟩ m sc cur e ys hu hs hg (by rw [hym]; exact (Nat.min_eq_left (by omega)).symm) (fun j v hv => by
      have := hcell j v hv
      unfold Addr.add
      split
      · rename_i h0; subst h0; simpa using this
      · exact this) (by omega) h1
    rw [hym] at hrun
    refine ⟨_, hrun, ⟨?_, hown.le, hown.cap, .inr ⟨g, _, rfl, hb, setRow_heap w g cur _ e _ hg, ?_, ?_⟩⟩, ⟨rfl, rfl, rfl, by simp [World.setRow], fun i _ hne => setRow_other w g i _ (fun e => hne (by rw [e]))⟩, by simp [World.setRow]⟩
    · simp only [List.length_append, List.length_take, List.length_drop, hym, hxn]
      omega
    · simp only [List.size_toArray, List.length_append, List.length_take, List.length_drop, Array.length_toList, hym]
      omega
    · have ht' : cur.toList.take n = xs := by rw [← ht, Nat.mul_one]
      have e1 : cur.toList.take k = xs.take k := by rw [← ht', List.take_take, Nat.min_eq_left (by omega)]
      have e2 : cur.toList.drop (k + m) = xs.drop (k + m) ++ cur.toList.drop n := by
        have hl : n ≤ cur.toList.length := by rw [Array.length_toList]; omega
        have e3 : cur.toList.drop n = (cur.toList.drop (k + m)).drop (n - (k + m)) := by rw [List.drop_drop]; congr 1; omega
        rw [← ht', List.drop_take, e3, List.take_append_drop]
      show ((cur.toList.take k ++ ys) ++ cur.toList.drop (k + m)).take (n * 1) = _
      rw [e1, e2, ← List.append_assoc]
      exact List.take_left' (by simp only [List.length_append, List.length_take, List.length_drop, hym, hxn]; omega)

theorem wp_copy_Own {P : Program} {w : World} {o : Oper} {a : Act} {K : Act → World → Prop} {Q : Exit → Act → World → Prop} (d s : Operand) (dT sT : TypeId) (ho : o.op = .call { callee := .builtin .copy, args := #[d, s], argTypes := #[dT, sT] })
    {base n c g B m dc sc : Nat} {e : TypeId} {xs ys : List Value} {X : Option Addr} (hu : P.underlying dT = some (.slice e)) (hs : (P.info? e).map (·.size) = some 1)
    (k : Nat) (hd : a.eval d = .slice (some ⟨g, k, none⟩) (n - k) dc) (hsv : a.eval s = .slice X m sc) (hown : Own w base e 1 (some ⟨g, 0, none⟩) n c xs) (hm : 0 < m) (hk : k + m ≤ n) (hr : Row w B 1 X m ys) (h1 : ∀ v ∈ ys, v.oneCell' = true)
    (h : ∀ w', Own w' base e 1 (some ⟨g, 0, none⟩) n c (xs.take k ++ ys ++ xs.drop (k + m)) → w.grownBy w' (some g) → w'.heap.size = w.heap.size → K (a.put o.dst (goInt m)) w') : o.wp P a w K Q := by
  obtain ⟨w', hrun, h2, h3, h4⟩ := run_copy_Own (P := P) (ty := o.type) (sT := sT) (dc := dc) (sc := sc) hu hs hown k hm hk hr h1
  exact Lib.wp_copy_run w d s dT sT ho _ _ hd hsv hrun (h w' h2 h3 h4)
theorem wpList_copy_Own {P : Program} {w : World} {ops : Array Oper} {rest : List Oper} {o : Oper} {a : Act} {Q : Exit → Act → World → Prop} (hgd : Region.wanted o (yielded ops a.tmps) = true) (d s : Operand) (dT sT : TypeId) (ho : o.op = .call { callee := .builtin .copy, args := #[d, s], argTypes := #[dT, sT] })
    {base n c g B m dc sc : Nat} {e : TypeId} {xs ys : List Value} {X : Option Addr} (hu : P.underlying dT = some (.slice e)) (hs : (P.info? e).map (·.size) = some 1)
    (k : Nat) (hd : a.eval d = .slice (some ⟨g, k, none⟩) (n - k) dc) (hsv : a.eval s = .slice X m sc) (hown : Own w base e 1 (some ⟨g, 0, none⟩) n c xs) (hm : 0 < m) (hk : k + m ≤ n) (hr : Row w B 1 X m ys) (h1 : ∀ v ∈ ys, v.oneCell' = true)
    (h : ∀ w', Own w' base e 1 (some ⟨g, 0, none⟩) n c (xs.take k ++ ys ++ xs.drop (k + m)) → w.grownBy w' (some g) → w'.heap.size = w.heap.size → wpList P ops Q rest (a.put o.dst (goInt m)) w') : wpList P ops Q (o :: rest) a w :=
  wpList_wanted hgd fun _ hK => wp_copy_Own d s dT sT ho hu hs k hd hsv hown hm hk hr h1 fun w' a b c => hK _ _ (h w' a b c)

theorem wp_toBytes {P : Program} {w : World} {o : Oper} {a : Act} {K : Act → World → Prop} {Q : Exit → Act → World → Prop} (x : Operand) (S T e : TypeId)
    (ho : o.op = .convert S T x) (hT : P.underlying T = some (.slice e)) (he : P.underlying e = some (.int .u8)) (hS : P.underlying S = some .string)
    (l : List UInt8) (hx : a.eval x = str l) (hl : l.length ≤ maxLen)
    (h : ∀ A c w', (Bs.mk A l.length c l).ok w' → Below w.heap.size w w' → K (a.put o.dst (.slice A l.length c)) w') : o.wp P a w K Q := by
  have hrun := Lib.run_convert_string_bytes (P := P) w S T e ⟨l.toArray⟩ hS hT he
  have hsz : (ByteArray.mk l.toArray).size = l.length := by simp [ByteArray.size]
  have hh := h (some ⟨w.heap.size, 0, none⟩) (grownCap w (ByteArray.mk l.toArray).size 0 e) (Lib.bytesWorld w e ⟨l.toArray⟩) ⟨?_, ?_, ?_⟩ (bytesWorld_below _ _ _)
  · rw [← hsz] at hh
    unfold Oper.wp execOp
    simp only [ho, Sem.run_bind, Sem.run_pure, Result.andThen_ok, hx, hrun]
    exact hh
  · refine ⟨by rw [bv_length, Nat.mul_one], fun hn => ⟨w.heap.size, 0, rfl, by rw [Lib.bytesWorld_size]; omega, fun j u hu => ?_⟩⟩
    have hj : j < l.length := by
      rcases Nat.lt_or_ge j l.length with h' | h'
      · exact h'
      · rw [List.getElem?_eq_none (by rw [bv_length]; exact h')] at hu; cases hu
    rw [Nat.zero_add, Lib.bytesWorld_cell w e _ j (by rw [hsz]; exact hj)]
    rw [bv_get l j l[j] (List.getElem?_eq_getElem hj)] at hu
    rw [← hu]
    simp [List.getElem?_eq_getElem hj]
  · have := grownCap_ge w (ByteArray.mk l.toArray).size 0 e
    show l.length ≤ grownCap w (ByteArray.mk l.toArray).size 0 e
    omega
  · exact grownCap_le_maxLen _ _ _ _ (by omega)
end Go.Proofs.YtbcjkjmjljfhpaaDoor

/- What the program's and the reference's Body and Ttl of IPv4 compute. No condition but sizes. -/
namespace Go.Proofs.YtbcjkjmjljfhpaaDoor
open Go.RowKit
set_option linter.unusedVariables false
set_option maxRecDepth 20000
set_option linter.unusedSimpArgs false

/-- what stands behind the header -/
def body4 (l : List UInt8) : List UInt8 := if (par4 l).2 = 0 then (l.take (par4 l).1.len.toNat).drop (20 + (par4 l).1.opt.length) else []
theorem par4_fit (l : List UInt8) (h4 : H4) (hp : par4 l = (h4, 0)) : ∃ L S : Nat, h4.len = (L : Nat) ∧ 20 + h4.opt.length = S ∧ S ≤ L ∧ L ≤ l.length ∧ 20 ≤ l.length ∧ S ≤ 60 ∧ numF l 2 2 = L := by
  unfold par4 at hp
  split at hp
  · injection hp with _ h; cases h
  split at hp
  · injection hp with _ h; cases h
  split at hp
  · injection hp with _ h; cases h
  split at hp
  · injection hp with _ h; cases h
  rename_i h1 h2 h3 h5
  injection hp with h _
  subst h
  refine ⟨numF l 2 2, 20 + ((l.take (size4n l)).drop 20).length, rfl, rfl, ?_, ?_, ?_, ?_, rfl⟩
  all_goals try simp only [List.length_drop, List.length_take]
  · omega
  · omega
  · omega
  · have : size4n l ≤ 60 := by unfold size4n; omega
    omega
theorem addr_add (b o k : Nat) : Option.map (fun x : Addr => x.add k) (some ⟨b, o, none⟩) = some ⟨b, o + k, none⟩ := by
  show some (Addr.add ⟨b, o, none⟩ k) = _
  unfold Addr.add
  split
  · rename_i h0; rw [h0]; rfl
  · rfl

/-- a checksum where a word was another one -/
def turnN (c o n : Nat) : Nat := 65535 - foldN (65535 - c + (65535 - o) + n)
theorem turnN_le (c o n : Nat) : turnN c o n ≤ 65535 := by unfold turnN; omega
theorem turnN_eq (c o n : Nat) (h1 : c ≤ 65535) (h2 : o ≤ 65535) : 65535 - foldN (65535 - (c : Int) + (65535 - (o : Int)) + (n : Int)).toNat = turnN c o n := by
  unfold turnN
  congr 2
  omega
/-- a packet with another time to live, ahead of its checksum -/
def ttlA (l : List UInt8) (t : Int) : List UInt8 := l.take 8 ++ ub t :: l.drop 9
/-- its checksum -/
def ttlC (l : List UInt8) (t : Int) : Nat := turnN (numF l 10 2) (numF l 8 2) (numF (ttlA l t) 8 2)
/-- a packet with another time to live -/
def ttl4 (l : List UInt8) (t : Int) : List UInt8 := if (par4 l).2 = 0 then (ttlA l t).take 10 ++ toBe 2 (ttlC l t) ++ (ttlA l t).drop 12 else []
theorem ttlA_length (l : List UInt8) (t : Int) (h : 20 ≤ l.length) : (ttlA l t).length = l.length := by
  unfold ttlA
  simp only [List.length_append, List.length_take, List.length_cons, List.length_drop]
  omega

theorem row_ints {e : TypeId} (w : World) (cs : Array Value) (xs : List Int) (n g : Nat) (h : cs.toList = xs.map (Value.int .i64)) (hn : xs.length = n) (hg : w.heap.size = g) : Row (w.alloc (.cells cs e)) (w.alloc (.cells cs e)).heap.size 1 (some ⟨g, 0, none⟩) n (xs.map (Value.int .i64)) := by
  subst hg
  have hsz : cs.size = n * 1 := by rw [← Array.length_toList, h]; simp [hn]
  have := Row.new (e := e) w cs hsz
  rw [h] at this
  rw [World.size_alloc]
  exact this
/-- a literal row of ints, of its own block, not older than base -/
def IntsR (base k : Nat) (xs : List Int) (v : Value) (W : World) : Prop := ∃ p, v = .slice (some ⟨p, 0, none⟩) k k ∧ base ≤ p ∧ Row W W.heap.size 1 (some ⟨p, 0, none⟩) k (xs.map (Value.int .i64))
theorem mono_ints (base k : Nat) (xs : List Int) : ∀ v A B, IntsR base k xs v A → World.grownBy A B none → IntsR base k xs v B := fun _ _ _ ⟨p, h, hp, hr⟩ hg => ⟨p, h, hp, (hr.below (grow_below hg)).more hg.size⟩
/-- bytes of the call's own, so many -/
def OwnB (base m : Nat) (l : List UInt8) (v : Value) (W : World) : Prop := ∃ A' c', v = .slice A' m c' ∧ Own W base 5 1 A' m c' (bv l)
theorem mono_ownB (base m : Nat) (l : List UInt8) : ∀ v A B, OwnB base m l v A → World.grownBy A B none → OwnB base m l v B := fun _ _ _ ⟨X, c, h, ho⟩ hg => ⟨X, c, h, ho.below (grow_below hg)⟩

theorem ttlA_num (l : List UInt8) (t : Int) (h0 : 0 ≤ t) (h1 : t ≤ 255) (u9 : UInt8) (hu : l[9]? = some u9) : numF (ttlA l t) 8 2 = (256 * t + (u9.toNat : Int)).toNat := by
  have hl : 9 < l.length := (List.getElem?_eq_some_iff.1 hu).1
  have e : ttlA l t = l.take 8 ++ [ub t, u9] ++ l.drop 10 := by
    unfold ttlA
    rw [List.drop_eq_getElem_cons hl]
    have : l[9] = u9 := by
      have := List.getElem?_eq_some_iff.1 hu
      exact this.2
    rw [this]
    simp
  rw [e, numF_mid _ _ _ 8 2 (by rw [List.length_take]; omega) rfl]
  simp only [be, List.foldl_cons, List.foldl_nil]
  have := ub_nat t h0 h1
  omega
theorem ttlA_cut (l : List UInt8) (t : Int) (u9 : UInt8) (hu : l[9]? = some u9) : (ttlA l t).take 10 = l.take 8 ++ [ub t, u9] ∧ (ttlA l t).drop 12 = l.drop 12 := by
  have hl : 9 < l.length := (List.getElem?_eq_some_iff.1 hu).1
  have e : ttlA l t = l.take 8 ++ [ub t, u9] ++ l.drop 10 := by
    unfold ttlA
    rw [List.drop_eq_getElem_cons hl]
    have : l[9] = u9 := by
      have := List.getElem?_eq_some_iff.1 hu
      exact this.2
    rw [this]
    simp
  have h10 : (l.take 8 ++ [ub t, u9]).length = 10 := by simp; omega
  refine ⟨by rw [e]; exact List.take_left' h10, ?_⟩
  rw [e, show (12 : Nat) = 10 + 2 from rfl, ← List.drop_drop, List.drop_left' h10, List.drop_drop]
end Go.Proofs.YtbcjkjmjljfhpaaDoor

/- What the program's Put of IPv4 computes. No condition but sizes. -/
namespace Go.Proofs.YtbcjkjmjljfhpaaDoor
open Go.RowKit
set_option linter.unusedVariables false
set_option maxRecDepth 20000
set_option linter.unusedSimpArgs false

/-- a header's numbers are those of its fields' kinds -/
structure H4.fit (h : H4) : Prop where
  ok : h.ok
  tos : 0 ≤ h.tos ∧ h.tos ≤ 255
  len : -9223372036854775808 ≤ h.len ∧ h.len ≤ 9223372036854775807
  id : 0 ≤ h.id ∧ h.id ≤ 65535
  off : -9223372036854775808 ≤ h.off ∧ h.off ≤ 9223372036854775807
  ttl : 0 ≤ h.ttl ∧ h.ttl ≤ 255
  pro : 0 ≤ h.pro ∧ h.pro ≤ 255
  opt : h.opt.length ≤ 9223372036854775807
/-- a header may not be put -/
def H4.bad (h : H4) : Prop := 40 < h.opt.length ∨ h.opt.length % 4 ≠ 0 ∨ h.off < 0 ∨ 8192 ≤ h.off
instance (h : H4) : Decidable h.bad := by unfold H4.bad; infer_instance
def flag4 (h : H4) : Int := h.off + (if h.keep then 16384 else 0) + (if h.more then 8192 else 0)
def word0 (h : H4) : Int := (64 + ((20 + h.opt.length : Nat) : Int) / 4) * 256 + h.tos
def word4 (h : H4) : Int := h.ttl * 256 + h.pro
/-- the header's bytes ahead of the checksum, and behind it -/
def hdA (h : H4) (all : Nat) : List UInt8 := twos [word0 h, (all : Int), h.id, flag4 h, word4 h]
def bk4 (h : H4) : List UInt8 := h.src ++ h.dst ++ h.opt
def sumC (h : H4) (all : Nat) : Nat := 65535 - rawN (hdA h all ++ bk4 h)
/-- a packet's header, and a packet -/
def head4 (h : H4) (all : Nat) : List UInt8 := hdA h all ++ toBe 2 (sumC h all) ++ bk4 h
def pkt4 (h : H4) (l : List UInt8) : List UInt8 := head4 h (20 + h.opt.length + l.length) ++ l
def put4 (h : H4) (l : List UInt8) : List UInt8 × Int :=
  if h.bad then ([], 1) else if 65535 < 20 + h.opt.length + l.length then ([], 13) else (pkt4 h l, 0)
theorem hdA_length (h : H4) (all : Nat) : (hdA h all).length = 10 := twos_length _
theorem bk4_length (h : H4) (hk : h.ok) : (bk4 h).length = 8 + h.opt.length := by simp only [bk4, List.length_append, hk.src, hk.dst]
theorem head4_length (h : H4) (hk : h.ok) (all : Nat) : (head4 h all).length = 20 + h.opt.length := by
  simp only [head4, List.length_append, hdA_length, toBe_length, bk4_length h hk]; omega
theorem pkt4_length (h : H4) (hk : h.ok) (l : List UInt8) : (pkt4 h l).length = 20 + h.opt.length + l.length := by
  simp only [pkt4, List.length_append, head4_length h hk]
theorem raw_mid (X Y : List UInt8) (hX : X.length % 2 = 0) : rawN (X ++ [0, 0] ++ Y) = rawN (X ++ Y) := by
  unfold rawN
  rw [sumB_append, sumB_append, sumB_append, sumB_zeros]
  unfold oddB
  simp [hX]

theorem head4_cut (X T Y : List UInt8) (hX : X.length = 10) : (X ++ [0, 0] ++ Y).take 10 ++ T ++ (X ++ [0, 0] ++ Y).drop (10 + 2) = X ++ T ++ Y := by
  rw [List.append_assoc X, List.take_left' hX, ← List.drop_drop, List.drop_left' hX]
  rfl
theorem or_64 (q : Int) (h0 : 0 ≤ q) (h1 : q ≤ 63) : bits .or .i64 64 q = 64 + q := by
  obtain ⟨q, rfl⟩ := Int.eq_ofNat_of_zero_le h0
  have := i64_or_nat 64 q (by omega) (by omega)
  rw [nat_join 6 64 q (by omega) (by omega)] at this
  rw [show (64 : Int) = ((64 : Nat) : Int) from rfl, this]
  omega
theorem or_byte (a b : Int) (h0 : 0 ≤ a) (h1 : a ≤ 65535) (h2 : 0 ≤ b) (h3 : b ≤ 255) : bits .or .i64 (a * 256) b = a * 256 + b := by
  obtain ⟨a, rfl⟩ := Int.eq_ofNat_of_zero_le h0
  obtain ⟨b, rfl⟩ := Int.eq_ofNat_of_zero_le h2
  have := i64_or_nat (a * 256) b (by omega) (by omega)
  rw [nat_join 8 _ _ (by omega) (by omega)] at this
  rw [show (a : Int) * 256 = ((a * 256 : Nat) : Int) by omega, this]
  omega
theorem or_keep (q : Int) (h0 : 0 ≤ q) (h1 : q < 8192) : bits .or .i64 q 16384 = q + 16384 := by
  obtain ⟨q, rfl⟩ := Int.eq_ofNat_of_zero_le h0
  have := i64_or_nat q 16384 (by omega) (by omega)
  rw [Nat.or_comm, nat_join 14 16384 q (by omega) (by omega)] at this
  rw [show (16384 : Int) = ((16384 : Nat) : Int) from rfl, this]
  omega
theorem or_more (q : Int) (h0 : 0 ≤ q) (h1 : q < 8192) : bits .or .i64 q 8192 = q + 8192 := by
  obtain ⟨q, rfl⟩ := Int.eq_ofNat_of_zero_le h0
  have := i64_or_nat q 8192 (by omega) (by omega)
  rw [Nat.or_comm, nat_join 13 8192 q (by omega) (by omega)] at this
  rw [show (8192 : Int) = ((8192 : Nat) : Int) from rfl, this]
  omega
theorem or_both (q : Int) (h0 : 0 ≤ q) (h1 : q < 8192) : bits .or .i64 (q + 16384) 8192 = q + 16384 + 8192 := by
  obtain ⟨q, rfl⟩ := Int.eq_ofNat_of_zero_le h0
  have h := i64_or_nat (q + 16384) 8192 (by omega) (by omega)
  have e : (q + 16384) ||| 8192 = q + 16384 + 8192 := by
    have h1 := nat_join 14 16384 q (by omega) (by omega)
    have h2 := nat_join 13 8192 q (by omega) (by omega)
    rw [show q + 16384 = 16384 + q by omega, ← h1, Nat.or_assoc, Nat.or_comm q 8192, h2, nat_join 14 16384 (8192 + q) (by omega) (by omega)]
    omega
  rw [e] at h
  rw [show ((q : Int) + 16384) = ((q + 16384 : Nat) : Int) by omega, show (8192 : Int) = ((8192 : Nat) : Int) from rfl, h]
  omega
end Go.Proofs.YtbcjkjmjljfhpaaDoor

/- What the reference's Put of IPv4 computes. No condition but sizes. -/
namespace Go.Proofs.YtbcjkjmjljfhpaaDoor
open Go.RowKit
set_option linter.unusedVariables false
set_option maxRecDepth 20000
set_option linter.unusedSimpArgs false

theorem two_ub (a b : Int) (h0 : 0 ≤ a) (h1 : a ≤ 255) (h2 : 0 ≤ b) (h3 : b ≤ 255) : toBe 2 (a * 256 + b).toNat = [ub a, ub b] := by
  rw [toBe2 _ (by omega)]
  have e1 : (a * 256 + b).toNat / 256 = a.toNat := by omega
  have e2 : (a * 256 + b).toNat % 256 = b.toNat := by omega
  rw [e1, e2]
  rfl
theorem hdA_eq (h : H4) (hf : h.fit) (hx : ¬ h.bad) (all : Nat) : hdA h all = [ub (64 + ((20 + h.opt.length : Nat) : Int) / 4), ub h.tos] ++ toBe 2 all ++ toBe 2 h.id.toNat ++ toBe 2 (flag4 h).toNat ++ [ub h.ttl, ub h.pro] := by
  unfold H4.bad at hx
  have h1 : toBe 2 (word0 h).toNat = [ub (64 + ((20 + h.opt.length : Nat) : Int) / 4), ub h.tos] := two_ub _ _ (by omega) (by omega) hf.tos.1 hf.tos.2
  have h2 : toBe 2 (word4 h).toNat = [ub h.ttl, ub h.pro] := two_ub _ _ hf.ttl.1 hf.ttl.2 hf.pro.1 hf.pro.2
  simp [hdA, twos, h1, h2]
theorem ba_cat (X Y : List UInt8) : ByteArray.mk X.toArray ++ ByteArray.mk Y.toArray = ByteArray.mk (X ++ Y).toArray := by rw [ba_append]; simp
end Go.Proofs.YtbcjkjmjljfhpaaDoor

/- What the small functions of the references 23 and 24 compute. No condition but sizes. -/
namespace Go.Proofs.YtbcjkjmjljfhpaaDoor
open Go.RowKit
set_option linter.unusedVariables false
set_option maxRecDepth 20000
set_option linter.unusedSimpArgs false

def frontK (k : Int) : List UInt8 := if k = 0 then [11, 0] else if k = 1 then [3, 4] else [3, 0]
def zerosN (n : Nat) : List UInt8 := List.replicate n 0
def begin23 (s : List UInt8) (full : Bool) : List UInt8 := if 128 < s.length then s.take 128 else if full then s ++ zerosN (128 - s.length) else s
def begin24 (s : List UInt8) (full : Bool) : List UInt8 := if full then begin23 s true else s.take 1232
theorem frontK_length (k : Int) : (frontK k).length = 2 := by
  unfold frontK
  split
  · rfl
  · split <;> rfl
theorem begin23_le (s : List UInt8) (f : Bool) : (begin23 s f).length ≤ 128 := by
  unfold begin23
  split
  · simp; omega
  · split
    · simp [zerosN]; omega
    · omega
theorem begin24_le (s : List UInt8) (f : Bool) : (begin24 s f).length ≤ 1232 := by
  unfold begin24
  split
  · have := begin23_le s true; omega
  · simp; omega

set_option maxHeartbeats 1000000 in
theorem zeros_any (n : Nat) (hn : n ≤ 1000) (w : World) :
    Calls Tryd.prog 64 #[.int .i64 (n : Int)] w fun e w' => e = .returned (str (zerosN n)) ∧ w = w' := by
  go_enter Tryd.func64, Tryd.ntmps64
  go_wp2_with fail
  go_loop [3, 4] (fun s i => ∃ k : Nat, k ≤ n ∧ i = .int .i64 k ∧ s = str (zerosN k)) (fun _ i => n - (intOf i).toNat)
  case atStart => exact ⟨0, by omega, rfl, rfl⟩
  case round =>
    obtain ⟨k, hk, rfl, rfl⟩ := hrel
    by_cases hlt : k < n
    · have hz : (zerosN k).length = k := by simp [zerosN]
      have HZ : Hid (zerosN (k + 1) = zerosN k ++ [0]) := Lib.hid (by simp [zerosN, List.replicate_succ'])
      obtain ⟨S, hS⟩ : ∃ S, zerosN k = S := ⟨_, rfl⟩
      rw [hS] at hz HZ ⊢
      clear hS
      go_wp2_with (refine wpList_value (by rfl) (exec_add _ _ _ _ rfl Tryd.underlying9 S [0] rfl rfl (by simp; omega)) ?_)
      go_round
      case rel => exact ⟨k + 1, by omega, by simp, by rw [HZ.out]⟩
      case measure => simp [intOf]; omega
    · obtain rfl : k = n := by omega
      go_wp2_with fail
      go_ret
      exact ⟨rfl, rfl⟩

set_option maxHeartbeats 1000000 in
theorem begin23_any (s : List UInt8) (full : Bool) (hn : s.length ≤ 1099511627776) (w : World) :
    Calls Tryd.prog 41 #[str s, .bool full] w fun e w' => e = .returned (str (begin23 s full)) ∧ w = w' := by
  by_cases h : 128 < s.length
  · have h' : (128 : Int) < (s.length : Int) := by omega
    have h3 : ¬ (s.length : Int) < 128 := by omega
    have hv : begin23 s full = s.take 128 := by unfold begin23; rw [if_pos h]
    have HV := Lib.hid hv
    clear hv
    go_enter Tryd.func41, Tryd.ntmps41
    go_wp2_with fail
    go_ret
    exact ⟨by rw [HV.out]; simp [str_ex], rfl⟩
  · have h' : ¬ (128 : Int) < (s.length : Int) := by omega
    cases full
    · have hv : begin23 s false = s := by unfold begin23; rw [if_neg h]; rfl
      have HV := Lib.hid hv
      clear hv
      go_enter Tryd.func41, Tryd.ntmps41
      go_wp2_with fail
      go_ret
      exact ⟨by rw [HV.out]; rfl, rfl⟩
    · have hv : begin23 s true = s ++ zerosN (128 - s.length) := by unfold begin23; rw [if_neg h]; rfl
      have HV := Lib.hid hv
      clear hv
      obtain ⟨m, hm⟩ : ∃ m, 128 - s.length = m := ⟨_, rfl⟩
      rw [hm] at HV
      have hmi : (128 : Int) - (s.length : Int) = (m : Int) := by omega
      have hwr : IntKind.i64.wrap ((128 : Int) - (s.length : Int)) = (m : Int) := by rw [IntKind.wrap_i64]; omega
      have hzl : (zerosN m).length = m := by simp [zerosN]
      go_enter Tryd.func41, Tryd.ntmps41
      go_wp2_with fail
      refine (zeros_any m (by omega) w).mono ?_
      rintro e w' ⟨rfl, rfl⟩
      obtain ⟨Z, hZ⟩ : ∃ Z, zerosN m = Z := ⟨_, rfl⟩
      rw [hZ] at HV hzl ⊢
      go_wp2_with (refine wpList_value (by rfl) (exec_add _ _ _ _ rfl Tryd.underlying9 s Z rfl rfl (by omega)) ?_)
      go_ret
      exact ⟨by rw [HV.out]; rfl, rfl⟩

set_option maxHeartbeats 1000000 in
theorem begin24_any (s : List UInt8) (full : Bool) (hn : s.length ≤ 1099511627776) (w : World) :
    Calls Tryd.prog 16 #[str s, .bool full] w fun e w' => e = .returned (str (begin24 s full)) ∧ w = w' := by
  cases full
  · obtain ⟨m, hm⟩ : ∃ m, m = min s.length 1232 := ⟨_, rfl⟩
    have hv : begin24 s false = s.take m := by
      unfold begin24
      rw [if_neg (by simp), hm]
      rcases Nat.le_total s.length 1232 with h | h
      · rw [Nat.min_eq_left h, List.take_of_length_le h, List.take_of_length_le (Nat.le_refl _)]
      · rw [Nat.min_eq_right h]
    have HV := Lib.hid hv
    have hmm : min (s.length : Int) 1232 = (m : Int) := by omega
    have hms : m ≤ s.length := by omega
    clear hv hm
    go_enter Tryd.func16, Tryd.ntmps16
    go_wp2_with fail
    go_ret
    exact ⟨by rw [HV.out]; simp [str_ex], rfl⟩
  · have HV := Lib.hid (show begin24 s true = begin23 s true from rfl)
    go_enter Tryd.func16, Tryd.ntmps16
    go_wp2_with fail
    refine (begin23_any s true hn w).mono ?_
    rintro e w' ⟨rfl, rfl⟩
    obtain ⟨Z, hZ⟩ : ∃ Z, begin23 s true = Z := ⟨_, rfl⟩
    rw [hZ] at HV ⊢
    go_wp2_with fail
    go_ret
    exact ⟨by rw [HV.out]; rfl, rfl⟩
end Go.Proofs.YtbcjkjmjljfhpaaDoor

/- What the reference's Put of errors of IPv4 (layer 23) computes. No condition but sizes. -/
namespace Go.Proofs.YtbcjkjmjljfhpaaDoor
open Go.RowKit
set_option linter.unusedVariables false
set_option maxRecDepth 20000
set_option linter.unusedSimpArgs false

/-- an error -/
structure Mm where
  kind : Int
  mtu : Int
  beg : List UInt8
  A : Option Addr
  n : Nat
  c : Nat
  st : List Ent
def Mm.cells (m : Mm) : List Value := [.int .i64 m.kind, .int .i64 m.mtu, str m.beg, .slice m.A m.n m.c]
structure Mm.ok (w : World) (m : Mm) : Prop where
  kind : -9223372036854775808 ≤ m.kind ∧ m.kind ≤ 9223372036854775807
  mtu : -9223372036854775808 ≤ m.mtu ∧ m.mtu ≤ 9223372036854775807
  beg : m.beg.length ≤ 9223372036854775807
  row : Row w w.heap.size 4 m.A m.n (evs m.st)
  le : m.n ≤ m.c
  cap : m.c ≤ maxLen
  fit : ∀ x ∈ m.st, x.fit
def Mm.bad (m : Mm) : Prop := m.kind < 0 ∨ 2 < m.kind ∨ m.mtu < 0 ∨ 65535 < m.mtu ∨ (m.kind ≠ 1 ∧ 0 < m.mtu)
instance (m : Mm) : Decidable m.bad := by unfold Mm.bad; infer_instance
def lb23 (n : Nat) : List UInt8 := if n = 0 then [0] else [32]
def ext23 (n : Nat) (l : List UInt8) : List UInt8 := if n = 0 then [] else l
def rest23 (m : Mm) : List UInt8 := [0] ++ lb23 m.n ++ toBe 2 m.mtu.toNat ++ begin23 m.beg (decide (0 < m.n)) ++ ext23 m.n (stack22 m.st).1
def body23 (m : Mm) : List UInt8 := frontK m.kind ++ toBe 2 (65535 - rawN (frontK m.kind ++ [0, 0] ++ rest23 m)) ++ rest23 m
def head23 (src dst : List UInt8) : H4 := ⟨192, 0, 0, false, false, 0, 255, 1, src, dst, []⟩
theorem head23_fit (src dst : List UInt8) (hs : src.length = 4) (hd : dst.length = 4) : (head23 src dst).fit := ⟨⟨hs, hd⟩, by simp [head23], by simp [head23], by simp [head23], by simp [head23], by simp [head23], by simp [head23], by simp [head23]⟩
def put23 (m : Mm) (src dst : List UInt8) : List UInt8 × Int :=
  if m.bad then ([], 1) else if (stack22 m.st).2 ≠ 0 then ([], (stack22 m.st).2) else put4 (head23 src dst) (body23 m)

theorem ext23_le (n : Nat) (l : List UInt8) : (ext23 n l).length ≤ l.length := by
  unfold ext23
  split
  · simp
  · exact Nat.le_refl _
theorem lb23_length (n : Nat) : (lb23 n).length = 1 := by
  unfold lb23
  split <;> rfl
theorem stack22_le (l : List Ent) : (stack22 l).1.length ≤ 80 := by
  unfold stack22
  split
  · simp
  · split
    · rename_i h h2
      have hg : ∀ x ∈ l, x.good := fun x hx => by have := List.all_eq_true.1 h2 x hx; simpa using this
      have hl := packs_len l hg
      rw [hd22_length, obB_length]
      simp only
      omega
    · simp
theorem rest23_le (m : Mm) : (rest23 m).length ≤ 212 := by
  have h1 := begin23_le m.beg (decide (0 < m.n))
  have h2 := ext23_le m.n (stack22 m.st).1
  have h3 := stack22_le m.st
  have h4 := lb23_length m.n
  simp only [rest23, List.length_append, toBe_length, h4, List.length_cons, List.length_nil]
  omega
theorem body23_le (m : Mm) : (body23 m).length ≤ 216 := by
  have := rest23_le m
  simp only [body23, List.length_append, toBe_length, frontK_length]
  omega
end Go.Proofs.YtbcjkjmjljfhpaaDoor


/- Small lemmas that the texts on packets share: structs compared, numbers at a place, pieces of strings. No condition. -/
import Derived.Test.YtbabkcdhihmomaaBlk
import Derived.Test.YtbabkcdhihmomaaOctet
import Derived.Test.YtbabkcdhihmomaaRef01
import Derived.Test.YtbabkcdhihmomaaRel
import Derived.Stop.BytesEq
namespace Go.Proofs.Ytbabkcdhihmomaa
open Go.RowKit
set_option linter.unusedVariables false
set_option maxRecDepth 20000
set_option linter.unusedSimpArgs false

section
variable {P : Program} {w : World}
theorem eqF_cons {f : Field} {fs : List Field} {xs ys : Array Value} {d : Nat} {x y : Value} (hn : f.name ≠ "_") (hx : (part f.type xs f.offset).run P w = .ok x w) (hy : (part f.type ys f.offset).run P w = .ok y w)
    (he : (Op.equalIn d f.type x y).run P w = .ok true w) (h : (Op.eqFields d xs ys fs).run P w = .ok true w) : (Op.eqFields d xs ys (f :: fs)).run P w = .ok true w := by
  rw [Op.eqFields, if_pos hn]
  simp only [Sem.run_bind, hx, hy, he, Result.andThen_ok, Bool.not_true, Bool.false_eq_true, if_false, h]
theorem eqF_nil {xs ys : Array Value} {d : Nat} : (Op.eqFields d xs ys []).run P w = .ok true w := rfl
theorem part_one {t : TypeId} {cs : List Value} {off : Nat} {v : Value} (ha : (isAgg t).run P w = .ok false w) (h : cs[off]? = some v) : (part t cs.toArray off).run P w = .ok v w := by
  unfold part
  simp only [Sem.run_bind, ha, Result.andThen_ok, Bool.false_eq_true, if_false, List.getElem?_toArray, h, Sem.run_pure]
theorem part_arr {t : TypeId} {cs : List Value} {off n : Nat} (ha : (isAgg t).run P w = .ok true w) (hs : (sizeOf t).run P w = .ok n w) : (part t cs.toArray off).run P w = .ok (.agg ((cs.drop off).take n).toArray) w := by
  unfold part
  simp only [Sem.run_bind, ha, Result.andThen_ok, if_true, hs, Sem.run_pure]
  congr 2
  apply Array.ext'
  simp [List.extract_eq_take_drop]
theorem eq_int {t : TypeId} {k : IntKind} {d : Nat} (h : P.underlying t = some (.int k)) (q : IntKind) (a : Int) : (Op.equalIn (d + 1) t (.int q a) (.int q a)).run P w = .ok true w := by
  rw [run_equalIn_int w d t q k a a h]
  simp
theorem eq_bool {t : TypeId} {d : Nat} (h : P.underlying t = some .bool) (a : Bool) : (Op.equalIn (d + 1) t (.bool a) (.bool a)).run P w = .ok true w := by
  rw [run_equalIn_bool' w d t a a h]
  simp
theorem eq_str {t : TypeId} {d : Nat} (h : P.underlying t = some .string) (a : ByteArray) : (Op.equalIn (d + 1) t (.string a) (.string a)).run P w = .ok true w := by
  rw [run_equalIn_string w d t a a h]
  simp
theorem eq_bytes {t e : TypeId} {n d : Nat} (ht : P.underlying t = some (.array n e)) (he : P.underlying e = some (.int .u8)) (hsz : ∀ w, (sizeOf e).run P w = .ok 1 w) (l : List UInt8) (hl : l.length = n) :
    (Op.equalIn (d + 2) t (.agg (bv l).toArray) (.agg (bv l).toArray)).run P w = .ok true w := by
  have := run_equalIn_bytes w d t e n ht he hsz l l hl hl
  simp only [BEq.rfl] at this
  exact this
end

theorem below_drew (w : World) : Below w.heap.size w w.drew := below_drewN (Below.refl _ _) 1
theorem be_bd (l : List UInt8) (n : Nat) (h : l.length ≤ n) : be l < 256 ^ n := Nat.lt_of_lt_of_le (be_lt l) (Nat.pow_le_pow_right (by omega) h)

/-- the number of so many bytes at a place -/
def numF (l : List UInt8) (i s : Nat) : Nat := be ((l.drop i).take s)
theorem numF_bd (l : List UInt8) (i s : Nat) : numF l i s < 256 ^ s := be_bd _ _ (by rw [List.length_take]; omega)

theorem bgrown {B : Nat} {w0 w w' : World} {g : Nat} (h : Below B w0 w) (hg : w.grownBy w' (some g)) (hB : B ≤ w.heap.size) (hb : B ≤ g) : Below B w0 w' := h.grown hg hB (fun k hk => by injection hk with hk; omega)
theorem str_drop (l : List UInt8) (i : Nat) : Value.string ((ByteArray.mk l.toArray).extract i l.length) = str (l.drop i) := by
  unfold str
  congr 1
  apply ByteArray.ext
  simp
  rw [List.take_of_length_le (by rw [List.length_drop]; omega)]

theorem str_ex (l : List UInt8) (i j : Nat) : (ByteArray.mk l.toArray).extract i j = ByteArray.mk ((l.take j).drop i).toArray := by
  apply ByteArray.ext
  simp [List.drop_take]

theorem set_bv (l : List UInt8) (k : Nat) (t : Int) (h0 : 0 ≤ t) (h1 : t ≤ 255) (hk : k < l.length) : (bv l).set k (.int .u8 t) = bv (l.take k ++ UInt8.ofNat t.toNat :: l.drop (k + 1)) := by
  have e : l = l.take k ++ l[k] :: l.drop (k + 1) := by rw [← List.drop_eq_getElem_cons hk, List.take_append_drop]
  conv => lhs; rw [e]
  simp only [bv, List.map_append, List.map_cons]
  rw [set_mid _ _ _ _ _ (by simp; omega), u8_of t h0 h1]

def ub (x : Int) : UInt8 := UInt8.ofNat x.toNat

theorem row_litN {e : TypeId} (w : World) (cs : Array Value) (l : List UInt8) (n g : Nat) (h : cs.toList = bv l) (hn : l.length = n) (hg : w.heap.size = g) : Row (w.alloc (.cells cs e)) (w.alloc (.cells cs e)).heap.size 1 (some ⟨g, 0, none⟩) n (bv l) := by
  subst hg
  rw [World.size_alloc]
  exact row_lit w cs l n h hn
theorem row_ne {w : World} {B n g : Nat} {t : TypeId} {cs xs : List Value} {A : Option Addr} (h : Row w B 1 A n xs) (hb : Blk w g t cs) (hn : cs.length < n) : ∀ b o, A = some ⟨b, o, none⟩ → b ≠ g := by
  intro b o hA e
  obtain ⟨b', o', hA', _, hc⟩ := h.2 (by omega)
  rw [hA] at hA'
  cases hA'
  subst e
  have hl : xs.length = n := by have := h.1; omega
  have := hc (n - 1) _ (List.getElem?_eq_getElem (by omega))
  rw [hb.cell, List.getElem?_eq_none (by omega)] at this
  cases this
theorem be_toBe (s m : Nat) : be (toBe s m) = m % 256 ^ s := by
  induction s generalizing m with
  | zero => simp [toBe, be, Nat.mod_one]
  | succ s ih =>
    rw [toBe, be_snoc, ih, UInt8.toNat_ofNat', Nat.mod_eq_of_lt (show m % 256 < 2 ^ 8 by omega), Nat.pow_succ, Nat.mul_comm (256 ^ s) 256, Nat.mod_mul]
    omega
theorem numF_mid (X Y Z : List UInt8) (i s : Nat) (hX : X.length = i) (hY : Y.length = s) : numF (X ++ Y ++ Z) i s = be Y := by
  unfold numF
  rw [List.append_assoc, List.drop_left' hX, List.take_left' hY]
theorem ub_nat (x : Int) (h0 : 0 ≤ x) (h1 : x ≤ 255) : (((ub x).toNat : Nat) : Int) = x := u8_of x h0 h1

/-- a slice of bytes of its own block, not older than base -/
def OwnR (base : Nat) (l : List UInt8) (v : Value) (W : World) : Prop := ∃ A n c, v = .slice A n c ∧ Own W base 5 1 A n c (bv l)
theorem mono_own (base : Nat) (l : List UInt8) : ∀ v A B, OwnR base l v A → World.grownBy A B none → OwnR base l v B := fun _ _ _ ⟨X, n, c, h, ho⟩ hg => ⟨X, n, c, h, ho.below (grow_below hg)⟩

end Go.Proofs.Ytbabkcdhihmomaa

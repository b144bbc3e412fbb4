/- What stands ahead of a message in the sum: sum.Pseudo. No condition but sizes. -/
import Derived.Test.YtbabkcdhihmomaaSum
import Derived.Test.YtbabkcdhihmomaaConcat
namespace Go.Proofs.Ytbabkcdhihmomaa
open Go.RowKit
set_option linter.unusedVariables false
set_option maxRecDepth 20000

theorem put_mid {α : Type} (X Y Z T : List α) (a b : Nat) (ha : X.length = a) (hb : a + Y.length = b) : (X ++ Y ++ Z).take a ++ T ++ (X ++ Y ++ Z).drop b = X ++ T ++ Z := by
  subst ha
  subst hb
  simp [List.append_assoc]
def pseudoF (src dst : List UInt8) (p : Nat) (size : Int) : List UInt8 :=
  if size < 0 then [] else
  if src.length = 4 ∧ dst.length = 4 ∧ size ≤ 65535 then src ++ dst ++ [0, UInt8.ofNat p] ++ toBe 2 size.toNat else
  if src.length = 16 ∧ dst.length = 16 ∧ size ≤ 4294967295 then src ++ dst ++ toBe 4 size.toNat ++ [0, 0, 0, UInt8.ofNat p] else []

theorem lit_below' {w w1 w3 : World} {A : Option Addr} {n c : Nat} {e t : TypeId} {xs : List Value} {cs : Array Value} (hb : Below w.heap.size w w1) (hg : (w1.alloc (.cells cs t)).grownBy w3 (blk A c)) (ho : Own w1 w.heap.size e 1 A n c xs) : Below w.heap.size w1 w3 :=
  ((Below.refl _ _).alloc hb.size _).grown hg (by have := hb.size; simp; omega) (fun g hg => (ho.lt g hg).1)
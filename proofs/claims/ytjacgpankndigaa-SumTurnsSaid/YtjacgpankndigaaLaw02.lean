/- What the walks of the laws of layer 2 share. No condition. -/
import Derived.Test.YtjacgpankndigaaAwake02
import Derived.Test.YtjacgpankndigaaSumLaw
namespace Go.Proofs.Ytjacgpankndigaa
open Go.RowKit
set_option linter.unusedVariables false

theorem u8n (m : Nat) (h : m < 256) : ((UInt8.ofNat m).toNat : Int) = m := by rw [UInt8.toNat_ofNat', Nat.mod_eq_of_lt (by omega)]

theorem wi (x : Int) (h0 : -4611686018427387904 ≤ x) (h1 : x ≤ 4611686018427387904) : IntKind.i64.wrap x = x := IntWalk.i64_in x ⟨by omega, by omega⟩

theorem pseudo_sl (A A2 : Option Addr) (n c m c2 : Nat) (l l2 : List UInt8) (p size : Int) (w : World) (h1 : (Bs.mk A n c l).ok w) (h2 : (Bs.mk A2 m c2 l2).ok w) (hn : n ≤ 65536) (hm : m ≤ 65536) (hp0 : 0 ≤ p) (hp1 : p ≤ 255)
    (hs0 : -9223372036854775808 ≤ size) (hs1 : size ≤ 9223372036854775807) :
    Calls Try.prog 16 #[.slice A n c, .slice A2 m c2, .int .u8 p, .int .i64 size] w fun e w' => ∃ rA rn rc rl, e = .returned (.slice rA rn rc) ∧ (Bs.mk rA rn rc rl).ok w' ∧ rl = pseudoF l l2 p.toNat size ∧ Below w.heap.size w w' :=
  (pseudo_any A A2 n c m c2 l l2 p size w h1 h2 hn hm hp0 hp1 hs0 hs1).mono fun e w' ⟨r, he, hr, hl, hb⟩ => ⟨r.A, r.n, r.c, r.l, he, hr, hl, hb⟩

end Go.Proofs.Ytjacgpankndigaa

/- The walks of layer 25 (permit): Tells, Kinds. No condition but those of the rows. -/
import Derived.Test.YtimkgkokidhhpaaLaw25
import Derived.Test.YtimkgkokidhhpaaOpen
namespace Go.Proofs.Ytimkgkokidhhpaa
open Go.RowKit
set_option linter.unusedVariables false
set_option maxRecDepth 20000
set_option linter.unusedSimpArgs false

set_option maxHeartbeats 4000000 in
theorem walk_PermitTells (w : World) (b : Bs) (hb : b.ok w) (big : Bool) : Calls Try.prog 3 #[b.v, .bool big] w fun e w' => e = .returned (.bool true) ∧ Below w.heap.size w w' := by
  obtain ⟨A, n, c, l⟩ := b
  have hll := hb.len
  simp only [Bs.v] at hll ⊢
  by_cases hs : n ≤ 2000
  · have hs' : ¬ (2000 : Int) < (n : Int) := by omega
    have HO := Lib.hid hb
    clear hb
    have h1 := fun W (h : (Bs.mk A n c l).ok W) => either_any A n c l W h.row h.le h.cap (by omega)
    have h2 := fun W (h : (Bs.mk A n c l).ok W) => permFour_any A n c l W h.row h.le h.cap (by omega)
    have h3 := fun W (h : (Bs.mk A n c l).ok W) => permSix_any A n c l big W h.row h.le h.cap (by omega)
    have r1 := fun W => reither_any l W (by omega)
    have r2 := fun W => rpermFour_any l W (by omega)
    have r3 := fun W => rpermSix_any l big W (by omega)
    obtain ⟨E0, hE⟩ : ∃ x, eitherF l = x := ⟨_, rfl⟩
    obtain ⟨F0, hF⟩ : ∃ x, fourF l = x := ⟨_, rfl⟩
    obtain ⟨S0, hS⟩ : ∃ x, sixF l big = x := ⟨_, rfl⟩
    simp only [hE, hF, hS] at h1 h2 h3 r1 r2 r3
    have H1 := Lib.hid h1
    have H2 := Lib.hid h2
    have H3 := Lib.hid h3
    have R1 := Lib.hid r1
    have R2 := Lib.hid r2
    have R3 := Lib.hid r3
    clear h1 h2 h3 r1 r2 r3 hE hF hS
    go_enter Try.func3, Try.ntmps3
    go_wp2_with fail
    refine (awake_any w).mono ?_
    rintro e w1 ⟨rfl, hb1⟩
    have HW := Lib.hid hb1
    replace HO := Lib.hid (HO.out.below hb1)
    clear hb1
    go_wp2_with (refine wpList_str (by rfl) (.tmp 13) 22 9 5 rfl Try.underlying22 Try.underlying5 Try.underlying9 _ A n c l (by rfl) HO.out.row ?_)
    refine (H1.out w1 HO.out).mono ?_
    rintro e w2 ⟨rfl, hb⟩
    replace HW := Lib.hid (bthen HW.out hb)
    replace HO := Lib.hid (HO.out.below hb)
    clear hb
    go_wp2_with fail
    refine (R1.out w2).mono ?_
    rintro e w3 ⟨rfl, hb⟩
    replace HW := Lib.hid (bthen HW.out hb)
    replace HO := Lib.hid (HO.out.below hb)
    clear hb
    go_wp2_with fail
    refine (H2.out w3 HO.out).mono ?_
    rintro e w4 ⟨rfl, hb⟩
    replace HW := Lib.hid (bthen HW.out hb)
    replace HO := Lib.hid (HO.out.below hb)
    clear hb
    go_wp2_with fail
    refine (R2.out w4).mono ?_
    rintro e w5 ⟨rfl, hb⟩
    replace HW := Lib.hid (bthen HW.out hb)
    replace HO := Lib.hid (HO.out.below hb)
    clear hb
    go_wp2_with fail
    refine (H3.out w5 HO.out).mono ?_
    rintro e w6 ⟨rfl, hb⟩
    replace HW := Lib.hid (bthen HW.out hb)
    clear hb
    go_wp2_with fail
    refine (R3.out w6).mono ?_
    rintro e w7 ⟨rfl, hb⟩
    replace HW := Lib.hid (bthen HW.out hb)
    clear hb
    go_wp2_with fail
    go_ret
    exact ⟨rfl, HW.out⟩
  · have hs' : (2000 : Int) < (n : Int) := by omega
    clear hll
    go_enter Try.func3, Try.ntmps3
    go_wp2_with fail
    refine (awake_any w).mono ?_
    rintro e w1 ⟨rfl, hb1⟩
    go_wp2_with fail
    go_ret
    exact ⟨rfl, hb1⟩
end Go.Proofs.Ytimkgkokidhhpaa

/- What stands ahead of a message in the sum: sum.Pseudo. No condition but sizes. -/
import Derived.Test.YtjacgpankndigaaSum
import Derived.Test.YtjacgpankndigaaConcat
namespace Go.Proofs.Ytjacgpankndigaa
open Go.RowKit
set_option linter.unusedVariables false

theorem put_mid {α : Type} (X Y Z T : List α) (a b : Nat) (ha : X.length = a) (hb : a + Y.length = b) : (X ++ Y ++ Z).take a ++ T ++ (X ++ Y ++ Z).drop b = X ++ T ++ Z := by
  subst ha
  subst hb
  simp [List.append_assoc]
def pseudoF (src dst : List UInt8) (p : Nat) (size : Int) : List UInt8 :=
  if size < 0 then [] else
  if src.length = 4 ∧ dst.length = 4 ∧ size ≤ 65535 then src ++ dst ++ [0, UInt8.ofNat p] ++ toBe 2 size.toNat else
  if src.length = 16 ∧ dst.length = 16 ∧ size ≤ 4294967295 then src ++ dst ++ toBe 4 size.toNat ++ [0, 0, 0, UInt8.ofNat p] else []

theorem lit_below' {w w1 w3 : World} {A : Option Addr} {n c : Nat} {e t : TypeId} {xs : List Value} {cs : Array Value} (hb : Below w.heap.size w w1) (hg : (w1.alloc (.cells cs t)).grownBy w3 (blk A c)) (ho : Own w1 w.heap.size e 1 A n c xs) : Below w.heap.size w1 w3 :=
  ((Below.refl _ _).alloc hb.size _).grown hg (by have := hb.size; simp; omega) (fun g hg => (ho.lt g hg).1)

set_option maxHeartbeats 1000000 in
theorem pseudo_any (A A2 : Option Addr) (n c m c2 : Nat) (l l2 : List UInt8) (p size : Int) (w : World) (h1 : (Bs.mk A n c l).ok w) (h2 : (Bs.mk A2 m c2 l2).ok w) (hn : n ≤ 65536) (hm : m ≤ 65536) (hp0 : 0 ≤ p) (hp1 : p ≤ 255)
    (hs0 : -9223372036854775808 ≤ size) (hs1 : size ≤ 9223372036854775807) :
    Calls Try.prog 16 #[.slice A n c, .slice A2 m c2, .int .u8 p, .int .i64 size] w fun e w' => ∃ r : Bs, e = .returned r.v ∧ r.ok w' ∧ r.l = pseudoF l l2 p.toNat size ∧ Below w.heap.size w w' := by
  have hl := h1.len
  have hl2 := h2.len
  simp only at hl hl2
  have hfl : (flat [Bs.mk A n c l, Bs.mk A2 m c2 l2]).length = n + m := by simp [flat, hl, hl2]
  have hcat := concat_lit #[.slice A n c, .slice A2 m c2] [⟨A, n, c, l⟩, ⟨A2, m, c2, l2⟩] 2 2 w rfl rfl (by omega) (by simp only [List.mem_cons, List.not_mem_nil, or_false]; rintro r (rfl | rfl) <;> assumption) (by omega) _ rfl
  rw [hfl] at hcat
  have HC := Lib.hid hcat
  clear hcat
  by_cases hneg : size < 0
  · go_enter Try.func16, Try.ntmps16
    go_wp2_with fail
    refine HC.out.mono ?_
    rintro e w1 ⟨A', c', rfl, hown, hb⟩
    go_wp2_with fail
    go_ret
    exact ⟨⟨none, 0, 0, []⟩, rfl, ⟨Row.nil _ _ _ _, Nat.le_refl _, Nat.zero_le _⟩, by simp [pseudoF, hneg], hb⟩
  by_cases h4 : n = 4 ∧ m = 4 ∧ size ≤ 65535
  · obtain ⟨rfl, rfl, hs⟩ := h4
    go_enter Try.func16, Try.ntmps16
    go_wp2_with fail
    refine HC.out.mono ?_
    rintro e w1 ⟨A', c', rfl, hown, hb⟩
    have HO := Lib.hid hown
    clear hown
    go_wp2_with (at_builtin; refine wpList_append_Own _ rfl _ _ 22 rfl w.heap.size 5 _ 1 1 Try.underlying22 infoByte rfl (by decide) _ _ _ _ rfl (HO.out.alloc _) _ _ _ _ (bv [0, UInt8.ofNat p.toNat, 0, 0]) rfl (row_lit w1 _ _ 4 (by simp [bv]; omega) rfl) (bv_one _) (by simp only [maxLen]; omega) (by omega) (by have := hb.size; simp; omega) ?_; intro A3 c3 w3 hown3 hg3 _)
    rw [← bv_append] at hown3
    have hb3 := hb.trans (lit_below' hb hg3 HO.out)
    have hw := wrap64_id size (by omega) (by omega)
    go_wp2_with fail
    refine (put_yes _ _ _ _ _ _ _ _ hown3.row hown3.le hown3.cap (by omega) (by omega) (by omega) (by omega) (by omega) (by omega) (by simp; omega)).mono ?_
    rintro e w4 ⟨A4, c4, rfl, hown4, hb4⟩
    go_wp2_with fail
    go_ret
    refine ⟨⟨A4, 12, c4, _⟩, rfl, hown4.ok, ?_, hb3.trans (hb4.mono hb3.size)⟩
    simp only [pseudoF, if_neg (show ¬ size < 0 by omega), hl, hl2, hs]
    have hf : flat [⟨A, 4, c, l⟩, ⟨A2, 4, c2, l2⟩] = l ++ l2 := by simp [flat]
    rw [hf]
    have := put_mid (l ++ l2 ++ [0, UInt8.ofNat p.toNat]) [0, 0] [] (toBe 2 size.toNat) 10 12 (by simp [hl, hl2]) (by simp)
    simpa using this
  by_cases h16 : n = 16 ∧ m = 16 ∧ size ≤ 4294967295
  · obtain ⟨rfl, rfl, hs⟩ := h16
    clear h4
    go_enter Try.func16, Try.ntmps16
    go_wp2_with fail
    refine HC.out.mono ?_
    rintro e w1 ⟨A', c', rfl, hown, hb⟩
    have HO := Lib.hid hown
    clear hown
    go_wp2_with (at_builtin; refine wpList_append_Own _ rfl _ _ 22 rfl w.heap.size 5 _ 1 1 Try.underlying22 infoByte rfl (by decide) _ _ _ _ rfl (HO.out.alloc _) _ _ _ _ (bv [0, 0, 0, 0, 0, 0, 0, UInt8.ofNat p.toNat]) rfl (row_lit w1 _ _ 8 (by simp [bv]; omega) rfl) (bv_one _) (by simp only [maxLen]; omega) (by omega) (by have := hb.size; simp; omega) ?_; intro A3 c3 w3 hown3 hg3 _)
    rw [← bv_append] at hown3
    have hb3 := hb.trans (lit_below' hb hg3 HO.out)
    have hw := wrap64_id size (by omega) (by omega)
    go_wp2_with fail
    refine (put_yes _ _ _ _ _ _ _ _ hown3.row hown3.le hown3.cap (by omega) (by omega) (by omega) (by omega) (by omega) (by omega) (by simp; omega)).mono ?_
    rintro e w4 ⟨A4, c4, rfl, hown4, hb4⟩
    go_wp2_with fail
    go_ret
    refine ⟨⟨A4, 40, c4, _⟩, rfl, hown4.ok, ?_, hb3.trans (hb4.mono hb3.size)⟩
    simp only [pseudoF, if_neg (show ¬ size < 0 by omega), hl, hl2, hs]
    have hf : flat [⟨A, 16, c, l⟩, ⟨A2, 16, c2, l2⟩] = l ++ l2 := by simp [flat]
    rw [hf]
    have := put_mid (l ++ l2) [0, 0, 0, 0] [0, 0, 0, UInt8.ofNat p.toNat] (toBe 4 size.toNat) 32 36 (by simp [hl, hl2]) (by simp)
    simpa using this
  · have hz : pseudoF l l2 p.toNat size = [] := by
      unfold pseudoF
      rw [if_neg hneg, hl, hl2, if_neg h4, if_neg h16]
    rw [hz]
    have HZ := Lib.hid (And.intro h4 h16)
    have key : (((n : Int) == 4) = false ∨ (((n : Int) == 4) = true ∧ ((m : Int) == 4) = false) ∨ (((n : Int) == 4) = true ∧ ((m : Int) == 4) = true ∧ 65535 < size)) ∧ (((n : Int) == 16) = false ∨ (((n : Int) == 16) = true ∧ ((m : Int) == 16) = false) ∨ (((n : Int) == 16) = true ∧ ((m : Int) == 16) = true ∧ 4294967295 < size)) := by
      simp only [beq_iff_eq, beq_eq_false_iff_ne]
      omega
    clear h4 h16
    rcases key with ⟨a1 | ⟨a1, a2⟩ | ⟨a1, a2, a3⟩, b1 | ⟨b1, b2⟩ | ⟨b1, b2, b3⟩⟩
    all_goals first
      | (exfalso; simp at a1 b1; omega)
      | skip
    all_goals
      go_enter Try.func16, Try.ntmps16
      go_wp2_with fail
      refine HC.out.mono ?_
      rintro e w1 ⟨A', c', rfl, hown, hb⟩
      go_wp2_with fail
      go_ret
      exact ⟨⟨none, 0, 0, []⟩, rfl, ⟨Row.nil _ _ _ _, Nat.le_refl _, Nat.zero_le _⟩, rfl, hb⟩
end Go.Proofs.Ytjacgpankndigaa

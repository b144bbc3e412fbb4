/- The walk of the law SumOf: it answers true, and nothing that was there is turned. No condition but those of the row. -/
import Derived.Test.YtjacgpankndigaaLaw02
import Derived.Deep.RegionHeld3
namespace Go.Proofs.Ytjacgpankndigaa
open Go.RowKit
set_option linter.unusedVariables false

set_option maxHeartbeats 1000000 in
theorem walk_SumOf (w : World) (a : Bs) (ha : a.ok w) (b : Bs) (hb : b.ok w) (c : Bs) (hc : c.ok w) :
    Calls Try.prog 3 #[a.v, b.v, c.v] w fun e w' => e = .returned (.bool true) ∧ Below w.heap.size w w' := by
  obtain ⟨A, n, ca, l⟩ := a
  obtain ⟨B, m, cb, l2⟩ := b
  obtain ⟨C, k, cc, l3⟩ := c
  have hla := ha.len
  have hlb := hb.len
  have hlc := hc.len
  simp only at hla hlb hlc
  unfold Bs.v
  simp only
  by_cases hs : n ≤ 2000 ∧ m ≤ 2000 ∧ k ≤ 2000
  · obtain ⟨h1, h2, h3⟩ := hs
    have i1 : l.length ≤ 2000 := by omega
    have i2 : l2.length ≤ 2000 := by omega
    have i3 : l3.length ≤ 2000 := by omega
    clear hla hlb hlc
    go_enter Try.func3, Try.ntmps3
    go_wp2_with fail
    refine (awake_any _).mono ?_
    rintro e w1 ⟨rfl, hw1⟩
    have a1 := ha.below hw1
    have b1 := hb.below hw1
    have c1 := hc.below hw1
    go_wp2_with (first
      | (refine wpList_str rfl (.tmp 25) 22 9 5 rfl Try.underlying22 Try.underlying5 Try.underlying9 _ _ _ _ l rfl a1.row ?_)
      | (refine wpList_str rfl (.tmp 27) 22 9 5 rfl Try.underlying22 Try.underlying5 Try.underlying9 _ _ _ _ l2 rfl b1.row ?_)
      | (refine wpList_str rfl (.tmp 30) 22 9 5 rfl Try.underlying22 Try.underlying5 Try.underlying9 _ _ _ _ l3 rfl c1.row ?_))
    have hbs : ∀ r ∈ [Bs.mk A n ca l, Bs.mk B m cb l2, Bs.mk C k cc l3], r.ok w1 := by
      simp only [List.mem_cons, List.not_mem_nil, or_false]
      rintro r (rfl | rfl | rfl) <;> assumption
    have hlen : (flat [Bs.mk A n ca l, Bs.mk B m cb l2, Bs.mk C k cc l3]).length ≤ 1099511627776 := by rw [flat_three]; simp only [List.length_append]; omega
    have hlen2 : (l ++ l2 ++ l3).length ≤ 1099511627776 := by simp only [List.length_append]; omega
    have hcat : ((ByteArray.mk l.toArray) ++ (ByteArray.mk l2.toArray) ++ (ByteArray.mk l3.toArray)) = ByteArray.mk (l ++ l2 ++ l3).toArray := by simp [ba_append]
    have hfl := flat_three A B C n ca m cb k cc l l2 l3
    generalize l ++ l2 ++ l3 = L at hlen2 hcat hfl
    have HF := Lib.hid hfl
    clear hfl
    have HB := Lib.hid hbs
    have HC := Lib.hid hcat
    have HL := Lib.hid hlen
    have HL2 := Lib.hid hlen2
    clear hbs hcat hlen hlen2 ha hb hc a1 b1 c1
    rw [HC.out]
    refine (raw_lit #[.slice A n ca, .slice B m cb, .slice C k cc] [Bs.mk A n ca l, Bs.mk B m cb l2, Bs.mk C k cc l3] 3 3 _ rfl rfl (by omega) HB.out HL.out _ rfl).mono ?_
    rintro e w2 ⟨rfl, hw2⟩
    rw [HF.out]
    have hr := foldN_le (sumB false L)
    change rawN L ≤ 65535 at hr
    have HB2 := Lib.hid (fun r hx => (HB.out r hx).below hw2)
    generalize hq : rawN L = q at hr ⊢
    have HQ := Lib.hid hq
    clear hq
    have hw := wI (q : Int) (by omega) (by omega)
    go_wp2_with fail
    refine (rraw_any L _ HL2.out).mono ?_
    rintro e w3 ⟨rfl, rfl⟩
    rw [HQ.out]
    go_wp2_with fail
    refine (of_lit #[.slice A n ca, .slice B m cb, .slice C k cc] [Bs.mk A n ca l, Bs.mk B m cb l2, Bs.mk C k cc l3] 3 3 _ rfl rfl (by omega) HB2.out HL.out _ rfl).mono ?_
    rintro e w4 ⟨rfl, hw4⟩
    have HB4 := Lib.hid (fun r hx => (HB2.out r hx).below hw4)
    rw [HF.out, HQ.out]
    have hw' := wI ((65535 - q : Nat) : Int) (by omega) (by omega)
    go_wp2_with fail
    refine (rof_any L _ HL2.out).mono ?_
    rintro e w5 ⟨rfl, rfl⟩
    rw [HQ.out]
    go_wp2_with fail
    refine (check_lit #[.slice A n ca, .slice B m cb, .slice C k cc] [Bs.mk A n ca l, Bs.mk B m cb l2, Bs.mk C k cc l3] 3 3 _ rfl rfl (by omega) HB4.out HL.out _ rfl).mono ?_
    rintro e w6 ⟨rfl, hw6⟩
    rw [HF.out, HQ.out]
    go_wp2_with fail
    refine (rraw_any L _ HL2.out).mono ?_
    rintro e w7 ⟨rfl, rfl⟩
    rw [HQ.out]
    go_wp2_with fail
    go_ret
    refine ⟨?_, bthen hw1 (bthen hw2 (bthen hw4 hw6))⟩
    refine ret_bool ?_
    show (decide (q = 65535) == ((q : Int) == 65535)) = true
    by_cases h : q = 65535
    · simp [h]
    · have : ((q : Int) == 65535) = false := by rw [beq_eq_false_iff_ne]; omega
      simp [h, this]
  · have key : 2000 < (n : Int) ∨ (¬ 2000 < (n : Int) ∧ 2000 < (m : Int)) ∨ (¬ 2000 < (n : Int) ∧ ¬ 2000 < (m : Int) ∧ 2000 < (k : Int)) := by omega
    clear hs ha hb hc
    rcases key with h | ⟨h1, h⟩ | ⟨h1, h2, h⟩
    all_goals
      go_enter Try.func3, Try.ntmps3
      go_wp2_with fail
      refine (awake_any _).mono ?_
      rintro e w1 ⟨rfl, hw1⟩
      go_wp2_with fail
      go_ret
      exact ⟨rfl, hw1⟩
end Go.Proofs.Ytjacgpankndigaa

/- The walk of layer 5 (ip6): Chain. No condition but those of the row. -/
import Derived.Test.YtaakcecjdmdhbaaLaw05
import Derived.Test.YtaakcecjdmdhbaaOpenH6
namespace Go.Proofs.Ytaakcecjdmdhbaa
open Go.RowKit
set_option linter.unusedVariables false
set_option linter.unusedSimpArgs false

/-- a store into another block leaves a row as it was -/
theorem bs_store {w : World} {g : Nat} {t : TypeId} {cs : List Value} {A : Option Addr} {n c : Nat} {l : List UInt8} (ho : (Bs.mk A n c l).ok w) (hb : Blk w g t cs) (hn : cs.length < n) (j : Nat) (u : Value) :
    (Bs.mk A n c l).ok (w.setCell ⟨g, j, none⟩ u) := by
  have hne := row_ne ho.row hb hn
  refine ⟨⟨ho.row.1, fun hn => ?_⟩, ho.le, ho.cap⟩
  obtain ⟨b, o, hA, hlt, hcell⟩ := ho.row.2 hn
  refine ⟨b, o, hA, by simpa [World.setCell] using hlt, fun j' u' hu => ?_⟩
  rw [World.cell?_setCell_other _ _ _ _ (fun e => hne b o hA (by injection e with e; exact e.symm))]
  exact hcell j' u' hu
def abc : List UInt8 := [97, 98, 99]

set_option maxHeartbeats 4000000 in
theorem walk_Ip6Chain (w : World) (h : H6) (hf : h.fit) (a : Int) (ha : 0 ≤ a ∧ a ≤ 255) (b : Int) (hb : 0 ≤ b ∧ b ≤ 255) : Calls Try.prog 6 #[.agg h.cells.toArray, .int .u8 a, .int .u8 b] w fun e w' => e = .returned (.bool true) ∧ Below w.heap.size w w' := by
  have HF := Lib.hid hf
  have ha0 := ha.1
  have ha1 := ha.2
  have hb0 := hb.1
  have hb1 := hb.2
  have kc := fun (w : World) (C : Array Value) (n c g : Nat) (hg : w.heap.size = g) => run_const (P := Try.prog) w 22 5 C n c Try.underlying22 Try.underlying5 g hg
  clear hf ha hb
  go_enter Try.func6, Try.ntmps6
  go_wp2_with (refine wpList_box_blk rfl 26 _ rfl h.cells rfl ?_; intro w1 hbb1 hB1 hs1; have HB1 := Lib.hid hbb1; clear hbb1 hs1)
  refine (awake_any w1).mono ?_
  rintro e w2 ⟨rfl, hb2⟩
  have HW2 := Lib.hid (bthen hB1 hb2)
  have HB2 := Lib.hid (HB1.out.on hb2)
  clear HB1 hB1 hb2
  go_wp2_with (refine wpList_load_blk rfl 26 _ rfl w.heap.size rfl 26 _ _ HB2.out Try.underlying26 rfl (size6 _ HF.out.ok) ?_)
  refine (put6_any h HF.out _ 3 3 abc _ (by rw [World.size_alloc]; exact row_litF w2 _ _ abc 3 (by simp [bv, abc]) rfl) (by omega) (by simp [maxLen])).mono ?_
  rintro e w3 ⟨⟨A3, n3, c3, l3⟩, rfl, hl3, ho3, hb3⟩
  simp only at hl3
  have HW3 := Lib.hid (bthen HW2.out (ballocd hb3))
  have HB3 := Lib.hid ((HB2.out.alloc _).on hb3)
  have hn3 := ho3.len
  simp only [Bs.v] at hn3 ⊢
  clear HB2 HW2 hb3
  by_cases hx : h.flow < 0 ∨ 1048576 ≤ h.flow
  · have hp : put6 h abc = ([], 1) := by unfold put6; rw [if_pos hx]
    rw [hp] at hl3 ⊢
    simp only at hl3
    subst hl3
    obtain rfl : n3 = 0 := by simpa using hn3.symm
    clear hn3 ho3
    go_wp2
    go_ret
    exact ⟨rfl, HW3.out⟩
  · have hp := put6_yes h (by omega) (by omega) abc (by simp [abc])
    rw [hp] at hl3 ⊢
    simp only at hl3
    subst hl3
    have hx0 : 0 ≤ h.flow := by omega
    have hx1 : h.flow < 1048576 := by omega
    clear hx
    obtain rfl : n3 = 43 := by rw [← hn3]; exact pkt6_length _ HF.out.ok _
    have HO3 := Lib.hid ho3
    clear ho3 hn3 hp
    have HP := Lib.hid (par6_pkt h HF.out hx0 hx1 abc [] (by simp [abc]))
    have HT := Lib.hid (ttl6_pkt h HF.out hx0 hx1 abc [] (by simp [abc]) a)
    have fa : ({ h with ttl := a } : H6).fit := ⟨⟨HF.out.ok.src, HF.out.ok.dst⟩, HF.out.cls, HF.out.flow, HF.out.len, HF.out.next, ⟨ha0, ha1⟩⟩
    have fb : ({ h with ttl := b } : H6).fit := ⟨⟨HF.out.ok.src, HF.out.ok.dst⟩, HF.out.cls, HF.out.flow, HF.out.len, HF.out.next, ⟨hb0, hb1⟩⟩
    have HP2 := Lib.hid (par6_pkt { h with ttl := a } fa hx0 hx1 abc [] (by simp [abc]))
    have HT2 := Lib.hid (ttl6_pkt { h with ttl := a } fa hx0 hx1 abc [] (by simp [abc]) b)
    have HP3 := Lib.hid (put6_yes { h with ttl := b } hx0 hx1 abc (by simp [abc]))
    have HFb := Lib.hid fb
    clear fa fb
    go_wp2_with fail
    refine (ttl6_any A3 43 c3 (pkt6 h abc) a w3 HO3.out.row HO3.out.le HO3.out.cap (by omega) ha0 ha1).mono ?_
    rintro e w4 ⟨⟨A4, n4, c4, l4⟩, rfl, hl4, ho4, hb4⟩
    have hpar : (par6 (pkt6 h abc)).2 = 0 := by have := HP.out; rw [List.append_nil] at this; rw [this]
    rw [hpar]
    have ht := HT.out
    rw [List.append_nil, List.append_nil] at ht
    simp only [ht] at hl4
    subst hl4
    have HW4 := Lib.hid (bthen HW3.out hb4)
    have HB4 := Lib.hid (HB3.out.on hb4)
    have HO4 := Lib.hid ho4
    have hn4 := ho4.len
    simp only [Bs.v] at hn4 ⊢
    obtain rfl : n4 = 43 := by rw [← hn4]; exact pkt6_length _ HFb.out.ok _
    clear HW3 HB3 ho4 hn4 hb4 ht hpar HP HT
    go_wp2_with fail
    refine (ttl6_any A4 43 c4 _ b w4 HO4.out.row HO4.out.le HO4.out.cap (by omega) hb0 hb1).mono ?_
    rintro e w5 ⟨⟨A5, n5, c5, l5⟩, rfl, hl5, ho5, hb5⟩
    have hpar : (par6 (pkt6 { h with ttl := a } abc)).2 = 0 := by have := HP2.out; rw [List.append_nil] at this; rw [this]
    rw [hpar]
    have ht := HT2.out
    rw [List.append_nil, List.append_nil] at ht
    simp only [ht] at hl5
    subst hl5
    have hW5 := bthen HW4.out hb5
    have hB5 := HB4.out.on hb5
    have hn5 := ho5.len
    simp only [Bs.v] at hn5 ⊢
    obtain rfl : n5 = 43 := by rw [← hn5]; exact pkt6_length _ HFb.out.ok _
    clear HW4 HB4 hn5 hb5 ht hpar HP2 HT2
    have hc2 : w5.cell? ⟨w.heap.size, 4, none⟩ = some (.int .u8 h.ttl) := hB5.cell 4
    have hf2 := hB5.frozen 4
    have hset := hB5.set 4 (.int .u8 b)
    have hst := bs_store ho5 hB5 (by rw [H6.cells_length _ HF.out.ok]; decide) 4 (.int .u8 b)
    have hW6 := hW5.setCell (p := ⟨w.heap.size, 4, none⟩) (Nat.le_refl _) (.int .u8 b)
    rw [show h.cells.set 4 (.int .u8 b) = ({ h with ttl := b } : H6).cells from rfl] at hset
    have HS := Lib.hid hset
    have HO5 := Lib.hid hst
    have HW5 := Lib.hid hW6
    clear hset hst hW6 hW5 hB5 ho5
    go_wp2_with (first
      | (refine wpList_load_blk rfl 26 _ rfl w.heap.size rfl 26 _ _ HS.out Try.underlying26 rfl (size6 _ HFb.out.ok) ?_))
    obtain ⟨w6, hw6⟩ : ∃ w6, w6 = w5.setCell ⟨w.heap.size, 4, none⟩ (.int .u8 b) := ⟨_, rfl⟩
    have hsz : w5.heap.size = w6.heap.size := by rw [hw6]; simp [World.setCell]
    try rw [← hw6]
    try rw [hsz]
    rw [← hw6] at HS HO5 HW5
    clear hw6 hc2 hf2
    refine (put6_any { h with ttl := b } HFb.out _ 3 3 abc _ (by rw [World.size_alloc]; exact row_litF w6 _ _ abc 3 (by simp [bv, abc]) rfl) (by omega) (by simp [maxLen])).mono ?_
    rintro e w7 ⟨⟨A7, n7, c7, l7⟩, rfl, hl7, ho7, hb7⟩
    rw [HP3.out] at hl7 ⊢
    simp only at hl7
    subst hl7
    have HO7 := Lib.hid ho7
    have HW7 := Lib.hid (bthen HW5.out (ballocd hb7))
    have HZ7 := Lib.hid ((HO5.out.below (alloc_below w6 _)).below hb7)
    clear ho7 hb7 hsz HW5 HO5 HS
    simp only [Bs.v]
    go_wp2_with (first
      | (refine wpList_str (by rfl) (.tmp 63) 22 9 5 rfl Try.underlying22 Try.underlying5 Try.underlying9 _ A5 43 c5 _ (by rfl) HZ7.out.row ?_)
      | (refine wpList_str (by rfl) (.tmp 65) 22 9 5 rfl Try.underlying22 Try.underlying5 Try.underlying9 _ A7 n7 c7 _ (by rfl) HO7.out.row ?_))
    go_ret
    exact ⟨rfl, HW7.out⟩

end Go.Proofs.Ytaakcecjdmdhbaa

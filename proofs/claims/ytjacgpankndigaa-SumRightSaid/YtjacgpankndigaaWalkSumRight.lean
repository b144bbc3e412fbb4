/- The walk of the law SumRight: it answers true, and nothing that was there is turned. No condition but those of the row. -/
import Derived.Test.YtjacgpankndigaaLaw02
import Derived.Deep.RegionHeld3
namespace Go.Proofs.Ytjacgpankndigaa
open Go.RowKit
set_option linter.unusedVariables false

set_option maxHeartbeats 1000000 in
theorem walk_SumRight (w : World) (a : Bs) (ha : a.ok w) (x : Int) (hx : 0 ≤ x ∧ x ≤ 255) :
    Calls Try.prog 5 #[a.v, .int .u8 x] w fun e w' => e = .returned (.bool true) ∧ Below w.heap.size w w' := by
  obtain ⟨A, n, ca, l⟩ := a
  have hla := ha.len
  simp only at hla
  unfold Bs.v
  simp only
  by_cases hs : 2 ≤ n ∧ n ≤ 1000
  · obtain ⟨h1, h2⟩ := hs
    have i1 : l.length ≤ 1000 := by omega
    have e0 := wI x (by omega) (by omega)
    have hp : 0 < (n : Int) / 2 := by omega
    obtain ⟨k, hk⟩ : ∃ k : Nat, x % ((n : Int) / 2) = (k : Int) := ⟨(x % ((n : Int) / 2)).toNat, by rw [Int.toNat_of_nonneg (Int.emod_nonneg _ (by omega))]⟩
    have hk2 : (k : Int) < (n : Int) / 2 := by rw [← hk]; exact Int.emod_lt_of_pos _ hp
    have hk3 : 2 * k + 1 < n := by omega
    have HL := Lib.hid hla
    clear hla hp
    go_enter Try.func5, Try.ntmps5
    go_wp2_with fail
    refine (awake_any _).mono ?_
    rintro e w1 ⟨rfl, hw1⟩
    have a1 := ha.below hw1
    have AR := Lib.hid a1.row
    clear ha a1
    go_wp2_with (at_builtin; refine wpList_append_Own _ rfl _ _ 22 rfl w1.heap.size 5 _ 1 1 Try.underlying22 infoByte rfl (by decide) _ 0 0 [] rfl (Own.nil _ _ _ _ _) w1.heap.size A n ca (bv l) rfl AR.out (bv_one l) (by simp only [maxLen]; omega) (by omega) (Nat.le_refl _) ?_; intro A2 c2 w2 hown2 hg2 _; simp only [Nat.zero_add, List.nil_append] at hown2; obtain ⟨g, rfl, hg1, hg3, hcell, hfro⟩ := hown2.open_ (by omega); obtain ⟨u0, hu0⟩ := get_ex l (k := 2 * k) (by have := HL.out; omega); obtain ⟨u1, hu1⟩ := get_ex l (k := 2 * k + 1) (by have := HL.out; omega); have hc0 := hcell (2 * k) _ (bv_get l _ u0 hu0); have hc1 := hcell (2 * k + 1) _ (bv_get l _ u1 hu1); have hf0 := hfro (2 * k); have hf1 := hfro (2 * k + 1); have HO := Lib.hid hown2; have HG := Lib.hid hg2; clear hcell hfro hu0 hu1 hown2 hg2)
    have HO2 := (HO.out.set (j := 2 * k) (by omega) (.int .u8 0)).set (j := 2 * k + 1) (by omega) (.int .u8 0)
    rw [show (Value.int .u8 0) = .int .u8 (((0 : UInt8).toNat : Nat) : Int) from rfl, ← bv_set, ← bv_set] at HO2
    have hb2 : Below w1.heap.size w1 ((w2.setCell ⟨g, 2 * k, none⟩ (.int .u8 0)).setCell ⟨g, 2 * k + 1, none⟩ (.int .u8 0)) :=
      (((Below.refl _ _).grown HG.out (Nat.le_refl _) (by simp [blk])).setCell (p := ⟨g, 2 * k, none⟩) hg1 _).setCell (p := ⟨g, 2 * k + 1, none⟩) hg1 _
    have hsz : ((w2.setCell ⟨g, 2 * k, none⟩ (.int .u8 0)).setCell ⟨g, 2 * k + 1, none⟩ (.int .u8 0)).heap.size = w2.heap.size := by simp [World.setCell]
    change Own ((w2.setCell ⟨g, 2 * k, none⟩ (.int .u8 0)).setCell ⟨g, 2 * k + 1, none⟩ (.int .u8 0)) _ _ _ _ _ _ _ at HO2
    generalize (w2.setCell ⟨g, 2 * k, none⟩ (.int .u8 0)).setCell ⟨g, 2 * k + 1, none⟩ (.int .u8 0) = W2 at HO2 hb2 hsz ⊢
    clear hc0 hc1 hf0 hf1
    have hll : ((l.set (2 * k) 0).set (2 * k + 1) 0).length = n := by rw [List.length_set, List.length_set]; exact HL.out
    have HR := Lib.hid (fun c hc => sum_right l k (by have := HL.out; omega) c hc)
    generalize (l.set (2 * k) 0).set (2 * k + 1) 0 = l' at HO2 hll HR
    have hl1 : l'.length ≤ 1099511627776 := by omega
    have HLL := Lib.hid hll
    have HO3 := Lib.hid HO2
    clear hll HO2
    refine (of_lit #[.slice (some ⟨g, 0, none⟩) n c2] [⟨some ⟨g, 0, none⟩, n, c2, l'⟩] 1 1 W2 rfl rfl (by omega) (by simp only [List.mem_cons, List.not_mem_nil, or_false]; rintro r rfl; exact HO3.out.ok) (by rw [flat_one]; exact hl1) _ hsz).mono ?_
    rintro e w3 ⟨rfl, hb3⟩
    rw [flat_one]
    have hO3 := HO3.out.below hb3
    obtain ⟨g', hgg, _, hg5, hcell, hfro⟩ := hO3.open_ (by omega)
    injection hgg with hgg
    injection hgg with hgg
    subst hgg
    obtain ⟨u0, hu0⟩ := get_ex l' (k := 2 * k) (by have := HLL.out; omega)
    obtain ⟨u1, hu1⟩ := get_ex l' (k := 2 * k + 1) (by have := HLL.out; omega)
    have hc0 := hcell (2 * k) _ (bv_get l' _ u0 hu0)
    have hc1 := hcell (2 * k + 1) _ (bv_get l' _ u1 hu1)
    have hf0 := hfro (2 * k)
    have hf1 := hfro (2 * k + 1)
    have HO4 := Lib.hid hO3
    have hR := foldN_le (sumB false l')
    change rawN l' ≤ 65535 at hR
    obtain ⟨c, hc⟩ : ∃ c, c = 65535 - rawN l' := ⟨_, rfl⟩
    have HC := Lib.hid (HR.out c hc)
    rw [← hc]
    have hcle : c ≤ 65535 := by omega
    clear hcell hfro hu0 hu1 hO3 hc hR HR
    go_wp2_with fail
    have HO5 := (HO4.out.set (j := 2 * k) (by omega) (.int .u8 ((c : Int) / 256))).set (j := 2 * k + 1) (by omega) (.int .u8 ((c : Int) % 256))
    rw [show (c : Int) / 256 = (((UInt8.ofNat (c / 256)).toNat : Nat) : Int) by rw [u8n _ (by omega)]; omega, show (c : Int) % 256 = (((UInt8.ofNat (c % 256)).toNat : Nat) : Int) by rw [u8n _ (by omega)]; omega, ← bv_set, ← bv_set] at HO5
    rw [show (c : Int) / 256 = (((UInt8.ofNat (c / 256)).toNat : Nat) : Int) by rw [u8n _ (by omega)]; omega, show (c : Int) % 256 = (((UInt8.ofNat (c % 256)).toNat : Nat) : Int) by rw [u8n _ (by omega)]; omega]
    have hb4 : Below W2.heap.size W2 w3 := hb3
    have hb5 : Below w1.heap.size w1 ((w3.setCell ⟨g, 2 * k, none⟩ (.int .u8 (((UInt8.ofNat (c / 256)).toNat : Nat) : Int))).setCell ⟨g, 2 * k + 1, none⟩ (.int .u8 (((UInt8.ofNat (c % 256)).toNat : Nat) : Int))) :=
      ((bthen hb2 hb3).setCell (p := ⟨g, 2 * k, none⟩) hg1 _).setCell (p := ⟨g, 2 * k + 1, none⟩) hg1 _
    have hsz5 : ((w3.setCell ⟨g, 2 * k, none⟩ (.int .u8 (((UInt8.ofNat (c / 256)).toNat : Nat) : Int))).setCell ⟨g, 2 * k + 1, none⟩ (.int .u8 (((UInt8.ofNat (c % 256)).toNat : Nat) : Int))).heap.size = w3.heap.size := by simp [World.setCell]
    generalize (w3.setCell ⟨g, 2 * k, none⟩ (.int .u8 (((UInt8.ofNat (c / 256)).toNat : Nat) : Int))).setCell ⟨g, 2 * k + 1, none⟩ (.int .u8 (((UInt8.ofNat (c % 256)).toNat : Nat) : Int)) = W5 at HO5 hb5 hsz5 ⊢
    have hl5 : ((l'.set (2 * k) (UInt8.ofNat (c / 256))).set (2 * k + 1) (UInt8.ofNat (c % 256))).length ≤ 1099511627776 := by rw [List.length_set, List.length_set]; exact hl1
    generalize (l'.set (2 * k) (UInt8.ofNat (c / 256))).set (2 * k + 1) (UInt8.ofNat (c % 256)) = l5 at HO5 HC hl5
    have HO6 := Lib.hid HO5
    clear HO5 hc0 hc1 hf0 hf1
    refine (check_lit #[.slice (some ⟨g, 0, none⟩) n c2] [⟨some ⟨g, 0, none⟩, n, c2, l5⟩] 1 1 W5 rfl rfl (by omega) (by simp only [List.mem_cons, List.not_mem_nil, or_false]; rintro r rfl; exact HO6.out.ok) (by rw [flat_one]; exact hl5) _ hsz5).mono ?_
    rintro e w6 ⟨rfl, hb6⟩
    rw [flat_one, HC.out]
    go_wp2_with fail
    go_ret
    exact ⟨rfl, bthen hw1 (bthen hb5 hb6)⟩
  · have key : (n : Int) < 2 ∨ (¬ (n : Int) < 2 ∧ 1000 < (n : Int)) := by omega
    clear hs ha
    rcases key with h | ⟨h1, h⟩
    all_goals
      go_enter Try.func5, Try.ntmps5
      go_wp2_with fail
      refine (awake_any _).mono ?_
      rintro e w1 ⟨rfl, hw1⟩
      go_wp2_with fail
      go_ret
      exact ⟨rfl, hw1⟩
end Go.Proofs.Ytjacgpankndigaa

/- The walk of the law SumAnew: it answers true, and nothing that was there is turned. No condition but those of the row. -/
import Derived.Test.YtjacgpankndigaaLaw02
import Derived.BigQuiet
import Derived.Deep.QuietTactic
namespace Go.Proofs.Ytjacgpankndigaa
open Go.RowKit
set_option linter.unusedVariables false

set_option maxHeartbeats 1000000 in
theorem walk_SumAnew (w : World) (a : Bs) (ha : a.ok w) (x : Int) (hx : 0 ≤ x ∧ x ≤ 255) (y : Int) (hy : 0 ≤ y ∧ y ≤ 65535) :
    Calls Try.prog 6 #[a.v, .int .u8 x, .int .u16 y] w fun e w' => e = .returned (.bool true) ∧ Below w.heap.size w w' := by
  obtain ⟨A, n, ca, l⟩ := a
  have hla := ha.len
  simp only at hla
  unfold Bs.v
  simp only
  by_cases hs : 2 ≤ n ∧ n ≤ 1000
  · obtain ⟨h1, h2⟩ := hs
    have i1 : l.length ≤ 1000 := by omega
    have e0 := wI x (by omega) (by omega)
    have hp : 0 < (n : Int) / 2 := by omega
    obtain ⟨k, hk⟩ : ∃ k : Nat, x % ((n : Int) / 2) = (k : Int) := ⟨(x % ((n : Int) / 2)).toNat, by rw [Int.toNat_of_nonneg (Int.emod_nonneg _ (by omega))]⟩
    have hk2 : (k : Int) < (n : Int) / 2 := by rw [← hk]; exact Int.emod_lt_of_pos _ hp
    have hk3 : 2 * k + 1 < n := by omega
    have HL := Lib.hid hla
    clear hla hp
    go_enter Try.func6, Try.ntmps6
    go_wp2_with fail
    refine (awake_any _).mono ?_
    rintro e w1 ⟨rfl, hw1⟩
    have a1 := ha.below hw1
    have AR := Lib.hid a1
    clear ha a1
    go_wp2_with (at_builtin; refine wpList_append_Own _ rfl _ _ 22 rfl w1.heap.size 5 _ 1 1 Try.underlying22 infoByte rfl (by decide) _ 0 0 [] rfl (Own.nil _ _ _ _ _) w1.heap.size A n ca (bv l) rfl AR.out.row (bv_one l) (by simp only [maxLen]; omega) (by omega) (Nat.le_refl _) ?_; intro A2 c2 w2 hown2 hg2 _; simp only [Nat.zero_add, List.nil_append] at hown2; obtain ⟨g, rfl, hg1, hg3, hcell, hfro⟩ := hown2.open_ (by omega); obtain ⟨u0, hu0⟩ := get_ex l (k := 2 * k) (by have := HL.out; omega); obtain ⟨u1, hu1⟩ := get_ex l (k := 2 * k + 1) (by have := HL.out; omega); have hc0 := hcell (2 * k) _ (bv_get l _ u0 hu0); have hc1 := hcell (2 * k + 1) _ (bv_get l _ u1 hu1); have hf0 := hfro (2 * k); have hf1 := hfro (2 * k + 1); have HO := Lib.hid hown2; have HG := Lib.hid hg2; have HU0 := Lib.hid hu0; have HU1 := Lib.hid hu1; have hv0 := byte_le u0; have hv1 := byte_le u1; clear hcell hfro hu0 hu1 hown2 hg2)
    have ho := or16 (u0.toNat : Int) (u1.toNat : Int) hv0.1 hv0.2 hv1.1 hv1.2
    obtain ⟨y, rfl⟩ := Int.eq_ofNat_of_zero_le hy.1
    go_quiet (fail)
    clear ho
    go_wp2_with fail
    have HO2 := (HO.out.drewN nq).set (j := 2 * k) (by omega) (.int .u8 ((y : Int) / 256))
    have HO3 := HO2.set (j := 2 * k + 1) (by omega) (.int .u8 ((y : Int) % 256))
    have z0 : (y : Int) / 256 = (((UInt8.ofNat (y / 256)).toNat : Nat) : Int) := by rw [u8n _ (by omega)]; omega
    have z1 : (y : Int) % 256 = (((UInt8.ofNat (y % 256)).toNat : Nat) : Int) := by rw [u8n _ (by omega)]; omega
    rw [z0, z1, ← bv_set, ← bv_set] at HO3
    clear HO2
    have hb2 : Below w1.heap.size w1 (((w2.drewN nq).setCell ⟨g, 2 * k, none⟩ (.int .u8 ((y : Int) / 256))).setCell ⟨g, 2 * k + 1, none⟩ (.int .u8 ((y : Int) % 256))) :=
      ((below_drewN ((Below.refl _ _).grown HG.out (Nat.le_refl _) (by simp [blk])) nq).setCell (p := ⟨g, 2 * k, none⟩) hg1 _).setCell (p := ⟨g, 2 * k + 1, none⟩) hg1 _
    have hsz : (((w2.drewN nq).setCell ⟨g, 2 * k, none⟩ (.int .u8 ((y : Int) / 256))).setCell ⟨g, 2 * k + 1, none⟩ (.int .u8 ((y : Int) % 256))).heap.size = w2.heap.size := by simp [World.setCell]
    have HA := Lib.hid (fun l' hl hs => anew_all l k u0 u1 y (by omega) HU0.out HU1.out l' hl hs)
    have hll : ((l.set (2 * k) (UInt8.ofNat (y / 256))).set (2 * k + 1) (UInt8.ofNat (y % 256))).length = n := by rw [List.length_set, List.length_set]; exact HL.out
    rw [← z0, ← z1] at HO3
    obtain ⟨l', hl'⟩ : ∃ l', l' = (l.set (2 * k) (UInt8.ofNat (y / 256))).set (2 * k + 1) (UInt8.ofNat (y % 256)) := ⟨_, rfl⟩
    have HAL := Lib.hid (HA.out l' hl')
    rw [← hl'] at HO3 hll
    generalize ((w2.drewN nq).setCell ⟨g, 2 * k, none⟩ (.int .u8 ((y : Int) / 256))).setCell ⟨g, 2 * k + 1, none⟩ (.int .u8 ((y : Int) % 256)) = W2 at HO3 hb2 hsz ⊢
    have HOX := Lib.hid HO3
    have HLL := Lib.hid hll
    obtain ⟨g', hgg, _, hg5, hcell, hfro⟩ := HO3.open_ (by omega)
    injection hgg with hgg
    injection hgg with hgg
    subst hgg
    have HCL := Lib.hid hcell
    clear hc0 hc1 hf0 hf1 hcell hfro hl' HO3 hll z0 z1 hk
    go_loop [11, 12] (fun s j => ∃ m : Nat, m ≤ n ∧ j = .int .i64 m ∧ s = .bool ((l'.take m).any fun u => u != 0)) (fun _ j => n - (intOf j).toNat)
    case atStart => exact ⟨0, Nat.zero_le _, rfl, rfl⟩
    case round =>
      obtain ⟨m, hm, rfl, rfl⟩ := hrel
      by_cases hlt : m < n
      · obtain ⟨v, hv⟩ := get_ex l' (k := m) (by have := HLL.out; omega)
        have hcv := HCL.out m _ (bv_get l' m v hv)
        have HS := Lib.hid (take_snoc l' m v hv)
        have hvb := byte_le v
        clear hv
        generalize hq : ((l'.take m).any fun u => u != 0) = q
        have HQ := Lib.hid hq
        clear hq
        cases q
        all_goals
          go_wp2
          go_round
          case rel =>
            refine ⟨m + 1, by omega, by go_num, ?_⟩
            rw [HS.out, any_snoc, HQ.out]
            first | rfl | (rw [u8_ne]; rfl)
          case measure => simp [intOf]; omega
      · have : m = n := by omega
        subst this
        rw [List.take_of_length_le (by have := HLL.out; omega)]
        generalize hq : (l'.any fun u => u != 0) = q
        have HQ := Lib.hid hq
        clear hq
        cases q
        · go_wp2_with fail
          go_ret
          exact ⟨rfl, bthen hw1 hb2⟩
        · have AB := Lib.hid (AR.out.below hb2)
          go_wp2_with fail
          refine (of_lit #[.slice A m ca] [⟨A, m, ca, l⟩] 1 1 W2 rfl rfl (by omega) (by simp only [List.mem_cons, List.not_mem_nil, or_false]; rintro r rfl; exact AB.out) (by rw [flat_one]; omega) _ hsz).mono ?_
          rintro e w6 ⟨rfl, hb6⟩
          rw [flat_one]
          have hr1 := foldN_le (sumB false l)
          change rawN l ≤ 65535 at hr1
          have HO7 := Lib.hid (HOX.out.below hb6)
          have HT := HAL.out HQ.out
          generalize rawN l = r1 at hr1 HT
          have H8 := Lib.hid HT
          clear HT
          go_wp2_with fail
          refine (turn_any _ _ _ _ (by omega) (by omega) (by omega) (by omega) (by omega) (by omega)).mono ?_
          rintro e w7 ⟨rfl, rfl⟩
          have e9 : (65535 - ((65535 - r1 : Nat) : Int) + (65535 - ((u0.toNat : Int) * 256 + (u1.toNat : Int))) + (y : Int)).toNat = 65535 - (65535 - r1) + (65535 - (u0.toNat * 256 + u1.toNat)) + y := by omega
          rw [e9, H8.out]
          go_wp2_with fail
          refine (of_lit #[.slice (some ⟨g, 0, none⟩) m c2] [⟨some ⟨g, 0, none⟩, m, c2, l'⟩] 1 1 w6 rfl rfl (by omega) (by simp only [List.mem_cons, List.not_mem_nil, or_false]; rintro r rfl; exact HO7.out.ok) (by rw [flat_one]; have := HLL.out; omega) _ rfl).mono ?_
          rintro e w8 ⟨rfl, hb8⟩
          rw [flat_one]
          go_wp2_with fail
          go_ret
          exact ⟨ret_bool (by simp), bthen hw1 (bthen hb2 (bthen hb6 hb8))⟩
  · have key : (n : Int) < 2 ∨ (¬ (n : Int) < 2 ∧ 1000 < (n : Int)) := by omega
    clear hs ha
    rcases key with h | ⟨h1, h⟩
    all_goals
      go_enter Try.func6, Try.ntmps6
      go_wp2_with fail
      refine (awake_any _).mono ?_
      rintro e w1 ⟨rfl, hw1⟩
      go_wp2_with fail
      go_ret
      exact ⟨rfl, hw1⟩
end Go.Proofs.Ytjacgpankndigaa

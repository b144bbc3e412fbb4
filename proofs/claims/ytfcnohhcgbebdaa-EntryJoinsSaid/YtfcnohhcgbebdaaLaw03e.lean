/- The walk of layer 3's EntryJoins. No condition but those of the row. -/
import Derived.Test.YtfcnohhcgbebdaaAwake03
import Derived.Test.YtfcnohhcgbebdaaJoin3
import Derived.Test.YtfcnohhcgbebdaaOpenEnt
namespace Go.Proofs.Ytfcnohhcgbebdaa
open Go.RowKit
set_option linter.unusedVariables false
set_option linter.unusedSimpArgs false

theorem below_drewJ (w : World) : Below w.heap.size w w.drew := below_drewN (Below.refl _ _) 1
theorem evs_take (l : List Ent) (k : Nat) : (evs l).take (k * 4) = evs (l.take k) := by
  induction l generalizing k with
  | nil => simp [evs]
  | cons x l ih =>
    cases k with
    | zero => simp [evs]
    | succ k =>
      have e : evs (x :: l) = x.cells ++ evs l := rfl
      have e2 : evs (x :: l.take k) = x.cells ++ evs (l.take k) := rfl
      rw [List.take_succ_cons, e, e2, ← ih k, List.take_append, show x.cells.length = 4 from rfl, show (k + 1) * 4 - 4 = k * 4 by omega, List.take_of_length_le (show x.cells.length ≤ (k + 1) * 4 by show 4 ≤ _; omega)]
theorem Ent.wf.fitJ {x : Ent} (h : x.wf) : x.fit := ⟨(bd_i64 h.label).1, (bd_i64 h.label).2, h.cls.1, h.cls.2, h.ttl.1, h.ttl.2⟩

set_option maxHeartbeats 4000000 in
set_option maxRecDepth 20000 in
theorem walk_EntryJoins (w : World) (A : Option Addr) (n c : Nat) (l : List Ent) (hr : Row w w.heap.size 4 A n (evs l)) (hc : n ≤ c) (hcm : c ≤ maxLen) (hl : ∀ x ∈ l, x.wf)
    (A2 : Option Addr) (n2 c2 : Nat) (l2 : List Ent) (hr2 : Row w w.heap.size 4 A2 n2 (evs l2)) (hc2 : n2 ≤ c2) (hcm2 : c2 ≤ maxLen) (hl2 : ∀ x ∈ l2, x.wf) (hz : n ≤ 1099511627776000) (hz2 : n2 ≤ 1099511627776000) :
    Calls Try.prog 7 #[.slice A n c, .slice A2 n2 c2] w fun e w' => e = .returned (.bool true) ∧ Below w.heap.size w w' := by
  have HN := Lib.hid (ent_len hr)
  have HN2 := Lib.hid (ent_len hr2)
  have HR := Lib.hid hr
  have HQ := Lib.hid hr2
  have HF := Lib.hid (fun x hx => (hl x hx).fitJ)
  have HF2 := Lib.hid (fun x hx => (hl2 x hx).fitJ)
  clear hr hr2 hl hl2
  by_cases hn0 : n2 = 0
  · subst hn0
    go_enter Try.func7, Try.ntmps7
    go_wp2_with fail
    refine (awake_any _).mono ?_
    rintro e w1 ⟨rfl, hb1⟩
    go_wp2
    go_ret
    exact ⟨rfl, hb1⟩
  have hn0i : (((n2 : Int) == 0) : Bool) = false := by simp; omega
  by_cases hs : n + n2 ≤ 16
  rotate_left
  · have hs1 : (16 : Int) < (n : Int) + (n2 : Int) := by omega
    go_enter Try.func7, Try.ntmps7
    go_wp2_with fail
    refine (awake_any _).mono ?_
    rintro e w1 ⟨rfl, hb1⟩
    go_wp2
    go_ret
    exact ⟨rfl, hb1⟩
  have hs1 : ¬ (16 : Int) < (n : Int) + (n2 : Int) := by omega
  go_enter Try.func7, Try.ntmps7
  go_wp2_with fail
  refine (awake_any _).mono ?_
  rintro e w1 ⟨rfl, hb1⟩
  have HW1 := Lib.hid hb1
  have HR1 := Lib.hid ((HR.out.below hb1).more hb1.size)
  clear hb1
  have HB0 := Lib.hid hn0i
  go_wp2_with (first
    | (at_builtin; refine wpList_append_Own _ rfl (.tmp 30) (.tmp 31) 34 rfl w1.heap.size 23 _ 4 16 Try.underlying34 infoEntry rfl (by decide) none 0 0 [] rfl (Own.nil _ _ _ _ _) w1.heap.size A n c (evs l) rfl HR1.out (evs_one _) (by simp only [maxLen]; omega) (by omega) (Nat.le_refl _) ?_; intro A3 c3 w3 hown3 hg3 _; have HW3 := Lib.hid (HW1.out.grown hg3 HW1.out.size (fun k hk => by simp [blk] at hk)); have HO3 := Lib.hid (show Own w3 w1.heap.size 23 4 A3 n c3 (evs l) by simpa using hown3); have HQ3 := Lib.hid (HQ.out.below HW3.out); have HS3 := Lib.hid hg3.size; clear hown3 hg3)
    | (at_builtin; refine wpList_append_Own _ rfl (.tmp 33) (.tmp 34) 34 rfl w1.heap.size 23 _ 4 16 Try.underlying34 infoEntry rfl (by decide) A3 n c3 (evs l) rfl HO3.out w.heap.size A2 n2 c2 (evs l2) rfl HQ3.out (evs_one _) (by simp only [maxLen]; omega) (by omega) HS3.out ?_; intro A4 c4 w4 hown4 hg4 _; have HW4 := Lib.hid (HW3.out.grown hg4 HW3.out.size (fun k hk => Nat.le_trans HW1.out.size (HO3.out.lt k hk).1)); have HO4 := Lib.hid hown4; clear hown4 hg4))
  clear hn0i HB0
  rw [← evs_append] at HO4
  have hfit : ∀ x ∈ l ++ l2, x.fit := fun x hx => by
    rcases List.mem_append.1 hx with h | h
    · exact HF.out x h
    · exact HF2.out x h
  refine (put_any A4 (n + n2) c4 (l ++ l2) w4 HO4.out.row hfit (by omega)).mono ?_
  rintro e w5 ⟨A5, c5, rfl, hown5, hb5⟩
  have HW5 := Lib.hid (bthen HW4.out hb5)
  have HX5 := Lib.hid hown5
  clear hown5 hb5
  go_wp2_with fail
  refine (put_any A2 n2 c2 l2 w5 ((HQ.out.below HW5.out).more HW5.out.size) HF2.out (by omega)).mono ?_
  rintro e w6 ⟨A6, c6, rfl, hown6, hb6⟩
  have HW6 := Lib.hid (bthen HW5.out hb6)
  have HX6 := Lib.hid (HX5.out.below hb6)
  have HY6 := Lib.hid hown6
  clear hown6 hb6 HW5 HX5
  go_wp2_with fail
  refine (put_any A n c l w6 ((HR.out.below HW6.out).more HW6.out.size) HF.out (by omega)).mono ?_
  rintro e w7 ⟨A7, c7, rfl, hown7, hb7⟩
  have HW7 := Lib.hid (bthen HW6.out hb7)
  have HX7 := Lib.hid (HX6.out.below hb7)
  have HY7 := Lib.hid (HY6.out.below hb7)
  clear hown7 hb7 HW6 HX6 HY6 HW4 HO4 HW3 HO3 HQ3 HS3 HW1 HR1
  have hnn := HN.out
  have hnn2 := HN2.out
  have h16 : ¬ 16 < (l ++ l2).length := by rw [List.length_append]; omega
  by_cases hga : goodAll l
  rotate_left
  · have e1 : putL (l ++ l2) = ([], 1) := by unfold putL; rw [if_neg h16, if_neg (fun h => hga ((goodAll_append _ _).1 h).1)]
    have e3 : putL l = ([], 1) := by unfold putL; rw [if_neg (by omega), if_neg hga]
    rw [e1, e3]
    by_cases hgb : goodAll l2
    · rw [putL_yes (by omega) hgb]
      go_wp2
      go_ret
      exact ⟨rfl, HW7.out⟩
    · rw [show putL l2 = ([], 1) by unfold putL; rw [if_neg (by omega), if_neg hgb]]
      go_wp2
      go_ret
      exact ⟨rfl, HW7.out⟩
  by_cases hgb : goodAll l2
  rotate_left
  · have e1 : putL (l ++ l2) = ([], 1) := by unfold putL; rw [if_neg h16, if_neg (fun h => hgb ((goodAll_append _ _).1 h).2)]
    have e3 : putL l2 = ([], 1) := by unfold putL; rw [if_neg (by omega), if_neg hgb]
    rw [e1, e3, putL_yes (by omega) hga]
    go_wp2
    go_ret
    exact ⟨rfl, HW7.out⟩
  have hg : goodAll (l ++ l2) := (goodAll_append _ _).2 ⟨hga, hgb⟩
  have hll : (l ++ l2).length = n + n2 := by rw [List.length_append, hnn, hnn2]
  rw [putL_yes h16 hg] at HX7 ⊢
  rw [putL_yes (by omega) hgb] at HY7 ⊢
  rw [putL_yes (by omega) hga]
  have hpl := piecesTo_len4 _ hg _ (Nat.le_refl _)
  have hplb := piecesTo_len4 _ hgb _ (Nat.le_refl _)
  have hll1 : 0 < (l ++ l2).length := by rw [hll]; exact Nat.lt_of_lt_of_le (Nat.pos_of_ne_zero hn0) (Nat.le_add_left _ _)
  have hll2 : (l ++ l2).length ≤ 16 := by rw [hll]; exact hs
  have hput := stack_put _ hfit hg hll1 hll2 []
  have hlow := pieces_lower l l2 hg
  have hst := same_take l l2 hfit hg
  rw [List.append_nil] at hput
  obtain ⟨L, hL⟩ : ∃ L, piecesTo (l ++ l2) (l ++ l2).length = L := ⟨_, rfl⟩
  obtain ⟨LB, hLB⟩ : ∃ LB, piecesTo l2 l2.length = LB := ⟨_, rfl⟩
  rw [hL] at hpl hput hlow hst HX7 ⊢
  rw [hLB] at hplb hlow HY7 ⊢
  rw [hll] at hpl hput hst
  rw [hnn2] at hplb
  rw [hnn] at hlow hst
  simp only [hpl, hplb] at HX7 HY7 ⊢
  have HP := Lib.hid hput
  have HLW := Lib.hid hlow
  have HST := Lib.hid hst
  clear hput hlow hst hL hLB hpl hplb hg hga hgb hfit h16 hll hll1 hll2
  have hpos : 0 < n + n2 := Nat.lt_of_lt_of_le (Nat.pos_of_ne_zero hn0) (Nat.le_add_left _ _)
  have hpos4 : 0 < 4 * (n + n2) := Nat.mul_pos (by decide) hpos
  obtain ⟨g5, rfl, hg5, hg5', hcl5, hfr5⟩ := HX7.out.open_ hpos4
  have hle5 := HX7.out.le
  clear hg5 hg5' hcl5 hfr5
  go_wp2_with fail
  refine (stack_any (some ⟨g5, 0, none⟩) (4 * (n + n2)) c5 L w7 HX7.out.row HX7.out.le HX7.out.cap (by omega)).mono ?_
  rintro e w8 ⟨A8, c8, rfl, hown8, hb8⟩
  rw [HP.out] at hown8 ⊢
  simp only [outs_length] at hown8 ⊢
  obtain ⟨g8, rfl, hg8, hg8', hcl8, hfr8⟩ := hown8.open_ hpos
  have hle8 := hown8.le
  have HW8 := Lib.hid (bthen HW7.out hb8)
  have hr5 := (HX7.out.below hb8).row.cut (k := 4 * n) (cap := c5) (by omega) hle5
  have hlt5 : 4 * n < 4 * (n + n2) := Nat.mul_lt_mul_of_pos_left (Nat.lt_add_of_pos_right (Nat.pos_of_ne_zero hn0)) (by decide)
  have HC5 := Lib.hid (show ¬ c5 = 4 * n from Nat.ne_of_gt (Nat.lt_of_lt_of_le hlt5 hle5))
  rw [if_neg HC5.out] at hr5
  have hadd : Option.map (fun x : Addr => x.add (4 * n * 1)) (some ⟨g5, 0, none⟩) = some ⟨g5, 4 * n, none⟩ := by simp [Addr.add]; try (intro h; omega)
  rw [hadd, Nat.mul_one, show (bv L).drop (4 * n) = bv LB by rw [← HLW.out]; simp [bv]] at hr5
  have HLB5 := Lib.hid (show (Bs.mk (some ⟨g5, 4 * n, none⟩) (4 * (n + n2) - 4 * n) (c5 - 4 * n) LB).ok w8 from ⟨hr5, by show 4 * (n + n2) - 4 * n ≤ c5 - 4 * n; omega, by show c5 - 4 * n ≤ maxLen; have := HX7.out.cap; omega⟩)
  have HX6 := Lib.hid ((HY7.out.below hb8).ok)
  have hr8 := hown8.row.take (k := n) (by omega)
  rw [show (evs (outs L (n + n2))).take (n * 4) = evs ((outs L (n + n2)).take n) from evs_take _ _] at hr8
  have HT8 := Lib.hid hr8
  have HSM := Lib.hid HST.out
  have hi8 : (n : Int) ≤ (c8 : Int) := by omega
  have hi5 : 4 * (n : Int) ≤ 4 * ((n : Int) + (n2 : Int)) := by omega
  have hi5' : 4 * ((n : Int) + (n2 : Int)) ≤ (c5 : Int) := by omega
  have hcast : ((4 * (n + n2) : Nat) : Int) = 4 * ((n : Int) + (n2 : Int)) := by omega
  have ht5 : (4 * (n : Int)).toNat = 4 * n := by omega
  clear hg8 hg8' hcl8 hfr8 hown8 hb8 hr5 hr8 HST HLW HP hadd
  go_wp2_with fail
  refine wp_region_rel (fun A B => A.grownBy B none) (fun A => grown_refl A _) (fun A B C h k => grown_trans h k) (relAt (List.cons (fun v _ => v = .int .i64 0) (List.cons (fun v _ => v = .bool true) (List.cons (fun v _ => v = .bool true) (List.cons (fun v _ => v = .int .i64 0) (List.cons (fun v _ => v = .bool true) (List.cons (fun v _ => v = .bool true) (List.cons (fun v _ => v = .bool true) (List.cons (fun v _ => v = .int .i64 (4 * ((n : Int) + (n2 : Int)))) (List.cons (fun v _ => v = .slice A4 (n + n2) c4) (List.cons (fun v _ => v = .int .i64 ((n : Int) + (n2 : Int))) (List.cons (fun v _ => v = .int .i64 (4 * ((n : Int) + (n2 : Int)))) (List.cons (fun v _ => v = .bool true) (List.cons (fun v _ => v = .bool true) (List.cons (fun v _ => v = .bool true) (List.cons (fun v _ => v = .slice (some ⟨g5, 0, none⟩) (4 * (n + n2)) c5) (List.cons (fun v _ => v = .slice A n c) (List.cons (fun v _ => v = .int .i64 (n : Int)) (List.cons (fun v _ => v = .int .i64 (4 * (n : Int))) (List.cons (fun v _ => v = .slice (some ⟨g5, 4 * n, none⟩) (4 * (n + n2) - 4 * n) (c5 - 4 * n)) (List.cons (fun v _ => v = str LB) (List.cons (fun v _ => v = .slice A6 (4 * n2) c6) (List.cons (fun v _ => v = str LB) (List.cons (fun v _ => v = .bool true) (List.cons (fun v _ => v = .bool true) (List.cons (fun v _ => v = .bool true) (List.cons (fun v _ => v = .slice (some ⟨g8, 0, none⟩) (n + n2) c8) (List.cons (fun v _ => v = .slice A n c) (List.cons (fun v _ => v = .int .i64 (n : Int)) (List.cons (fun v _ => v = .slice (some ⟨g8, 0, none⟩) n c8) (List.cons (fun v _ => v = .slice A n c) (List.cons (fun v _ => v = .bool true) (List.cons (fun v _ => v = .bool true) (List.cons (fun v _ => v = .bool true) ([]))))))))))))))))))))))))))))))))))) (MonoL.at_ (.cons (mono_val _) (.cons (mono_val _) (.cons (mono_val _) (.cons (mono_val _) (.cons (mono_val _) (.cons (mono_val _) (.cons (mono_val _) (.cons (mono_val _) (.cons (mono_val _) (.cons (mono_val _) (.cons (mono_val _) (.cons (mono_val _) (.cons (mono_val _) (.cons (mono_val _) (.cons (mono_val _) (.cons (mono_val _) (.cons (mono_val _) (.cons (mono_val _) (.cons (mono_val _) (.cons (mono_val _) (.cons (mono_val _) (.cons (mono_val _) (.cons (mono_val _) (.cons (mono_val _) (.cons (mono_val _) (.cons (mono_val _) (.cons (mono_val _) (.cons (mono_val _) (.cons (mono_val _) (.cons (mono_val _) (.cons (mono_val _) (.cons (mono_val _) (.cons (mono_val _) .nil)))))))))))))))))))))))))))))))))) (by kernel_rfl) (by kernel_rfl) ⟨?_, ?_, ?_, ?_, ?_, ?_, ?_, ?_, ?_, ?_, ?_, ?_, ?_, ?_, ?_, ?_, ?_, ?_, ?_, ?_, ?_, ?_, ?_, ?_, ?_, ?_, ?_, ?_, ?_, ?_, ?_, ?_, ?_, trivial⟩ ?_
  · intro a vs W hX hR he hf K hK
    rw [if_pos (wanted_none rfl)]
    have e12 : a.eval (.tmp 12) = .int .i64 0 := hf 12 (by kernel_rfl)
    refine wp_value (v := .int .i64 0) ?_ (hK _ _ rfl (grown_refl W _))
    simp only [execOp, e12]
    try go_simp
    try (first | rfl | omega | (simp only [IntKind.wrap_i64, IntKind.wrap_u8, IntKind.wrap_u64, IntKind.wrap_u16, IntKind.wrap_u32]; omega) | (rw [Int.tmod_eq_emod_of_nonneg (by omega)]) | (rw [Int.tmod_eq_emod_of_nonneg (by omega)]; omega))
  · intro a vs W hX hR he hf K hK
    rw [if_pos (wanted_none rfl)]
    have e73 : a.eval (.tmp 73) = .int .i64 0 := (he 0 73 (by kernel_rfl) rfl).trans (hR 0 (by kernel_rfl))
    refine wp_value (v := .bool true) ?_ (hK _ _ rfl (grown_refl W _))
    simp only [execOp, e73]
    try go_simp
    try (first | rfl | omega | (simp only [IntKind.wrap_i64, IntKind.wrap_u8, IntKind.wrap_u64, IntKind.wrap_u16, IntKind.wrap_u32]; omega) | (rw [Int.tmod_eq_emod_of_nonneg (by omega)]) | (rw [Int.tmod_eq_emod_of_nonneg (by omega)]; omega))
  · intro a vs W hX hR he hf K hK
    rw [if_pos (wanted_none rfl)]
    have e74 : a.eval (.tmp 74) = .bool true := (he 1 74 (by kernel_rfl) rfl).trans (hR 1 (by kernel_rfl))
    refine wp_value (v := .bool true) ?_ (hK _ _ rfl (grown_refl W _))
    simp only [execOp, e74]
    try go_simp
    try (first | rfl | omega | (simp only [IntKind.wrap_i64, IntKind.wrap_u8, IntKind.wrap_u64, IntKind.wrap_u16, IntKind.wrap_u32]; omega) | (rw [Int.tmod_eq_emod_of_nonneg (by omega)]) | (rw [Int.tmod_eq_emod_of_nonneg (by omega)]; omega))
  · intro a vs W hX hR he hf K hK
    have e75 : a.eval (.tmp 75) = .bool true := (he 2 75 (by kernel_rfl) rfl).trans (hR 2 (by kernel_rfl))
    refine Eq.mpr (if_pos (by exact (wanted_some rfl rfl e75).trans rfl)) ?_
    have e15 : a.eval (.tmp 15) = .int .i64 0 := hf 15 (by kernel_rfl)
    refine wp_value (v := .int .i64 0) ?_ (hK _ _ rfl (grown_refl W _))
    simp only [execOp, e15]
    try go_simp
    try (first | rfl | omega | (simp only [IntKind.wrap_i64, IntKind.wrap_u8, IntKind.wrap_u64, IntKind.wrap_u16, IntKind.wrap_u32]; omega) | (rw [Int.tmod_eq_emod_of_nonneg (by omega)]) | (rw [Int.tmod_eq_emod_of_nonneg (by omega)]; omega))
  · intro a vs W hX hR he hf K hK
    have e75 : a.eval (.tmp 75) = .bool true := (he 2 75 (by kernel_rfl) rfl).trans (hR 2 (by kernel_rfl))
    refine Eq.mpr (if_pos (by exact (wanted_some rfl rfl e75).trans rfl)) ?_
    have e76 : a.eval (.tmp 76) = .int .i64 0 := (he 3 76 (by kernel_rfl) rfl).trans (hR 3 (by kernel_rfl))
    refine wp_value (v := .bool true) ?_ (hK _ _ rfl (grown_refl W _))
    simp only [execOp, e76]
    try go_simp
    try (first | rfl | omega | (simp only [IntKind.wrap_i64, IntKind.wrap_u8, IntKind.wrap_u64, IntKind.wrap_u16, IntKind.wrap_u32]; omega) | (rw [Int.tmod_eq_emod_of_nonneg (by omega)]) | (rw [Int.tmod_eq_emod_of_nonneg (by omega)]; omega))
  · intro a vs W hX hR he hf K hK
    rw [if_pos (wanted_none rfl)]
    have e75 : a.eval (.tmp 75) = .bool true := (he 2 75 (by kernel_rfl) rfl).trans (hR 2 (by kernel_rfl))
    have e77 : a.eval (.tmp 77) = .bool true := (he 4 77 (by kernel_rfl) rfl).trans (hR 4 (by kernel_rfl))
    refine wp_value (v := .bool true) ?_ (hK _ _ rfl (grown_refl W _))
    simp only [execOp, e75, e77]
    try go_simp
    try (first | rfl | omega | (simp only [IntKind.wrap_i64, IntKind.wrap_u8, IntKind.wrap_u64, IntKind.wrap_u16, IntKind.wrap_u32]; omega) | (rw [Int.tmod_eq_emod_of_nonneg (by omega)]) | (rw [Int.tmod_eq_emod_of_nonneg (by omega)]; omega))
  · intro a vs W hX hR he hf K hK
    rw [if_pos (wanted_none rfl)]
    have e78 : a.eval (.tmp 78) = .bool true := (he 5 78 (by kernel_rfl) rfl).trans (hR 5 (by kernel_rfl))
    refine wp_value (v := .bool true) ?_ (hK _ _ rfl (grown_refl W _))
    simp only [execOp, e78]
    try go_simp
    try (first | rfl | omega | (simp only [IntKind.wrap_i64, IntKind.wrap_u8, IntKind.wrap_u64, IntKind.wrap_u16, IntKind.wrap_u32]; omega) | (rw [Int.tmod_eq_emod_of_nonneg (by omega)]) | (rw [Int.tmod_eq_emod_of_nonneg (by omega)]; omega))
  · intro a vs W hX hR he hf K hK
    have e79 : a.eval (.tmp 79) = .bool true := (he 6 79 (by kernel_rfl) rfl).trans (hR 6 (by kernel_rfl))
    refine Eq.mpr (if_pos (by exact (wanted_some rfl rfl e79).trans rfl)) ?_
    have e14 : a.eval (.tmp 14) = .int .i64 (4 * ((n : Int) + (n2 : Int))) := hf 14 (by kernel_rfl)
    refine wp_value (v := .int .i64 (4 * ((n : Int) + (n2 : Int)))) ?_ (hK _ _ rfl (grown_refl W _))
    simp only [execOp, e14]
    try go_simp
    try (first | rfl | omega | (simp only [IntKind.wrap_i64, IntKind.wrap_u8, IntKind.wrap_u64, IntKind.wrap_u16, IntKind.wrap_u32]; omega) | (rw [Int.tmod_eq_emod_of_nonneg (by omega)]) | (rw [Int.tmod_eq_emod_of_nonneg (by omega)]; omega))
  · intro a vs W hX hR he hf K hK
    have e79 : a.eval (.tmp 79) = .bool true := (he 6 79 (by kernel_rfl) rfl).trans (hR 6 (by kernel_rfl))
    refine Eq.mpr (if_pos (by exact (wanted_some rfl rfl e79).trans rfl)) ?_
    have e6 : a.eval (.tmp 6) = .slice A4 (n + n2) c4 := hf 6 (by kernel_rfl)
    refine wp_value (v := .slice A4 (n + n2) c4) ?_ (hK _ _ rfl (grown_refl W _))
    simp only [execOp, e6]
    try go_simp
    try (first | rfl | omega | (simp only [IntKind.wrap_i64, IntKind.wrap_u8, IntKind.wrap_u64, IntKind.wrap_u16, IntKind.wrap_u32]; omega) | (rw [Int.tmod_eq_emod_of_nonneg (by omega)]) | (rw [Int.tmod_eq_emod_of_nonneg (by omega)]; omega))
  · intro a vs W hX hR he hf K hK
    have e79 : a.eval (.tmp 79) = .bool true := (he 6 79 (by kernel_rfl) rfl).trans (hR 6 (by kernel_rfl))
    refine Eq.mpr (if_pos (by exact (wanted_some rfl rfl e79).trans rfl)) ?_
    have e81 : a.eval (.tmp 81) = .slice A4 (n + n2) c4 := (he 8 81 (by kernel_rfl) rfl).trans (hR 8 (by kernel_rfl))
    have f81 := e81
    simp only [Act.eval, Array.getD_eq_getD_getElem?] at f81
    refine wp_value (v := .int .i64 ((n : Int) + (n2 : Int))) ?_ (hK _ _ rfl (grown_refl W _))
    simp only [execOp, e81]
    try go_simp
    try (first | rfl | omega | (simp only [IntKind.wrap_i64, IntKind.wrap_u8, IntKind.wrap_u64, IntKind.wrap_u16, IntKind.wrap_u32]; omega) | (rw [Int.tmod_eq_emod_of_nonneg (by omega)]) | (rw [Int.tmod_eq_emod_of_nonneg (by omega)]; omega))
  · intro a vs W hX hR he hf K hK
    have e79 : a.eval (.tmp 79) = .bool true := (he 6 79 (by kernel_rfl) rfl).trans (hR 6 (by kernel_rfl))
    refine Eq.mpr (if_pos (by exact (wanted_some rfl rfl e79).trans rfl)) ?_
    have e82 : a.eval (.tmp 82) = .int .i64 ((n : Int) + (n2 : Int)) := (he 9 82 (by kernel_rfl) rfl).trans (hR 9 (by kernel_rfl))
    refine wp_value (v := .int .i64 (4 * ((n : Int) + (n2 : Int)))) ?_ (hK _ _ rfl (grown_refl W _))
    simp only [execOp, e82]
    try go_simp
    try (first | rfl | omega | (simp only [IntKind.wrap_i64, IntKind.wrap_u8, IntKind.wrap_u64, IntKind.wrap_u16, IntKind.wrap_u32]; omega) | (rw [Int.tmod_eq_emod_of_nonneg (by omega)]) | (rw [Int.tmod_eq_emod_of_nonneg (by omega)]; omega))
  · intro a vs W hX hR he hf K hK
    have e79 : a.eval (.tmp 79) = .bool true := (he 6 79 (by kernel_rfl) rfl).trans (hR 6 (by kernel_rfl))
    refine Eq.mpr (if_pos (by exact (wanted_some rfl rfl e79).trans rfl)) ?_
    have e80 : a.eval (.tmp 80) = .int .i64 (4 * ((n : Int) + (n2 : Int))) := (he 7 80 (by kernel_rfl) rfl).trans (hR 7 (by kernel_rfl))
    have e83 : a.eval (.tmp 83) = .int .i64 (4 * ((n : Int) + (n2 : Int))) := (he 10 83 (by kernel_rfl) rfl).trans (hR 10 (by kernel_rfl))
    refine wp_value (v := _) ?_ (hK _ _ rfl (grown_refl W _))
    simp only [execOp, e80, e83]
    go_simp
    try simp
  · intro a vs W hX hR he hf K hK
    rw [if_pos (wanted_none rfl)]
    have e79 : a.eval (.tmp 79) = .bool true := (he 6 79 (by kernel_rfl) rfl).trans (hR 6 (by kernel_rfl))
    have e84 : a.eval (.tmp 84) = .bool true := (he 11 84 (by kernel_rfl) rfl).trans (hR 11 (by kernel_rfl))
    refine wp_value (v := .bool true) ?_ (hK _ _ rfl (grown_refl W _))
    simp only [execOp, e79, e84]
    try go_simp
    try (first | rfl | omega | (simp only [IntKind.wrap_i64, IntKind.wrap_u8, IntKind.wrap_u64, IntKind.wrap_u16, IntKind.wrap_u32]; omega) | (rw [Int.tmod_eq_emod_of_nonneg (by omega)]) | (rw [Int.tmod_eq_emod_of_nonneg (by omega)]; omega))
  · intro a vs W hX hR he hf K hK
    rw [if_pos (wanted_none rfl)]
    have e85 : a.eval (.tmp 85) = .bool true := (he 12 85 (by kernel_rfl) rfl).trans (hR 12 (by kernel_rfl))
    refine wp_value (v := .bool true) ?_ (hK _ _ rfl (grown_refl W _))
    simp only [execOp, e85]
    try go_simp
    try (first | rfl | omega | (simp only [IntKind.wrap_i64, IntKind.wrap_u8, IntKind.wrap_u64, IntKind.wrap_u16, IntKind.wrap_u32]; omega) | (rw [Int.tmod_eq_emod_of_nonneg (by omega)]) | (rw [Int.tmod_eq_emod_of_nonneg (by omega)]; omega))
  · intro a vs W hX hR he hf K hK
    have e86 : a.eval (.tmp 86) = .bool true := (he 13 86 (by kernel_rfl) rfl).trans (hR 13 (by kernel_rfl))
    refine Eq.mpr (if_pos (by exact (wanted_some rfl rfl e86).trans rfl)) ?_
    have e7 : a.eval (.tmp 7) = .slice (some ⟨g5, 0, none⟩) (4 * (n + n2)) c5 := hf 7 (by kernel_rfl)
    refine wp_value (v := .slice (some ⟨g5, 0, none⟩) (4 * (n + n2)) c5) ?_ (hK _ _ rfl (grown_refl W _))
    simp only [execOp, e7]
    try go_simp
    try (first | rfl | omega | (simp only [IntKind.wrap_i64, IntKind.wrap_u8, IntKind.wrap_u64, IntKind.wrap_u16, IntKind.wrap_u32]; omega) | (rw [Int.tmod_eq_emod_of_nonneg (by omega)]) | (rw [Int.tmod_eq_emod_of_nonneg (by omega)]; omega))
  · intro a vs W hX hR he hf K hK
    have e86 : a.eval (.tmp 86) = .bool true := (he 13 86 (by kernel_rfl) rfl).trans (hR 13 (by kernel_rfl))
    refine Eq.mpr (if_pos (by exact (wanted_some rfl rfl e86).trans rfl)) ?_
    have e0 : a.eval (.tmp 0) = .slice A n c := hf 0 (by kernel_rfl)
    refine wp_value (v := .slice A n c) ?_ (hK _ _ rfl (grown_refl W _))
    simp only [execOp, e0]
    try go_simp
    try (first | rfl | omega | (simp only [IntKind.wrap_i64, IntKind.wrap_u8, IntKind.wrap_u64, IntKind.wrap_u16, IntKind.wrap_u32]; omega) | (rw [Int.tmod_eq_emod_of_nonneg (by omega)]) | (rw [Int.tmod_eq_emod_of_nonneg (by omega)]; omega))
  · intro a vs W hX hR he hf K hK
    have e86 : a.eval (.tmp 86) = .bool true := (he 13 86 (by kernel_rfl) rfl).trans (hR 13 (by kernel_rfl))
    refine Eq.mpr (if_pos (by exact (wanted_some rfl rfl e86).trans rfl)) ?_
    have e88 : a.eval (.tmp 88) = .slice A n c := (he 15 88 (by kernel_rfl) rfl).trans (hR 15 (by kernel_rfl))
    have f88 := e88
    simp only [Act.eval, Array.getD_eq_getD_getElem?] at f88
    refine wp_value (v := .int .i64 (n : Int)) ?_ (hK _ _ rfl (grown_refl W _))
    simp only [execOp, e88]
    try go_simp
    try (first | rfl | omega | (simp only [IntKind.wrap_i64, IntKind.wrap_u8, IntKind.wrap_u64, IntKind.wrap_u16, IntKind.wrap_u32]; omega) | (rw [Int.tmod_eq_emod_of_nonneg (by omega)]) | (rw [Int.tmod_eq_emod_of_nonneg (by omega)]; omega))
  · intro a vs W hX hR he hf K hK
    have e86 : a.eval (.tmp 86) = .bool true := (he 13 86 (by kernel_rfl) rfl).trans (hR 13 (by kernel_rfl))
    refine Eq.mpr (if_pos (by exact (wanted_some rfl rfl e86).trans rfl)) ?_
    have e89 : a.eval (.tmp 89) = .int .i64 (n : Int) := (he 16 89 (by kernel_rfl) rfl).trans (hR 16 (by kernel_rfl))
    refine wp_value (v := .int .i64 (4 * (n : Int))) ?_ (hK _ _ rfl (grown_refl W _))
    simp only [execOp, e89]
    try go_simp
    try (first | rfl | omega | (simp only [IntKind.wrap_i64, IntKind.wrap_u8, IntKind.wrap_u64, IntKind.wrap_u16, IntKind.wrap_u32]; omega) | (rw [Int.tmod_eq_emod_of_nonneg (by omega)]) | (rw [Int.tmod_eq_emod_of_nonneg (by omega)]; omega))
  · intro a vs W hX hR he hf K hK
    have e86 : a.eval (.tmp 86) = .bool true := (he 13 86 (by kernel_rfl) rfl).trans (hR 13 (by kernel_rfl))
    refine Eq.mpr (if_pos (by exact (wanted_some rfl rfl e86).trans rfl)) ?_
    have e87 : a.eval (.tmp 87) = .slice (some ⟨g5, 0, none⟩) (4 * (n + n2)) c5 := (he 14 87 (by kernel_rfl) rfl).trans (hR 14 (by kernel_rfl))
    have e90 : a.eval (.tmp 90) = .int .i64 (4 * (n : Int)) := (he 17 90 (by kernel_rfl) rfl).trans (hR 17 (by kernel_rfl))
    have g90 := e90
    simp only [Act.eval, Array.getD_eq_getD_getElem?] at g90
    refine wp_value (v := _) ?_ (hK _ _ rfl (grown_refl W _))
    simp only [execOp, e87]
    go_simp
    rw [if_pos (by omega), if_neg HC5.out]
  · intro a vs W hX hR he hf K hK
    have e86 : a.eval (.tmp 86) = .bool true := (he 13 86 (by kernel_rfl) rfl).trans (hR 13 (by kernel_rfl))
    refine Eq.mpr (if_pos (by exact (wanted_some rfl rfl e86).trans rfl)) ?_
    have e91 : a.eval (.tmp 91) = .slice (some ⟨g5, 4 * n, none⟩) (4 * (n + n2) - 4 * n) (c5 - 4 * n) := (he 18 91 (by kernel_rfl) rfl).trans (hR 18 (by kernel_rfl))
    have hbW := bthen (below_drew _) (grow_below hX)
    exact wp_value (exec_str 24 9 5 _ rfl Try.underlying24 Try.underlying5 Try.underlying9 _ _ _ _ e91 (HLB5.out.below hbW)) (hK _ _ rfl (grown_refl W _))
  · intro a vs W hX hR he hf K hK
    have e86 : a.eval (.tmp 86) = .bool true := (he 13 86 (by kernel_rfl) rfl).trans (hR 13 (by kernel_rfl))
    refine Eq.mpr (if_pos (by exact (wanted_some rfl rfl e86).trans rfl)) ?_
    have e9 : a.eval (.tmp 9) = .slice A6 (4 * n2) c6 := hf 9 (by kernel_rfl)
    refine wp_value (v := .slice A6 (4 * n2) c6) ?_ (hK _ _ rfl (grown_refl W _))
    simp only [execOp, e9]
    try go_simp
    try (first | rfl | omega | (simp only [IntKind.wrap_i64, IntKind.wrap_u8, IntKind.wrap_u64, IntKind.wrap_u16, IntKind.wrap_u32]; omega) | (rw [Int.tmod_eq_emod_of_nonneg (by omega)]) | (rw [Int.tmod_eq_emod_of_nonneg (by omega)]; omega))
  · intro a vs W hX hR he hf K hK
    have e86 : a.eval (.tmp 86) = .bool true := (he 13 86 (by kernel_rfl) rfl).trans (hR 13 (by kernel_rfl))
    refine Eq.mpr (if_pos (by exact (wanted_some rfl rfl e86).trans rfl)) ?_
    have e93 : a.eval (.tmp 93) = .slice A6 (4 * n2) c6 := (he 20 93 (by kernel_rfl) rfl).trans (hR 20 (by kernel_rfl))
    have hbW := bthen (below_drew _) (grow_below hX)
    exact wp_value (exec_str 24 9 5 _ rfl Try.underlying24 Try.underlying5 Try.underlying9 A6 _ c6 _ e93 (HX6.out.below hbW)) (hK _ _ rfl (grown_refl W _))
  · intro a vs W hX hR he hf K hK
    have e86 : a.eval (.tmp 86) = .bool true := (he 13 86 (by kernel_rfl) rfl).trans (hR 13 (by kernel_rfl))
    refine Eq.mpr (if_pos (by exact (wanted_some rfl rfl e86).trans rfl)) ?_
    have e92 : a.eval (.tmp 92) = str LB := (he 19 92 (by kernel_rfl) rfl).trans (hR 19 (by kernel_rfl))
    have e94 : a.eval (.tmp 94) = str LB := (he 21 94 (by kernel_rfl) rfl).trans (hR 21 (by kernel_rfl))
    refine wp_value (v := .bool true) ?_ (hK _ _ rfl (grown_refl W _))
    simp only [execOp, e92, e94]
    try go_simp
    try (first | rfl | omega | (simp only [IntKind.wrap_i64, IntKind.wrap_u8, IntKind.wrap_u64, IntKind.wrap_u16, IntKind.wrap_u32]; omega) | (rw [Int.tmod_eq_emod_of_nonneg (by omega)]) | (rw [Int.tmod_eq_emod_of_nonneg (by omega)]; omega))
  · intro a vs W hX hR he hf K hK
    rw [if_pos (wanted_none rfl)]
    have e86 : a.eval (.tmp 86) = .bool true := (he 13 86 (by kernel_rfl) rfl).trans (hR 13 (by kernel_rfl))
    have e95 : a.eval (.tmp 95) = .bool true := (he 22 95 (by kernel_rfl) rfl).trans (hR 22 (by kernel_rfl))
    refine wp_value (v := .bool true) ?_ (hK _ _ rfl (grown_refl W _))
    simp only [execOp, e86, e95]
    try go_simp
    try (first | rfl | omega | (simp only [IntKind.wrap_i64, IntKind.wrap_u8, IntKind.wrap_u64, IntKind.wrap_u16, IntKind.wrap_u32]; omega) | (rw [Int.tmod_eq_emod_of_nonneg (by omega)]) | (rw [Int.tmod_eq_emod_of_nonneg (by omega)]; omega))
  · intro a vs W hX hR he hf K hK
    rw [if_pos (wanted_none rfl)]
    have e96 : a.eval (.tmp 96) = .bool true := (he 23 96 (by kernel_rfl) rfl).trans (hR 23 (by kernel_rfl))
    refine wp_value (v := .bool true) ?_ (hK _ _ rfl (grown_refl W _))
    simp only [execOp, e96]
    try go_simp
    try (first | rfl | omega | (simp only [IntKind.wrap_i64, IntKind.wrap_u8, IntKind.wrap_u64, IntKind.wrap_u16, IntKind.wrap_u32]; omega) | (rw [Int.tmod_eq_emod_of_nonneg (by omega)]) | (rw [Int.tmod_eq_emod_of_nonneg (by omega)]; omega))
  · intro a vs W hX hR he hf K hK
    have e97 : a.eval (.tmp 97) = .bool true := (he 24 97 (by kernel_rfl) rfl).trans (hR 24 (by kernel_rfl))
    refine Eq.mpr (if_pos (by exact (wanted_some rfl rfl e97).trans rfl)) ?_
    have e13 : a.eval (.tmp 13) = .slice (some ⟨g8, 0, none⟩) (n + n2) c8 := hf 13 (by kernel_rfl)
    refine wp_value (v := .slice (some ⟨g8, 0, none⟩) (n + n2) c8) ?_ (hK _ _ rfl (grown_refl W _))
    simp only [execOp, e13]
    try go_simp
    try (first | rfl | omega | (simp only [IntKind.wrap_i64, IntKind.wrap_u8, IntKind.wrap_u64, IntKind.wrap_u16, IntKind.wrap_u32]; omega) | (rw [Int.tmod_eq_emod_of_nonneg (by omega)]) | (rw [Int.tmod_eq_emod_of_nonneg (by omega)]; omega))
  · intro a vs W hX hR he hf K hK
    have e97 : a.eval (.tmp 97) = .bool true := (he 24 97 (by kernel_rfl) rfl).trans (hR 24 (by kernel_rfl))
    refine Eq.mpr (if_pos (by exact (wanted_some rfl rfl e97).trans rfl)) ?_
    have e0 : a.eval (.tmp 0) = .slice A n c := hf 0 (by kernel_rfl)
    refine wp_value (v := .slice A n c) ?_ (hK _ _ rfl (grown_refl W _))
    simp only [execOp, e0]
    try go_simp
    try (first | rfl | omega | (simp only [IntKind.wrap_i64, IntKind.wrap_u8, IntKind.wrap_u64, IntKind.wrap_u16, IntKind.wrap_u32]; omega) | (rw [Int.tmod_eq_emod_of_nonneg (by omega)]) | (rw [Int.tmod_eq_emod_of_nonneg (by omega)]; omega))
  · intro a vs W hX hR he hf K hK
    have e97 : a.eval (.tmp 97) = .bool true := (he 24 97 (by kernel_rfl) rfl).trans (hR 24 (by kernel_rfl))
    refine Eq.mpr (if_pos (by exact (wanted_some rfl rfl e97).trans rfl)) ?_
    have e99 : a.eval (.tmp 99) = .slice A n c := (he 26 99 (by kernel_rfl) rfl).trans (hR 26 (by kernel_rfl))
    have f99 := e99
    simp only [Act.eval, Array.getD_eq_getD_getElem?] at f99
    refine wp_value (v := .int .i64 (n : Int)) ?_ (hK _ _ rfl (grown_refl W _))
    simp only [execOp, e99]
    try go_simp
    try (first | rfl | omega | (simp only [IntKind.wrap_i64, IntKind.wrap_u8, IntKind.wrap_u64, IntKind.wrap_u16, IntKind.wrap_u32]; omega) | (rw [Int.tmod_eq_emod_of_nonneg (by omega)]) | (rw [Int.tmod_eq_emod_of_nonneg (by omega)]; omega))
  · intro a vs W hX hR he hf K hK
    have e97 : a.eval (.tmp 97) = .bool true := (he 24 97 (by kernel_rfl) rfl).trans (hR 24 (by kernel_rfl))
    refine Eq.mpr (if_pos (by exact (wanted_some rfl rfl e97).trans rfl)) ?_
    have e98 : a.eval (.tmp 98) = .slice (some ⟨g8, 0, none⟩) (n + n2) c8 := (he 25 98 (by kernel_rfl) rfl).trans (hR 25 (by kernel_rfl))
    have e100 : a.eval (.tmp 100) = .int .i64 (n : Int) := (he 27 100 (by kernel_rfl) rfl).trans (hR 27 (by kernel_rfl))
    have g100 := e100
    simp only [Act.eval, Array.getD_eq_getD_getElem?] at g100
    refine wp_value (v := _) ?_ (hK _ _ rfl (grown_refl W _))
    simp only [execOp, e98]
    go_simp
  · intro a vs W hX hR he hf K hK
    have e97 : a.eval (.tmp 97) = .bool true := (he 24 97 (by kernel_rfl) rfl).trans (hR 24 (by kernel_rfl))
    refine Eq.mpr (if_pos (by exact (wanted_some rfl rfl e97).trans rfl)) ?_
    have e0 : a.eval (.tmp 0) = .slice A n c := hf 0 (by kernel_rfl)
    refine wp_value (v := .slice A n c) ?_ (hK _ _ rfl (grown_refl W _))
    simp only [execOp, e0]
    try go_simp
    try (first | rfl | omega | (simp only [IntKind.wrap_i64, IntKind.wrap_u8, IntKind.wrap_u64, IntKind.wrap_u16, IntKind.wrap_u32]; omega) | (rw [Int.tmod_eq_emod_of_nonneg (by omega)]) | (rw [Int.tmod_eq_emod_of_nonneg (by omega)]; omega))
  · intro a vs W hX hR he hf K hK
    have e97 : a.eval (.tmp 97) = .bool true := (he 24 97 (by kernel_rfl) rfl).trans (hR 24 (by kernel_rfl))
    refine Eq.mpr (if_pos (by exact (wanted_some rfl rfl e97).trans rfl)) ?_
    have e101 : a.eval (.tmp 101) = .slice (some ⟨g8, 0, none⟩) n c8 := (he 28 101 (by kernel_rfl) rfl).trans (hR 28 (by kernel_rfl))
    have e102 : a.eval (.tmp 102) = .slice A n c := (he 29 102 (by kernel_rfl) rfl).trans (hR 29 (by kernel_rfl))
    have hbW := bthen (below_drew _) (grow_below hX)
    have g101 := e101
    simp only [Act.eval, Array.getD_eq_getD_getElem?] at g101
    have g102 := e102
    simp only [Act.eval, Array.getD_eq_getD_getElem?] at g102
    refine wp_enter (f := 18) (args := #[.slice (some ⟨g8, 0, none⟩) n c8, .slice A n c]) (by simp only [execOp]; go_simp; try simp [g101, g102]) ((same_any _ _ n n _ _ _ l W ((HT8.out.below hbW).more hbW.size) ((HR.out.below (bthen HW8.out hbW)).more (bthen HW8.out hbW).size) (by omega) (by omega)).mono ?_)
    rintro e w' ⟨rfl, hb⟩
    exact ⟨_, rfl, hK _ _ (congrArg Value.bool HSM.out) (below_grow hb _)⟩
  · intro a vs W hX hR he hf K hK
    rw [if_pos (wanted_none rfl)]
    have e97 : a.eval (.tmp 97) = .bool true := (he 24 97 (by kernel_rfl) rfl).trans (hR 24 (by kernel_rfl))
    have e103 : a.eval (.tmp 103) = .bool true := (he 30 103 (by kernel_rfl) rfl).trans (hR 30 (by kernel_rfl))
    refine wp_value (v := .bool true) ?_ (hK _ _ rfl (grown_refl W _))
    simp only [execOp, e97, e103]
    try go_simp
    try (first | rfl | omega | (simp only [IntKind.wrap_i64, IntKind.wrap_u8, IntKind.wrap_u64, IntKind.wrap_u16, IntKind.wrap_u32]; omega) | (rw [Int.tmod_eq_emod_of_nonneg (by omega)]) | (rw [Int.tmod_eq_emod_of_nonneg (by omega)]; omega))
  · intro a vs W hX hR he hf K hK
    rw [if_pos (wanted_none rfl)]
    have e104 : a.eval (.tmp 104) = .bool true := (he 31 104 (by kernel_rfl) rfl).trans (hR 31 (by kernel_rfl))
    refine wp_value (v := .bool true) ?_ (hK _ _ rfl (grown_refl W _))
    simp only [execOp, e104]
    try go_simp
    try (first | rfl | omega | (simp only [IntKind.wrap_i64, IntKind.wrap_u8, IntKind.wrap_u64, IntKind.wrap_u16, IntKind.wrap_u32]; omega) | (rw [Int.tmod_eq_emod_of_nonneg (by omega)]) | (rw [Int.tmod_eq_emod_of_nonneg (by omega)]; omega))
  · intro vs W hX hR
    have q0 := hR 0 (by decide)
    have q1 := hR 1 (by decide)
    have q2 := hR 2 (by decide)
    have q3 := hR 3 (by decide)
    have q4 := hR 4 (by decide)
    have q5 := hR 5 (by decide)
    have q6 := hR 6 (by decide)
    have q7 := hR 7 (by decide)
    have q8 := hR 8 (by decide)
    have q9 := hR 9 (by decide)
    have q10 := hR 10 (by decide)
    have q11 := hR 11 (by decide)
    have q12 := hR 12 (by decide)
    have q13 := hR 13 (by decide)
    have q14 := hR 14 (by decide)
    have q15 := hR 15 (by decide)
    have q16 := hR 16 (by decide)
    have q17 := hR 17 (by decide)
    have q18 := hR 18 (by decide)
    have q19 := hR 19 (by decide)
    have q20 := hR 20 (by decide)
    have q21 := hR 21 (by decide)
    have q22 := hR 22 (by decide)
    have q23 := hR 23 (by decide)
    have q24 := hR 24 (by decide)
    have q25 := hR 25 (by decide)
    have q26 := hR 26 (by decide)
    have q27 := hR 27 (by decide)
    have q28 := hR 28 (by decide)
    have q29 := hR 29 (by decide)
    have q30 := hR 30 (by decide)
    have q31 := hR 31 (by decide)
    have q32 := hR 32 (by decide)
    change vs 0 = .int .i64 0 at q0
    change vs 1 = .bool true at q1
    change vs 2 = .bool true at q2
    change vs 3 = .int .i64 0 at q3
    change vs 4 = .bool true at q4
    change vs 5 = .bool true at q5
    change vs 6 = .bool true at q6
    change vs 7 = .int .i64 (4 * ((n : Int) + (n2 : Int))) at q7
    change vs 8 = .slice A4 (n + n2) c4 at q8
    change vs 9 = .int .i64 ((n : Int) + (n2 : Int)) at q9
    change vs 10 = .int .i64 (4 * ((n : Int) + (n2 : Int))) at q10
    change vs 11 = .bool true at q11
    change vs 12 = .bool true at q12
    change vs 13 = .bool true at q13
    change vs 14 = .slice (some ⟨g5, 0, none⟩) (4 * (n + n2)) c5 at q14
    change vs 15 = .slice A n c at q15
    change vs 16 = .int .i64 (n : Int) at q16
    change vs 17 = .int .i64 (4 * (n : Int)) at q17
    change vs 18 = .slice (some ⟨g5, 4 * n, none⟩) (4 * (n + n2) - 4 * n) (c5 - 4 * n) at q18
    change vs 19 = str LB at q19
    change vs 20 = .slice A6 (4 * n2) c6 at q20
    change vs 21 = str LB at q21
    change vs 22 = .bool true at q22
    change vs 23 = .bool true at q23
    change vs 24 = .bool true at q24
    change vs 25 = .slice (some ⟨g8, 0, none⟩) (n + n2) c8 at q25
    change vs 26 = .slice A n c at q26
    change vs 27 = .int .i64 (n : Int) at q27
    change vs 28 = .slice (some ⟨g8, 0, none⟩) n c8 at q28
    change vs 29 = .slice A n c at q29
    change vs 30 = .bool true at q30
    change vs 31 = .bool true at q31
    change vs 32 = .bool true at q32
    simp only [putAll, Act.put, List.setIfInBounds_toArray, List.set_cons_zero, List.set_cons_succ, q0, q1, q2, q3, q4, q5, q6, q7, q8, q9, q10, q11, q12, q13, q14, q15, q16, q17, q18, q19, q20, q21, q22, q23, q24, q25, q26, q27, q28, q29, q30, q31, q32]
    clear q0 q1 q2 q3 q4 q5 q6 q7 q8 q9 q10 q11 q12 q13 q14 q15 q16 q17 q18 q19 q20 q21 q22 q23 q24 q25 q26 q27 q28 q29 q30 q31 q32
    clear hR
    go_wp2
    go_ret
    exact ⟨rfl, bthen HW8.out (bthen (below_drew _) (grow_below hX))⟩


end Go.Proofs.Ytfcnohhcgbebdaa

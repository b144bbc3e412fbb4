/- What rewrite.Below computes. No condition but sizes. -/
import Derived.Test.YtmpaockaeoknmaaRw1
import Derived.Test.YtmpaockaeoknmaaRel2
import Derived.Test.YtmpaockaeoknmaaRel3
import Derived.Test.YtmpaockaeoknmaaBlk
namespace Go.Proofs.Ytmpaockaeoknmaa
open Go.RowKit
set_option linter.unusedVariables false
set_option maxRecDepth 20000
set_option linter.unusedSimpArgs false

def belowF : List Ent → Bool → List Ent × Bool
  | [], _ => ([], false)
  | [_], _ => ([], true)
  | y :: e :: r, p => if underF y.ttl e.ttl p < 2 then ([], false) else (⟨e.label, classF y.cls e.cls p, e.bot, underF y.ttl e.ttl p - 1⟩ :: r, true)
structure Ent.fitR (e : Ent) : Prop where
  label : -9223372036854775808 ≤ e.label ∧ e.label ≤ 9223372036854775807
  cls : 0 ≤ e.cls ∧ e.cls ≤ 255
  ttl : 0 ≤ e.ttl ∧ e.ttl ≤ 255
theorem addr_addR (b o k : Nat) : Option.map (fun x : Addr => x.add k) (some ⟨b, o, none⟩) = some ⟨b, o + k, none⟩ := by
  show some (Addr.add ⟨b, o, none⟩ k) = _
  unfold Addr.add
  split
  · rename_i h0; rw [h0]; rfl
  · rfl
theorem own_blk {w : World} {base : Nat} {t : TypeId} {sz : Nat} {A : Option Addr} {n c : Nat} {xs : List Value} (h : Own w base t sz A n c xs) (hn : 0 < n) :
    ∃ g cur, A = some ⟨g, 0, none⟩ ∧ base ≤ g ∧ Blk w g t cur ∧ cur.take (n * sz) = xs ∧ cur.length = c * sz := by
  rcases h.own with ⟨h0, _⟩ | ⟨g, cur, hA, hb, hh, hs, ht⟩
  · omega
  · exact ⟨g, cur.toList, hA, hb, by simpa [Blk] using hh, ht, by simpa using hs⟩
theorem blk_own {w : World} {base : Nat} {t : TypeId} {sz : Nat} {g n c : Nat} {xs cur : List Value} (hl : xs.length = n * sz) (hc : n ≤ c) (hcm : c ≤ maxLen) (hb : base ≤ g) (h : Blk w g t cur) (ht : cur.take (n * sz) = xs) (hs : cur.length = c * sz) :
    Own w base t sz (some ⟨g, 0, none⟩) n c xs := ⟨hl, hc, hcm, .inr ⟨g, cur.toArray, rfl, hb, h, by simpa using hs, by simpa using ht⟩⟩
theorem take_get {α : Type} (cur xs : List α) (m j : Nat) (h : cur.take m = xs) (hj : j < m) : cur[j]? = xs[j]? := by
  rw [← h, List.getElem?_take, if_pos hj]

set_option maxHeartbeats 4000000 in
theorem below_any (A : Option Addr) (n c : Nat) (l : List Ent) (p : Bool) (w : World) (h : Row w w.heap.size 4 A n (evs l)) (hc : n ≤ c) (hcm : c ≤ maxLen) (hn : n ≤ 1099511627) (hf : ∀ x ∈ l, x.fitR) :
    Calls Try.prog 10 #[.slice A n c, .bool p] w fun e w' => ∃ A' c', e = .returned (.tuple #[.slice A' (belowF l p).1.length c', .bool (belowF l p).2]) ∧ Own w' w.heap.size 46 4 A' (belowF l p).1.length c' (evs (belowF l p).1) ∧ Below w.heap.size w w' := by
  have hlen := ent_len h
  match l, hlen, hf, h with
  | [], hlen, hf, h =>
    obtain rfl : n = 0 := by simpa using hlen.symm
    clear h hf
    go_enter Try.func10, Try.ntmps10
    go_wp2_with fail
    go_ret2
    exact ⟨none, 0, rfl, Own.nil _ _ _ _ _, Below.refl _ _⟩
  | [y], hlen, hf, h =>
    obtain rfl : n = 1 := by simpa using hlen.symm
    clear h hf
    go_enter Try.func10, Try.ntmps10
    go_wp2_with fail
    go_ret2
    exact ⟨none, 0, rfl, Own.nil _ _ _ _ _, Below.refl _ _⟩
  | y :: e :: r, hlen, hf, h =>
    have hn2 : 2 ≤ n := by simp at hlen; omega
    have hrl : r.length = n - 2 := by simp at hlen; omega
    have fa := hf y (by simp)
    have fe := hf e (by simp)
    have e0 : ((n : Int) == 0) = false := by simp; omega
    have e1 : ((n : Int) == 1) = false := by simp; omega
    have hcut := h.cut (k := 1) (cap := c) (by omega) hc
    obtain ⟨b, o, hA, hb, a0, a1, a2, a3⟩ := ent_row h 0 y rfl
    subst hA
    rw [if_neg (by omega), addr_addR] at hcut
    have hev : (evs (y :: e :: r)).drop (1 * 4) = evs (e :: r) := rfl
    rw [hev] at hcut
    have hu : underF y.ttl e.ttl p = underF y.ttl e.ttl p := rfl
    obtain ⟨U, hU⟩ : ∃ U, underF y.ttl e.ttl p = U := ⟨_, rfl⟩
    obtain ⟨C, hC⟩ : ∃ C, classF y.cls e.cls p = C := ⟨_, rfl⟩
    have hU0 : 0 ≤ U := by rw [← hU]; unfold underF; have := fa.ttl; have := fe.ttl; split <;> omega
    have hU1 : U ≤ 255 := by rw [← hU]; unfold underF; have := fa.ttl; have := fe.ttl; split <;> omega
    have hval : belowF (y :: e :: r) p = if U < 2 then ([], false) else (⟨e.label, C, e.bot, U - 1⟩ :: r, true) := by rw [← hU, ← hC]; rfl
    have HU := Lib.hid hU
    have HCL := Lib.hid hC
    have HV := Lib.hid hval
    have HR := Lib.hid h
    have HC := Lib.hid hcut
    clear h hcut hf hu hU hC hval hev a0 a1 a2 a3 hlen
    go_enter Try.func10, Try.ntmps10
    go_wp2_with fail
    refine (clone_entries _ (n - 1) (c - 1) (e :: r) w HC.out (by omega)).mono ?_
    rintro x w1 ⟨A1, c1, rfl, hown, hb1⟩
    obtain ⟨g, cur, rfl, hbg, hblk, htk, hsz⟩ := own_blk hown (by omega)
    have hle1 := hown.le
    have hcap1 := hown.cap
    have HW := Lib.hid hb1
    have HB := Lib.hid hblk
    have HTK := Lib.hid htk
    have HC1 := Lib.hid (take_get _ _ _ 1 htk (by omega))
    have HC3 := Lib.hid (take_get _ _ _ 3 htk (by omega))
    clear hown hb1 hblk htk
    go_wp2_with fail
    refine wp_region_rel (fun A B => A.grownBy B none) (fun A => grown_refl A _) (fun A B C h k => grown_trans h k) (relAt (List.cons (fun v _ => v = .slice (some ⟨b, o, none⟩) n c) (List.cons (fun v _ => v = .pointer (some ⟨b, o, none⟩)) (List.cons (fun v _ => v = .pointer (some ⟨b, o + 3, none⟩)) (List.cons (fun v _ => v = .int .u8 y.ttl) (List.cons (fun v _ => v = .slice (some ⟨g, 0, none⟩) (n - 1) c1) (List.cons (fun v _ => v = .pointer (some ⟨g, 0, none⟩)) (List.cons (fun v _ => v = .pointer (some ⟨g, 3, none⟩)) (List.cons (fun v _ => v = .int .u8 e.ttl) (List.cons (fun v _ => v = .bool p) (List.cons (fun v _ => v = .int .u8 U) (List.cons (fun v _ => v = .tuple #[.int .u8 (nextF U), .bool (decide (¬ U < 2))]) (List.cons (fun v _ => v = .tuple #[.int .u8 (nextF U), .bool (decide (¬ U < 2))]) (List.cons (fun v _ => v = .int .u8 (nextF U)) (List.cons (fun v _ => v = .bool (decide (¬ U < 2))) (List.cons (fun v _ => v = .int .u8 (nextF U)) (List.cons (fun v _ => v = .bool (decide (¬ U < 2))) ([])))))))))))))))))) (MonoL.at_ (.cons (mono_val _) (.cons (mono_val _) (.cons (mono_val _) (.cons (mono_val _) (.cons (mono_val _) (.cons (mono_val _) (.cons (mono_val _) (.cons (mono_val _) (.cons (mono_val _) (.cons (mono_val _) (.cons (mono_val _) (.cons (mono_val _) (.cons (mono_val _) (.cons (mono_val _) (.cons (mono_val _) (.cons (mono_val _) .nil))))))))))))))))) (by kernel_rfl) (by kernel_rfl) ⟨?_, ?_, ?_, ?_, ?_, ?_, ?_, ?_, ?_, ?_, ?_, ?_, ?_, ?_, ?_, ?_, trivial⟩ ?_
    · intro a vs W hX hR he hf K hK
      rw [if_pos (wanted_none rfl)]
      have e0 : a.eval (.tmp 0) = .slice (some ⟨b, o, none⟩) n c := hf 0 (by kernel_rfl)
      refine wp_value (v := .slice (some ⟨b, o, none⟩) n c) ?_ (hK _ _ rfl (grown_refl W _))
      simp only [execOp, e0]
      try go_simp
      try (first | rfl | omega | (simp only [IntKind.wrap_i64, IntKind.wrap_u8, IntKind.wrap_u64, IntKind.wrap_u16, IntKind.wrap_u32]; omega) | (rw [Int.tmod_eq_emod_of_nonneg (by omega)]) | (rw [Int.tmod_eq_emod_of_nonneg (by omega)]; omega))
    · intro a vs W hX hR he hf K hK
      rw [if_pos (wanted_none rfl)]
      have e19 : a.eval (.tmp 19) = .slice (some ⟨b, o, none⟩) n c := (he 0 19 (by kernel_rfl) rfl).trans (hR 0 (by kernel_rfl))
      refine wp_value (v := .pointer (some ⟨b, o, none⟩)) ?_ (hK _ _ rfl (grown_refl W _))
      simp only [execOp, e19]
      try go_simp
      try (first | rfl | omega | (simp only [IntKind.wrap_i64, IntKind.wrap_u8, IntKind.wrap_u64, IntKind.wrap_u16, IntKind.wrap_u32]; omega) | (rw [Int.tmod_eq_emod_of_nonneg (by omega)]) | (rw [Int.tmod_eq_emod_of_nonneg (by omega)]; omega))
    · intro a vs W hX hR he hf K hK
      rw [if_pos (wanted_none rfl)]
      have e20 : a.eval (.tmp 20) = .pointer (some ⟨b, o, none⟩) := (he 1 20 (by kernel_rfl) rfl).trans (hR 1 (by kernel_rfl))
      refine wp_value (v := .pointer (some ⟨b, o + 3, none⟩)) ?_ (hK _ _ rfl (grown_refl W _))
      simp only [execOp, e20]
      try go_simp
      try (first | rfl | omega | (simp only [IntKind.wrap_i64, IntKind.wrap_u8, IntKind.wrap_u64, IntKind.wrap_u16, IntKind.wrap_u32]; omega) | (rw [Int.tmod_eq_emod_of_nonneg (by omega)]) | (rw [Int.tmod_eq_emod_of_nonneg (by omega)]; omega))
    · intro a vs W hX hR he hf K hK
      rw [if_pos (wanted_none rfl)]
      have e21 : a.eval (.tmp 21) = .pointer (some ⟨b, o + 3, none⟩) := (he 2 21 (by kernel_rfl) rfl).trans (hR 2 (by kernel_rfl))
      have hbW := bthen (below_drew _) (grow_below hX)
      obtain ⟨b', o', hA', _, q0, q1, q2, q3⟩ := ent_row (HR.out.below (bthen HW.out hbW)) 0 y rfl
      obtain ⟨rfl, rfl⟩ : b' = b ∧ o' = o := by injection hA' with hA'; injection hA' with h1 h2; exact ⟨h1.symm, h2.symm⟩
      rw [Nat.zero_mul, Nat.add_zero] at q0 q1 q2 q3
      refine wp_value (v := _) ?_ (hK _ _ rfl (grown_refl W _))
      simp only [execOp, e21]
      go_simp
    · intro a vs W hX hR he hf K hK
      rw [if_pos (wanted_none rfl)]
      have e6 : a.eval (.tmp 6) = .slice (some ⟨g, 0, none⟩) (n - 1) c1 := hf 6 (by kernel_rfl)
      refine wp_value (v := .slice (some ⟨g, 0, none⟩) (n - 1) c1) ?_ (hK _ _ rfl (grown_refl W _))
      simp only [execOp, e6]
      try go_simp
      try (first | rfl | omega | (simp only [IntKind.wrap_i64, IntKind.wrap_u8, IntKind.wrap_u64, IntKind.wrap_u16, IntKind.wrap_u32]; omega) | (rw [Int.tmod_eq_emod_of_nonneg (by omega)]) | (rw [Int.tmod_eq_emod_of_nonneg (by omega)]; omega))
    · intro a vs W hX hR he hf K hK
      rw [if_pos (wanted_none rfl)]
      have e23 : a.eval (.tmp 23) = .slice (some ⟨g, 0, none⟩) (n - 1) c1 := (he 4 23 (by kernel_rfl) rfl).trans (hR 4 (by kernel_rfl))
      refine wp_value (v := .pointer (some ⟨g, 0, none⟩)) ?_ (hK _ _ rfl (grown_refl W _))
      simp only [execOp, e23]
      try go_simp
      try (first | rfl | omega | (simp only [IntKind.wrap_i64, IntKind.wrap_u8, IntKind.wrap_u64, IntKind.wrap_u16, IntKind.wrap_u32]; omega) | (rw [Int.tmod_eq_emod_of_nonneg (by omega)]) | (rw [Int.tmod_eq_emod_of_nonneg (by omega)]; omega))
    · intro a vs W hX hR he hf K hK
      rw [if_pos (wanted_none rfl)]
      have e24 : a.eval (.tmp 24) = .pointer (some ⟨g, 0, none⟩) := (he 5 24 (by kernel_rfl) rfl).trans (hR 5 (by kernel_rfl))
      refine wp_value (v := .pointer (some ⟨g, 3, none⟩)) ?_ (hK _ _ rfl (grown_refl W _))
      simp only [execOp, e24]
      try go_simp
      try (first | rfl | omega | (simp only [IntKind.wrap_i64, IntKind.wrap_u8, IntKind.wrap_u64, IntKind.wrap_u16, IntKind.wrap_u32]; omega) | (rw [Int.tmod_eq_emod_of_nonneg (by omega)]) | (rw [Int.tmod_eq_emod_of_nonneg (by omega)]; omega))
    · intro a vs W hX hR he hf K hK
      rw [if_pos (wanted_none rfl)]
      have e25 : a.eval (.tmp 25) = .pointer (some ⟨g, 3, none⟩) := (he 6 25 (by kernel_rfl) rfl).trans (hR 6 (by kernel_rfl))
      have hbW := bthen (below_drew _) (grow_below hX)
      have hc : W.cell? ⟨g, 3, none⟩ = some (.int .u8 e.ttl) := ((HB.out.on hbW).cell 3).trans (by first | exact HC3.out | rfl)
      refine wp_value (v := _) ?_ (hK _ _ rfl (grown_refl W _))
      simp only [execOp, e25]
      go_simp
    · intro a vs W hX hR he hf K hK
      rw [if_pos (wanted_none rfl)]
      have e1 : a.eval (.tmp 1) = .bool p := hf 1 (by kernel_rfl)
      refine wp_value (v := .bool p) ?_ (hK _ _ rfl (grown_refl W _))
      simp only [execOp, e1]
      try go_simp
      try (first | rfl | omega | (simp only [IntKind.wrap_i64, IntKind.wrap_u8, IntKind.wrap_u64, IntKind.wrap_u16, IntKind.wrap_u32]; omega) | (rw [Int.tmod_eq_emod_of_nonneg (by omega)]) | (rw [Int.tmod_eq_emod_of_nonneg (by omega)]; omega))
    · intro a vs W hX hR he hf K hK
      rw [if_pos (wanted_none rfl)]
      have e22 : a.eval (.tmp 22) = .int .u8 y.ttl := (he 3 22 (by kernel_rfl) rfl).trans (hR 3 (by kernel_rfl))
      have e26 : a.eval (.tmp 26) = .int .u8 e.ttl := (he 7 26 (by kernel_rfl) rfl).trans (hR 7 (by kernel_rfl))
      have e27 : a.eval (.tmp 27) = .bool p := (he 8 27 (by kernel_rfl) rfl).trans (hR 8 (by kernel_rfl))
      refine wp_enter (f := 31) (args := #[.int .u8 y.ttl, .int .u8 e.ttl, .bool p]) (by simp only [execOp, e22, e26, e27]; go_simp; exact ⟨by simpa [Act.eval] using e22, by simpa [Act.eval] using e26, by simpa [Act.eval] using e27⟩) ((under_any y.ttl e.ttl p fa.ttl.1 fa.ttl.2 W fe.ttl.1 fe.ttl.2).mono ?_)
      rintro x w' ⟨rfl, rfl⟩
      exact ⟨_, rfl, hK _ _ (congrArg (fun z : Int => Value.int .u8 z) HU.out) (grown_refl _ _)⟩
    · intro a vs W hX hR he hf K hK
      rw [if_pos (wanted_none rfl)]
      have e28 : a.eval (.tmp 28) = .int .u8 U := (he 9 28 (by kernel_rfl) rfl).trans (hR 9 (by kernel_rfl))
      refine wp_enter (f := 19) (args := #[.int .u8 U]) (by simp only [execOp, e28]; go_simp; simpa [Act.eval] using e28) ((next_any U hU0 hU1 W).mono ?_)
      rintro x w' ⟨rfl, rfl⟩
      exact ⟨_, rfl, hK _ _ rfl (grown_refl _ _)⟩
    · intro a vs W hX hR he hf K hK
      rw [if_pos (wanted_none rfl)]
      have e29 : a.eval (.tmp 29) = .tuple #[.int .u8 (nextF U), .bool (decide (¬ U < 2))] := (he 10 29 (by kernel_rfl) rfl).trans (hR 10 (by kernel_rfl))
      refine wp_value (v := .tuple #[.int .u8 (nextF U), .bool (decide (¬ U < 2))]) ?_ (hK _ _ rfl (grown_refl W _))
      simp only [execOp, e29]
      try go_simp
      try (first | rfl | omega | (simp only [IntKind.wrap_i64, IntKind.wrap_u8, IntKind.wrap_u64, IntKind.wrap_u16, IntKind.wrap_u32]; omega) | (rw [Int.tmod_eq_emod_of_nonneg (by omega)]) | (rw [Int.tmod_eq_emod_of_nonneg (by omega)]; omega))
    · intro a vs W hX hR he hf K hK
      rw [if_pos (wanted_none rfl)]
      have e18 : a.eval (.tmp 18) = .tuple #[.int .u8 (nextF U), .bool (decide (¬ U < 2))] := (he 11 18 (by kernel_rfl) rfl).trans (hR 11 (by kernel_rfl))
      refine wp_value (v := .int .u8 (nextF U)) ?_ (hK _ _ rfl (grown_refl W _))
      simp only [execOp, e18]
      try go_simp
      try (first | rfl | omega | (simp only [IntKind.wrap_i64, IntKind.wrap_u8, IntKind.wrap_u64, IntKind.wrap_u16, IntKind.wrap_u32]; omega) | (rw [Int.tmod_eq_emod_of_nonneg (by omega)]) | (rw [Int.tmod_eq_emod_of_nonneg (by omega)]; omega))
    · intro a vs W hX hR he hf K hK
      rw [if_pos (wanted_none rfl)]
      have e18 : a.eval (.tmp 18) = .tuple #[.int .u8 (nextF U), .bool (decide (¬ U < 2))] := (he 11 18 (by kernel_rfl) rfl).trans (hR 11 (by kernel_rfl))
      refine wp_value (v := .bool (decide (¬ U < 2))) ?_ (hK _ _ rfl (grown_refl W _))
      simp only [execOp, e18]
      try go_simp
      try (first | rfl | omega | (simp only [IntKind.wrap_i64, IntKind.wrap_u8, IntKind.wrap_u64, IntKind.wrap_u16, IntKind.wrap_u32]; omega) | (rw [Int.tmod_eq_emod_of_nonneg (by omega)]) | (rw [Int.tmod_eq_emod_of_nonneg (by omega)]; omega))
    · intro a vs W hX hR he hf K hK
      rw [if_pos (wanted_none rfl)]
      have e30 : a.eval (.tmp 30) = .int .u8 (nextF U) := (he 12 30 (by kernel_rfl) rfl).trans (hR 12 (by kernel_rfl))
      refine wp_value (v := .int .u8 (nextF U)) ?_ (hK _ _ rfl (grown_refl W _))
      simp only [execOp, e30]
      try go_simp
      try (first | rfl | omega | (simp only [IntKind.wrap_i64, IntKind.wrap_u8, IntKind.wrap_u64, IntKind.wrap_u16, IntKind.wrap_u32]; omega) | (rw [Int.tmod_eq_emod_of_nonneg (by omega)]) | (rw [Int.tmod_eq_emod_of_nonneg (by omega)]; omega))
    · intro a vs W hX hR he hf K hK
      rw [if_pos (wanted_none rfl)]
      have e31 : a.eval (.tmp 31) = .bool (decide (¬ U < 2)) := (he 13 31 (by kernel_rfl) rfl).trans (hR 13 (by kernel_rfl))
      refine wp_value (v := .bool (decide (¬ U < 2))) ?_ (hK _ _ rfl (grown_refl W _))
      simp only [execOp, e31]
      try go_simp
      try (first | rfl | omega | (simp only [IntKind.wrap_i64, IntKind.wrap_u8, IntKind.wrap_u64, IntKind.wrap_u16, IntKind.wrap_u32]; omega) | (rw [Int.tmod_eq_emod_of_nonneg (by omega)]) | (rw [Int.tmod_eq_emod_of_nonneg (by omega)]; omega))
    · intro vs w2 hX2 hR
      have q0 := hR 0 (by decide)
      have q1 := hR 1 (by decide)
      have q2 := hR 2 (by decide)
      have q3 := hR 3 (by decide)
      have q4 := hR 4 (by decide)
      have q5 := hR 5 (by decide)
      have q6 := hR 6 (by decide)
      have q7 := hR 7 (by decide)
      have q8 := hR 8 (by decide)
      have q9 := hR 9 (by decide)
      have q10 := hR 10 (by decide)
      have q11 := hR 11 (by decide)
      have q12 := hR 12 (by decide)
      have q13 := hR 13 (by decide)
      have q14 := hR 14 (by decide)
      have q15 := hR 15 (by decide)
      change vs 0 = .slice (some ⟨b, o, none⟩) n c at q0
      change vs 1 = .pointer (some ⟨b, o, none⟩) at q1
      change vs 2 = .pointer (some ⟨b, o + 3, none⟩) at q2
      change vs 3 = .int .u8 y.ttl at q3
      change vs 4 = .slice (some ⟨g, 0, none⟩) (n - 1) c1 at q4
      change vs 5 = .pointer (some ⟨g, 0, none⟩) at q5
      change vs 6 = .pointer (some ⟨g, 3, none⟩) at q6
      change vs 7 = .int .u8 e.ttl at q7
      change vs 8 = .bool p at q8
      change vs 9 = .int .u8 U at q9
      change vs 10 = .tuple #[.int .u8 (nextF U), .bool (decide (¬ U < 2))] at q10
      change vs 11 = .tuple #[.int .u8 (nextF U), .bool (decide (¬ U < 2))] at q11
      change vs 12 = .int .u8 (nextF U) at q12
      change vs 13 = .bool (decide (¬ U < 2)) at q13
      change vs 14 = .int .u8 (nextF U) at q14
      change vs 15 = .bool (decide (¬ U < 2)) at q15
      simp only [putAll, Act.put, List.setIfInBounds_toArray, List.set_cons_zero, List.set_cons_succ, q0, q1, q2, q3, q4, q5, q6, q7, q8, q9, q10, q11, q12, q13, q14, q15]
      clear q0 q1 q2 q3 q4 q5 q6 q7 q8 q9 q10 q11 q12 q13 q14 q15
      clear hR
      have hb2 := bthen (below_drew w1) (grow_below hX2)
      replace HW := Lib.hid (bthen HW.out hb2)
      replace HB := Lib.hid (HB.out.on hb2)
      clear hX2 hb2
      by_cases hU2 : U < 2
      · have hv : belowF (y :: e :: r) p = ([], false) := by rw [HV.out, if_pos hU2]
        have HV2 := Lib.hid hv
        clear hv
        go_wp2_with fail
        go_ret2
        exact ⟨none, 0, by rw [HV2.out]; rfl, by rw [HV2.out]; exact Own.nil _ _ _ _ _, HW.out⟩
      · have hv : belowF (y :: e :: r) p = (⟨e.label, C, e.bot, U - 1⟩ :: r, true) := by rw [HV.out, if_neg hU2]
        have HV2 := Lib.hid hv
        clear hv
        have hnx : nextF U = U - 1 := by unfold nextF; rw [if_neg hU2]
        rw [hnx]
        clear hnx
        have z3 : w2.cell? ⟨g, 3, none⟩ = some (.int .u8 e.ttl) := (HB.out.cell 3).trans HC3.out
        have y3 := HB.out.frozen 3
        go_wp2_with fail
        have hset := HB.out.set 3 (.int .u8 (U - 1))
        have hW3 := HW.out.setCell (p := ⟨g, 3, none⟩) hbg (.int .u8 (U - 1))
        obtain ⟨w3, hw3⟩ : ∃ z, z = w2.setCell ⟨g, 3, none⟩ (.int .u8 (U - 1)) := ⟨_, rfl⟩
        rw [← hw3] at hset hW3 ⊢
        obtain ⟨cur3, hcur3⟩ : ∃ z, z = cur.set 3 (.int .u8 (U - 1)) := ⟨_, rfl⟩
        rw [← hcur3] at hset
        have hsz3 : cur3.length = c1 * 4 := by rw [hcur3, List.length_set]; exact hsz
        have htk3 : cur3.take ((n - 1) * 4) = evs (⟨e.label, e.cls, e.bot, U - 1⟩ :: r) := by rw [hcur3, List.take_set, HTK.out]; rfl
        replace HB := Lib.hid hset
        replace HW := Lib.hid hW3
        replace HTK := Lib.hid htk3
        replace HC1 := Lib.hid (take_get _ _ _ 1 htk3 (by omega))
        clear hset hW3 hw3 hcur3 htk3 z3 y3 HC3 hsz
        go_wp2_with fail
        refine wp_region_last 13 (fun A B => A.grownBy B none) (fun A => grown_refl A _) (fun A B C h k => grown_trans h k) (relAt (List.cons (fun v _ => v = .slice (some ⟨g, 0, none⟩) (n - 1) c1) (List.cons (fun v _ => v = .slice (some ⟨b, o, none⟩) n c) (List.cons (fun v _ => v = .pointer (some ⟨b, o, none⟩)) (List.cons (fun v _ => v = .pointer (some ⟨b, o + 1, none⟩)) (List.cons (fun v _ => v = .int .u8 y.cls) (List.cons (fun v _ => v = .slice (some ⟨g, 0, none⟩) (n - 1) c1) (List.cons (fun v _ => v = .pointer (some ⟨g, 0, none⟩)) (List.cons (fun v _ => v = .pointer (some ⟨g, 1, none⟩)) (List.cons (fun v _ => v = .int .u8 e.cls) (List.cons (fun v _ => v = .bool p) (List.cons (fun v _ => v = .int .u8 C) (List.cons (fun v _ => v = .pointer (some ⟨g, 0, none⟩)) (List.cons (fun v _ => v = .pointer (some ⟨g, 1, none⟩)) ([]))))))))))))))) (MonoL.at_ (.cons (mono_val _) (.cons (mono_val _) (.cons (mono_val _) (.cons (mono_val _) (.cons (mono_val _) (.cons (mono_val _) (.cons (mono_val _) (.cons (mono_val _) (.cons (mono_val _) (.cons (mono_val _) (.cons (mono_val _) (.cons (mono_val _) (.cons (mono_val _) .nil)))))))))))))) (by kernel_rfl) (by kernel_rfl) rfl (by kernel_rfl) _ rfl rfl ⟨?_, ?_, ?_, ?_, ?_, ?_, ?_, ?_, ?_, ?_, ?_, ?_, ?_, trivial⟩ ?_
        · intro a vs W hX hR he hf K hK
          rw [if_pos (wanted_none rfl)]
          have e6 : a.eval (.tmp 6) = .slice (some ⟨g, 0, none⟩) (n - 1) c1 := hf 6 (by kernel_rfl)
          refine wp_value (v := .slice (some ⟨g, 0, none⟩) (n - 1) c1) ?_ (hK _ _ rfl (grown_refl W _))
          simp only [execOp, e6]
          try go_simp
          try (first | rfl | omega | (simp only [IntKind.wrap_i64, IntKind.wrap_u8, IntKind.wrap_u64, IntKind.wrap_u16, IntKind.wrap_u32]; omega) | (rw [Int.tmod_eq_emod_of_nonneg (by omega)]) | (rw [Int.tmod_eq_emod_of_nonneg (by omega)]; omega))
        · intro a vs W hX hR he hf K hK
          rw [if_pos (wanted_none rfl)]
          have e0 : a.eval (.tmp 0) = .slice (some ⟨b, o, none⟩) n c := hf 0 (by kernel_rfl)
          refine wp_value (v := .slice (some ⟨b, o, none⟩) n c) ?_ (hK _ _ rfl (grown_refl W _))
          simp only [execOp, e0]
          try go_simp
          try (first | rfl | omega | (simp only [IntKind.wrap_i64, IntKind.wrap_u8, IntKind.wrap_u64, IntKind.wrap_u16, IntKind.wrap_u32]; omega) | (rw [Int.tmod_eq_emod_of_nonneg (by omega)]) | (rw [Int.tmod_eq_emod_of_nonneg (by omega)]; omega))
        · intro a vs W hX hR he hf K hK
          rw [if_pos (wanted_none rfl)]
          have e39 : a.eval (.tmp 39) = .slice (some ⟨b, o, none⟩) n c := (he 1 39 (by kernel_rfl) rfl).trans (hR 1 (by kernel_rfl))
          refine wp_value (v := .pointer (some ⟨b, o, none⟩)) ?_ (hK _ _ rfl (grown_refl W _))
          simp only [execOp, e39]
          try go_simp
          try (first | rfl | omega | (simp only [IntKind.wrap_i64, IntKind.wrap_u8, IntKind.wrap_u64, IntKind.wrap_u16, IntKind.wrap_u32]; omega) | (rw [Int.tmod_eq_emod_of_nonneg (by omega)]) | (rw [Int.tmod_eq_emod_of_nonneg (by omega)]; omega))
        · intro a vs W hX hR he hf K hK
          rw [if_pos (wanted_none rfl)]
          have e40 : a.eval (.tmp 40) = .pointer (some ⟨b, o, none⟩) := (he 2 40 (by kernel_rfl) rfl).trans (hR 2 (by kernel_rfl))
          refine wp_value (v := .pointer (some ⟨b, o + 1, none⟩)) ?_ (hK _ _ rfl (grown_refl W _))
          simp only [execOp, e40]
          try go_simp
          try (first | rfl | omega | (simp only [IntKind.wrap_i64, IntKind.wrap_u8, IntKind.wrap_u64, IntKind.wrap_u16, IntKind.wrap_u32]; omega) | (rw [Int.tmod_eq_emod_of_nonneg (by omega)]) | (rw [Int.tmod_eq_emod_of_nonneg (by omega)]; omega))
        · intro a vs W hX hR he hf K hK
          rw [if_pos (wanted_none rfl)]
          have e41 : a.eval (.tmp 41) = .pointer (some ⟨b, o + 1, none⟩) := (he 3 41 (by kernel_rfl) rfl).trans (hR 3 (by kernel_rfl))
          have hbW := bthen (below_drew _) (grow_below hX)
          obtain ⟨b', o', hA', _, q0, q1, q2, q3⟩ := ent_row (HR.out.below (bthen HW.out hbW)) 0 y rfl
          obtain ⟨rfl, rfl⟩ : b' = b ∧ o' = o := by injection hA' with hA'; injection hA' with h1 h2; exact ⟨h1.symm, h2.symm⟩
          rw [Nat.zero_mul, Nat.add_zero] at q0 q1 q2 q3
          refine wp_value (v := _) ?_ (hK _ _ rfl (grown_refl W _))
          simp only [execOp, e41]
          go_simp
        · intro a vs W hX hR he hf K hK
          rw [if_pos (wanted_none rfl)]
          have e6 : a.eval (.tmp 6) = .slice (some ⟨g, 0, none⟩) (n - 1) c1 := hf 6 (by kernel_rfl)
          refine wp_value (v := .slice (some ⟨g, 0, none⟩) (n - 1) c1) ?_ (hK _ _ rfl (grown_refl W _))
          simp only [execOp, e6]
          try go_simp
          try (first | rfl | omega | (simp only [IntKind.wrap_i64, IntKind.wrap_u8, IntKind.wrap_u64, IntKind.wrap_u16, IntKind.wrap_u32]; omega) | (rw [Int.tmod_eq_emod_of_nonneg (by omega)]) | (rw [Int.tmod_eq_emod_of_nonneg (by omega)]; omega))
        · intro a vs W hX hR he hf K hK
          rw [if_pos (wanted_none rfl)]
          have e43 : a.eval (.tmp 43) = .slice (some ⟨g, 0, none⟩) (n - 1) c1 := (he 5 43 (by kernel_rfl) rfl).trans (hR 5 (by kernel_rfl))
          refine wp_value (v := .pointer (some ⟨g, 0, none⟩)) ?_ (hK _ _ rfl (grown_refl W _))
          simp only [execOp, e43]
          try go_simp
          try (first | rfl | omega | (simp only [IntKind.wrap_i64, IntKind.wrap_u8, IntKind.wrap_u64, IntKind.wrap_u16, IntKind.wrap_u32]; omega) | (rw [Int.tmod_eq_emod_of_nonneg (by omega)]) | (rw [Int.tmod_eq_emod_of_nonneg (by omega)]; omega))
        · intro a vs W hX hR he hf K hK
          rw [if_pos (wanted_none rfl)]
          have e44 : a.eval (.tmp 44) = .pointer (some ⟨g, 0, none⟩) := (he 6 44 (by kernel_rfl) rfl).trans (hR 6 (by kernel_rfl))
          refine wp_value (v := .pointer (some ⟨g, 1, none⟩)) ?_ (hK _ _ rfl (grown_refl W _))
          simp only [execOp, e44]
          try go_simp
          try (first | rfl | omega | (simp only [IntKind.wrap_i64, IntKind.wrap_u8, IntKind.wrap_u64, IntKind.wrap_u16, IntKind.wrap_u32]; omega) | (rw [Int.tmod_eq_emod_of_nonneg (by omega)]) | (rw [Int.tmod_eq_emod_of_nonneg (by omega)]; omega))
        · intro a vs W hX hR he hf K hK
          rw [if_pos (wanted_none rfl)]
          have e45 : a.eval (.tmp 45) = .pointer (some ⟨g, 1, none⟩) := (he 7 45 (by kernel_rfl) rfl).trans (hR 7 (by kernel_rfl))
          have hbW := bthen (below_drew _) (grow_below hX)
          have hc : W.cell? ⟨g, 1, none⟩ = some (.int .u8 e.cls) := ((HB.out.on hbW).cell 1).trans (by first | exact HC1.out | rfl)
          refine wp_value (v := _) ?_ (hK _ _ rfl (grown_refl W _))
          simp only [execOp, e45]
          go_simp
        · intro a vs W hX hR he hf K hK
          rw [if_pos (wanted_none rfl)]
          have e1 : a.eval (.tmp 1) = .bool p := hf 1 (by kernel_rfl)
          refine wp_value (v := .bool p) ?_ (hK _ _ rfl (grown_refl W _))
          simp only [execOp, e1]
          try go_simp
          try (first | rfl | omega | (simp only [IntKind.wrap_i64, IntKind.wrap_u8, IntKind.wrap_u64, IntKind.wrap_u16, IntKind.wrap_u32]; omega) | (rw [Int.tmod_eq_emod_of_nonneg (by omega)]) | (rw [Int.tmod_eq_emod_of_nonneg (by omega)]; omega))
        · intro a vs W hX hR he hf K hK
          rw [if_pos (wanted_none rfl)]
          have e42 : a.eval (.tmp 42) = .int .u8 y.cls := (he 4 42 (by kernel_rfl) rfl).trans (hR 4 (by kernel_rfl))
          have e46 : a.eval (.tmp 46) = .int .u8 e.cls := (he 8 46 (by kernel_rfl) rfl).trans (hR 8 (by kernel_rfl))
          have e47 : a.eval (.tmp 47) = .bool p := (he 9 47 (by kernel_rfl) rfl).trans (hR 9 (by kernel_rfl))
          refine wp_enter (f := 32) (args := #[.int .u8 y.cls, .int .u8 e.cls, .bool p]) (by simp only [execOp, e42, e46, e47]; go_simp; exact ⟨by simpa [Act.eval] using e42, by simpa [Act.eval] using e46, by simpa [Act.eval] using e47⟩) ((class_any y.cls e.cls p fa.cls.1 fa.cls.2 W fe.cls.1 fe.cls.2).mono ?_)
          rintro x w' ⟨rfl, rfl⟩
          exact ⟨_, rfl, hK _ _ (congrArg (fun z : Int => Value.int .u8 z) HCL.out) (grown_refl _ _)⟩
        · intro a vs W hX hR he hf K hK
          rw [if_pos (wanted_none rfl)]
          have e38 : a.eval (.tmp 38) = .slice (some ⟨g, 0, none⟩) (n - 1) c1 := (he 0 38 (by kernel_rfl) rfl).trans (hR 0 (by kernel_rfl))
          refine wp_value (v := .pointer (some ⟨g, 0, none⟩)) ?_ (hK _ _ rfl (grown_refl W _))
          simp only [execOp, e38]
          try go_simp
          try (first | rfl | omega | (simp only [IntKind.wrap_i64, IntKind.wrap_u8, IntKind.wrap_u64, IntKind.wrap_u16, IntKind.wrap_u32]; omega) | (rw [Int.tmod_eq_emod_of_nonneg (by omega)]) | (rw [Int.tmod_eq_emod_of_nonneg (by omega)]; omega))
        · intro a vs W hX hR he hf K hK
          rw [if_pos (wanted_none rfl)]
          have e49 : a.eval (.tmp 49) = .pointer (some ⟨g, 0, none⟩) := (he 11 49 (by kernel_rfl) rfl).trans (hR 11 (by kernel_rfl))
          refine wp_value (v := .pointer (some ⟨g, 1, none⟩)) ?_ (hK _ _ rfl (grown_refl W _))
          simp only [execOp, e49]
          try go_simp
          try (first | rfl | omega | (simp only [IntKind.wrap_i64, IntKind.wrap_u8, IntKind.wrap_u64, IntKind.wrap_u16, IntKind.wrap_u32]; omega) | (rw [Int.tmod_eq_emod_of_nonneg (by omega)]) | (rw [Int.tmod_eq_emod_of_nonneg (by omega)]; omega))
        · intro vs w4 hX4 hR
          have q0 := hR 0 (by decide)
          have q1 := hR 1 (by decide)
          have q2 := hR 2 (by decide)
          have q3 := hR 3 (by decide)
          have q4 := hR 4 (by decide)
          have q5 := hR 5 (by decide)
          have q6 := hR 6 (by decide)
          have q7 := hR 7 (by decide)
          have q8 := hR 8 (by decide)
          have q9 := hR 9 (by decide)
          have q10 := hR 10 (by decide)
          have q11 := hR 11 (by decide)
          have q12 := hR 12 (by decide)
          change vs 0 = .slice (some ⟨g, 0, none⟩) (n - 1) c1 at q0
          change vs 1 = .slice (some ⟨b, o, none⟩) n c at q1
          change vs 2 = .pointer (some ⟨b, o, none⟩) at q2
          change vs 3 = .pointer (some ⟨b, o + 1, none⟩) at q3
          change vs 4 = .int .u8 y.cls at q4
          change vs 5 = .slice (some ⟨g, 0, none⟩) (n - 1) c1 at q5
          change vs 6 = .pointer (some ⟨g, 0, none⟩) at q6
          change vs 7 = .pointer (some ⟨g, 1, none⟩) at q7
          change vs 8 = .int .u8 e.cls at q8
          change vs 9 = .bool p at q9
          change vs 10 = .int .u8 C at q10
          change vs 11 = .pointer (some ⟨g, 0, none⟩) at q11
          change vs 12 = .pointer (some ⟨g, 1, none⟩) at q12
          simp only [putAll, Act.put, List.setIfInBounds_toArray, List.set_cons_zero, List.set_cons_succ, List.take_succ_cons, List.take_zero, q0, q1, q2, q3, q4, q5, q6, q7, q8, q9, q10, q11, q12]
          clear q0 q1 q2 q3 q4 q5 q6 q7 q8 q9 q10 q11 q12
          clear hR
          have hb4 := bthen (below_drew w3) (grow_below hX4)
          have hk4 := HB.out.on hb4
          have z1 : w4.cell? ⟨g, 1, none⟩ = some (.int .u8 e.cls) := (hk4.cell 1).trans HC1.out
          have y1 := hk4.frozen 1
          refine wp_skip (w' := w4.setCell ⟨g, 1, none⟩ (.int .u8 C)) (by simp only [execOp]; go_simp) ?_
          have hset := hk4.set 1 (.int .u8 C)
          have hW5 := (bthen HW.out hb4).setCell (p := ⟨g, 1, none⟩) hbg (.int .u8 C)
          try simp only [List.getElem_toArray, List.getElem_cons_succ, List.getElem_cons_zero, Act.put, List.setIfInBounds_toArray, List.set_cons_zero, List.set_cons_succ]
          go_wp2_with fail
          go_ret2
          have htk5 : (cur3.set 1 (.int .u8 C)).take ((n - 1) * 4) = evs (⟨e.label, C, e.bot, U - 1⟩ :: r) := by rw [List.take_set, HTK.out]; rfl
          have hll : (⟨e.label, C, e.bot, U - 1⟩ :: r : List Ent).length = n - 1 := by simp; omega
          exact ⟨some ⟨g, 0, none⟩, c1, by rw [HV2.out]; simp only [hll]; rfl, by rw [HV2.out]; simp only [hll]; exact blk_own (by rw [evs_length, hll]) hle1 hcap1 hbg hset htk5 (by rw [List.length_set]; exact hsz3), hW5⟩
end Go.Proofs.Ytmpaockaeoknmaa

/- What rewrite.Mend and the reference's Mend compute. No condition but sizes. -/
import Derived.Test.YtmpaockaeoknmaaRw3
namespace Go.Proofs.Ytmpaockaeoknmaa
open Go.RowKit
set_option linter.unusedVariables false
set_option maxRecDepth 20000
set_option linter.unusedSimpArgs false
theorem row_valsR {e : TypeId} (w : World) (cs : Array Value) (n g : Nat) (hn : cs.size = n) (hg : w.heap.size = g) : Row (w.alloc (.cells cs e)) (w.alloc (.cells cs e)).heap.size 1 (some ⟨g, 0, none⟩) n cs.toList := by
  subst hg
  have := Row.new (e := e) (n := n) (sz := 1) w cs (by omega)
  rw [World.size_alloc]
  exact this
def outE (L : List Ent) : List Ent × Int := if L.length ≤ 16 then (L, 0) else ([], 51)
def mendF (l : List Ent) (rp : List Int) (c t : Int) : List Ent × Int :=
  match l with
  | [] => outE (freshL c t rp ++ [])
  | y :: r => outE (freshL y.cls y.ttl rp ++ (y :: r))
theorem alloc_belowR (w : World) (o : Obj) : Below w.heap.size w (w.alloc o) := (Below.refl _ _).alloc (Nat.le_refl _) o

set_option maxHeartbeats 4000000 in
theorem rmend_any (A : Option Addr) (n c : Nat) (l : List Ent) (B : Option Addr) (m d : Nat) (rp : List Int) (cl tt : Int) (w : World) (h : Row w w.heap.size 4 A n (evs l)) (hc : n ≤ c) (hcm : c ≤ maxLen) (hn : n ≤ 1000000) (hf : ∀ x ∈ l, x.fitR) (hr : Row w w.heap.size 1 B m (nv .i64 rp)) (hm : m ≤ 1000000) (hcl : 0 ≤ cl ∧ cl ≤ 255) (htt : 0 ≤ tt ∧ tt ≤ 255) :
    Calls Try.prog 16 #[.slice A n c, .slice B m d, .int .u8 cl, .int .u8 tt] w fun e w' => ∃ A' c', e = .returned (.tuple #[.slice A' (mendF l rp cl tt).1.length c', .int .i64 (mendF l rp cl tt).2]) ∧ Own w' w.heap.size 46 4 A' (mendF l rp cl tt).1.length c' (evs (mendF l rp cl tt).1) ∧ Below w.heap.size w w' := by
  have hlen := ent_len h
  have hrl : rp.length = m := by have := hr.1; rw [nv_length] at this; omega
  match l, hlen, hf, h with
  | [], hlen, hf, h =>
    obtain rfl : n = 0 := by simpa using hlen.symm
    have HR := Lib.hid h
    have HRP := Lib.hid hr
    clear h hr hf
    go_enter Try.func16, Try.ntmps16
    go_wp2_with fail
    obtain ⟨FL, hFL⟩ : ∃ z, freshL cl tt rp = z := ⟨_, rfl⟩
    have hfl : FL.length = m := by rw [← hFL, freshL_length]; exact hrl
    have FR := rfresh_any B m d rp cl tt (by omega) hcl.1 hcl.2 w HRP.out
    rw [hFL] at FR
    have HFR := Lib.hid FR
    have hmv : mendF [] rp cl tt = outE (FL ++ []) := by rw [← hFL]; rfl
    have HMV := Lib.hid hmv
    clear FR hFL hmv
    refine HFR.out.mono ?_
    rintro e wa ⟨A1, c1, rfl, hown1, hb1⟩
    have HWA := Lib.hid hb1
    have ON := on_any A1 A m c1 0 c FL [] wa hown1.row ((HR.out.below hb1).more hb1.size) (by omega) (by omega)
    have HON := Lib.hid ON
    clear hb1 hown1 ON
    go_wp2_with fail
    refine HON.out.mono ?_
    rintro e wb ⟨A2, c2, rfl, hown2, hb2⟩
    have HWB := Lib.hid (bthen HWA.out hb2)
    have HOB := Lib.hid (hown2.mono HWA.out.size)
    have hln : (FL ++ []).length = m + 0 := by rw [List.length_append, hfl]; first | rfl | (simp; omega) | omega
    clear hown2 hb2
    by_cases h16 : m + 0 ≤ 16
    · have h16' : ¬ (16 : Int) < ((m + 0 : Nat) : Int) := by omega
      have HOE : Hid (outE (FL ++ []) = (FL ++ [], 0)) := Lib.hid (by unfold outE; rw [if_pos (by rw [hln]; exact h16)])
      have HLN := Lib.hid hln
      clear hln
      go_wp2_with fail
      go_ret2
      exact ⟨A2, c2, by rw [HMV.out, HOE.out, HLN.out]; rfl, by rw [HMV.out, HOE.out, HLN.out]; exact HOB.out, HWB.out⟩
    · have h16' : (16 : Int) < ((m + 0 : Nat) : Int) := by omega
      have HOE : Hid (outE (FL ++ []) = ([], 51)) := Lib.hid (by unfold outE; rw [if_neg (by rw [hln]; exact h16)])
      clear hln
      go_wp2_with fail
      go_ret2
      exact ⟨none, 0, by rw [HMV.out, HOE.out]; rfl, by rw [HMV.out, HOE.out]; exact Own.nil _ _ _ _ _, HWB.out⟩
  | y :: r, hlen, hf, h =>
    have hn1 : 1 ≤ n := by simp at hlen; omega
    have hn1' : (0 : Int) < (n : Int) := by omega
    have fy := hf y (by simp)
    obtain ⟨b, o, hA, hb, a0, a1, a2, a3⟩ := ent_row h 0 y rfl
    subst hA
    rw [Nat.zero_mul, Nat.add_zero] at a0 a1 a2 a3
    have HR := Lib.hid h
    have HRP := Lib.hid hr
    clear h hr hf
    go_enter Try.func16, Try.ntmps16
    go_wp2_with fail
    clear a0 a1 a2 a3
    obtain ⟨FL, hFL⟩ : ∃ z, freshL y.cls y.ttl rp = z := ⟨_, rfl⟩
    have hfl : FL.length = m := by rw [← hFL, freshL_length]; exact hrl
    have FR := rfresh_any B m d rp y.cls y.ttl (by omega) fy.cls.1 fy.cls.2 w HRP.out
    rw [hFL] at FR
    have HFR := Lib.hid FR
    have hmv : mendF (y :: r) rp cl tt = outE (FL ++ (y :: r)) := by rw [← hFL]; rfl
    have HMV := Lib.hid hmv
    clear FR hFL hmv
    refine HFR.out.mono ?_
    rintro e wa ⟨A1, c1, rfl, hown1, hb1⟩
    have HWA := Lib.hid hb1
    have ON := on_any A1 (some ⟨b, o, none⟩) m c1 n c FL (y :: r) wa hown1.row ((HR.out.below hb1).more hb1.size) (by omega) (by omega)
    have HON := Lib.hid ON
    clear hb1 hown1 ON
    go_wp2_with fail
    refine HON.out.mono ?_
    rintro e wb ⟨A2, c2, rfl, hown2, hb2⟩
    have HWB := Lib.hid (bthen HWA.out hb2)
    have HOB := Lib.hid (hown2.mono HWA.out.size)
    have hln : (FL ++ (y :: r)).length = m + n := by rw [List.length_append, hfl]; first | rfl | (simp; omega) | omega
    clear hown2 hb2
    by_cases h16 : m + n ≤ 16
    · have h16' : ¬ (16 : Int) < ((m + n : Nat) : Int) := by omega
      have HOE : Hid (outE (FL ++ (y :: r)) = (FL ++ (y :: r), 0)) := Lib.hid (by unfold outE; rw [if_pos (by rw [hln]; exact h16)])
      have HLN := Lib.hid hln
      clear hln
      go_wp2_with fail
      go_ret2
      exact ⟨A2, c2, by rw [HMV.out, HOE.out, HLN.out]; rfl, by rw [HMV.out, HOE.out, HLN.out]; exact HOB.out, HWB.out⟩
    · have h16' : (16 : Int) < ((m + n : Nat) : Int) := by omega
      have HOE : Hid (outE (FL ++ (y :: r)) = ([], 51)) := Lib.hid (by unfold outE; rw [if_neg (by rw [hln]; exact h16)])
      clear hln
      go_wp2_with fail
      go_ret2
      exact ⟨none, 0, by rw [HMV.out, HOE.out]; rfl, by rw [HMV.out, HOE.out]; exact Own.nil _ _ _ _ _, HWB.out⟩

set_option maxHeartbeats 4000000 in
theorem mend_any (A : Option Addr) (n c : Nat) (l : List Ent) (B : Option Addr) (m d : Nat) (rp : List Int) (cl tt : Int) (w : World) (h : Row w w.heap.size 4 A n (evs l)) (hc : n ≤ c) (hcm : c ≤ maxLen) (hn : n ≤ 1000000) (hf : ∀ x ∈ l, x.fitR) (hr : Row w w.heap.size 1 B m (nv .i64 rp)) (hm : m ≤ 1000000) (hcl : 0 ≤ cl ∧ cl ≤ 255) (htt : 0 ≤ tt ∧ tt ≤ 255) :
    Calls Try.prog 15 #[.slice A n c, .slice B m d, .int .u8 cl, .int .u8 tt] w fun e w' => ∃ A' c', e = .returned (.tuple #[.slice A' (mendF l rp cl tt).1.length c', .int .i64 (mendF l rp cl tt).2]) ∧ Own w' w.heap.size 46 4 A' (mendF l rp cl tt).1.length c' (evs (mendF l rp cl tt).1) ∧ Below w.heap.size w w' := by
  have hlen := ent_len h
  have hrl : rp.length = m := by have := hr.1; rw [nv_length] at this; omega
  match l, hlen, hf, h with
  | [], hlen, hf, h =>
    obtain rfl : n = 0 := by simpa using hlen.symm
    have HR := Lib.hid h
    have HRP := Lib.hid hr
    clear h hr hf
    go_enter Try.func15, Try.ntmps15
    go_wp2_with fail
    obtain ⟨FL, hFL⟩ : ∃ z, freshL cl tt rp = z := ⟨_, rfl⟩
    have hfl : FL.length = m := by rw [← hFL, freshL_length]; exact hrl
    have FR := fresh_any B m d rp cl tt (by omega) hcl.1 hcl.2 w ((HRP.out.below (Below.refl w.heap.size w)).more (Below.refl w.heap.size w).size)
    rw [hFL] at FR
    have HFR := Lib.hid FR
    have hmv : mendF [] rp cl tt = outE (FL ++ []) := by rw [← hFL]; rfl
    have HMV := Lib.hid hmv
    clear FR hFL hmv
    refine HFR.out.mono ?_
    rintro e wa ⟨A1, c1, rfl, hown1, hb1⟩
    have HWA := Lib.hid (bthen (Below.refl w.heap.size w) hb1)
    have HOA := Lib.hid hown1
    clear hb1 hown1
    go_wp2_with fail
    have hle := alloc_belowR wa (.cells #[.slice A1 m c1, .slice A 0 c] 22)
    have SK := stack20_any (some ⟨wa.heap.size, 0, none⟩) 2 2 [⟨A1, m, c1, FL⟩, ⟨A, 0, c, []⟩] (wa.alloc (.cells #[.slice A1 m c1, .slice A 0 c] 22)) (row_valsR wa _ 2 _ rfl rfl) (by
      intro x hx
      simp only [List.mem_cons, List.not_mem_nil, or_false] at hx
      rcases hx with rfl | rfl
      · exact (HOA.out.row.below hle).more hle.size
      · exact ((HR.out.below (bthen HWA.out hle)).more (bthen HWA.out hle).size)) (by omega) (by rw [show allE [⟨A1, m, c1, FL⟩, ⟨A, 0, c, []⟩] = FL ++ [] by simp [allE], List.length_append]; omega)
    have hall : allE [⟨A1, m, c1, FL⟩, ⟨A, 0, c, []⟩] = FL ++ [] := by simp [allE]
    rw [hall] at SK
    have HSK := Lib.hid SK
    clear SK hall
    refine HSK.out.mono ?_
    rintro e wb ⟨A2, c2, rfl, hown2, hb2⟩
    have HWB := Lib.hid (bthen HWA.out (bthen hle hb2))
    have HOB := Lib.hid (hown2.mono (bthen HWA.out hle).size)
    clear hown2 hb2 hle
    by_cases h16 : (FL ++ []).length ≤ 16
    · have hfe : fitE (FL ++ []) = FL ++ [] := by unfold fitE; rw [if_pos h16]
      have hoe : outE (FL ++ []) = (FL ++ [], 0) := by unfold outE; rw [if_pos h16]
      have hd : decide ((FL ++ []).length ≤ 16) = true := decide_eq_true h16
      have HFE := Lib.hid hfe
      have HOE := Lib.hid hoe
      rw [hd]
      clear hfe hoe hd h16
      go_wp2_with fail
      go_ret2
      have ho := HOB.out
      rw [HFE.out] at ho
      exact ⟨A2, c2, by rw [HMV.out, HOE.out]; first | (rw [HFE.out]; rfl) | (have h9 := HFE.out; simp only [List.append_nil] at h9 ⊢; rw [h9]; rfl), by rw [HMV.out, HOE.out]; exact ho, HWB.out⟩
    · have hfe : fitE (FL ++ []) = [] := by unfold fitE; rw [if_neg h16]
      have hoe : outE (FL ++ []) = ([], 51) := by unfold outE; rw [if_neg h16]
      have hd : decide ((FL ++ []).length ≤ 16) = false := decide_eq_false h16
      have HOE := Lib.hid hoe
      rw [hd]
      clear hfe hoe hd h16
      go_wp2_with fail
      go_ret2
      exact ⟨none, 0, by rw [HMV.out, HOE.out]; rfl, by rw [HMV.out, HOE.out]; exact Own.nil _ _ _ _ _, HWB.out⟩
  | y :: r, hlen, hf, h =>
    have hn1 : 1 ≤ n := by simp at hlen; omega
    have hn1' : (0 : Int) < (n : Int) := by omega
    have fy := hf y (by simp)
    obtain ⟨b, o, hA, hb, a0, a1, a2, a3⟩ := ent_row h 0 y rfl
    subst hA
    have HR := Lib.hid h
    have HRP := Lib.hid hr
    clear h hr hf a0 a1 a2 a3
    go_enter Try.func15, Try.ntmps15
    go_wp2_with fail
    refine wp_region_rel (fun A B => A.grownBy B none) (fun A => grown_refl A _) (fun A B C h k => grown_trans h k) (relAt (List.cons (fun v _ => v = .slice (some ⟨b, o, none⟩) n c) (List.cons (fun v _ => v = .pointer (some ⟨b, o, none⟩)) (List.cons (fun v _ => v = .pointer (some ⟨b, o + 1, none⟩)) (List.cons (fun v _ => v = .int .u8 y.cls) (List.cons (fun v _ => v = .slice (some ⟨b, o, none⟩) n c) (List.cons (fun v _ => v = .pointer (some ⟨b, o, none⟩)) (List.cons (fun v _ => v = .pointer (some ⟨b, o + 3, none⟩)) (List.cons (fun v _ => v = .int .u8 y.ttl) (List.cons (fun v _ => v = .int .u8 y.cls) (List.cons (fun v _ => v = .int .u8 y.ttl) ([])))))))))))) (MonoL.at_ (.cons (mono_val _) (.cons (mono_val _) (.cons (mono_val _) (.cons (mono_val _) (.cons (mono_val _) (.cons (mono_val _) (.cons (mono_val _) (.cons (mono_val _) (.cons (mono_val _) (.cons (mono_val _) .nil))))))))))) (by kernel_rfl) (by kernel_rfl) ⟨?_, ?_, ?_, ?_, ?_, ?_, ?_, ?_, ?_, ?_, trivial⟩ ?_
    · intro a vs W hX hR he hf K hK
      rw [if_pos (wanted_none rfl)]
      have e0 : a.eval (.tmp 0) = .slice (some ⟨b, o, none⟩) n c := hf 0 (by kernel_rfl)
      refine wp_value (v := .slice (some ⟨b, o, none⟩) n c) ?_ (hK _ _ rfl (grown_refl W _))
      simp only [execOp, e0]
      try go_simp
      try (first | rfl | omega | (simp only [IntKind.wrap_i64, IntKind.wrap_u8, IntKind.wrap_u64, IntKind.wrap_u16, IntKind.wrap_u32]; omega) | (rw [Int.tmod_eq_emod_of_nonneg (by omega)]) | (rw [Int.tmod_eq_emod_of_nonneg (by omega)]; omega))
    · intro a vs W hX hR he hf K hK
      rw [if_pos (wanted_none rfl)]
      have e15 : a.eval (.tmp 15) = .slice (some ⟨b, o, none⟩) n c := (he 0 15 (by kernel_rfl) rfl).trans (hR 0 (by kernel_rfl))
      refine wp_value (v := .pointer (some ⟨b, o, none⟩)) ?_ (hK _ _ rfl (grown_refl W _))
      simp only [execOp, e15]
      try go_simp
      try (first | rfl | omega | (simp only [IntKind.wrap_i64, IntKind.wrap_u8, IntKind.wrap_u64, IntKind.wrap_u16, IntKind.wrap_u32]; omega) | (rw [Int.tmod_eq_emod_of_nonneg (by omega)]) | (rw [Int.tmod_eq_emod_of_nonneg (by omega)]; omega))
    · intro a vs W hX hR he hf K hK
      rw [if_pos (wanted_none rfl)]
      have e16 : a.eval (.tmp 16) = .pointer (some ⟨b, o, none⟩) := (he 1 16 (by kernel_rfl) rfl).trans (hR 1 (by kernel_rfl))
      refine wp_value (v := .pointer (some ⟨b, o + 1, none⟩)) ?_ (hK _ _ rfl (grown_refl W _))
      simp only [execOp, e16]
      try go_simp
      try (first | rfl | omega | (simp only [IntKind.wrap_i64, IntKind.wrap_u8, IntKind.wrap_u64, IntKind.wrap_u16, IntKind.wrap_u32]; omega) | (rw [Int.tmod_eq_emod_of_nonneg (by omega)]) | (rw [Int.tmod_eq_emod_of_nonneg (by omega)]; omega))
    · intro a vs W hX hR he hf K hK
      rw [if_pos (wanted_none rfl)]
      have e17 : a.eval (.tmp 17) = .pointer (some ⟨b, o + 1, none⟩) := (he 2 17 (by kernel_rfl) rfl).trans (hR 2 (by kernel_rfl))
      have hbW := bthen (below_drew _) (grow_below hX)
      obtain ⟨b', o', hA', _, q0, q1, q2, q3⟩ := ent_row (HR.out.below hbW) 0 y rfl
      obtain ⟨rfl, rfl⟩ : b' = b ∧ o' = o := by injection hA' with hA'; injection hA' with h1 h2; exact ⟨h1.symm, h2.symm⟩
      rw [Nat.zero_mul, Nat.add_zero] at q0 q1 q2 q3
      refine wp_value (v := _) ?_ (hK _ _ rfl (grown_refl W _))
      simp only [execOp, e17]
      go_simp
    · intro a vs W hX hR he hf K hK
      rw [if_pos (wanted_none rfl)]
      have e0 : a.eval (.tmp 0) = .slice (some ⟨b, o, none⟩) n c := hf 0 (by kernel_rfl)
      refine wp_value (v := .slice (some ⟨b, o, none⟩) n c) ?_ (hK _ _ rfl (grown_refl W _))
      simp only [execOp, e0]
      try go_simp
      try (first | rfl | omega | (simp only [IntKind.wrap_i64, IntKind.wrap_u8, IntKind.wrap_u64, IntKind.wrap_u16, IntKind.wrap_u32]; omega) | (rw [Int.tmod_eq_emod_of_nonneg (by omega)]) | (rw [Int.tmod_eq_emod_of_nonneg (by omega)]; omega))
    · intro a vs W hX hR he hf K hK
      rw [if_pos (wanted_none rfl)]
      have e19 : a.eval (.tmp 19) = .slice (some ⟨b, o, none⟩) n c := (he 4 19 (by kernel_rfl) rfl).trans (hR 4 (by kernel_rfl))
      refine wp_value (v := .pointer (some ⟨b, o, none⟩)) ?_ (hK _ _ rfl (grown_refl W _))
      simp only [execOp, e19]
      try go_simp
      try (first | rfl | omega | (simp only [IntKind.wrap_i64, IntKind.wrap_u8, IntKind.wrap_u64, IntKind.wrap_u16, IntKind.wrap_u32]; omega) | (rw [Int.tmod_eq_emod_of_nonneg (by omega)]) | (rw [Int.tmod_eq_emod_of_nonneg (by omega)]; omega))
    · intro a vs W hX hR he hf K hK
      rw [if_pos (wanted_none rfl)]
      have e20 : a.eval (.tmp 20) = .pointer (some ⟨b, o, none⟩) := (he 5 20 (by kernel_rfl) rfl).trans (hR 5 (by kernel_rfl))
      refine wp_value (v := .pointer (some ⟨b, o + 3, none⟩)) ?_ (hK _ _ rfl (grown_refl W _))
      simp only [execOp, e20]
      try go_simp
      try (first | rfl | omega | (simp only [IntKind.wrap_i64, IntKind.wrap_u8, IntKind.wrap_u64, IntKind.wrap_u16, IntKind.wrap_u32]; omega) | (rw [Int.tmod_eq_emod_of_nonneg (by omega)]) | (rw [Int.tmod_eq_emod_of_nonneg (by omega)]; omega))
    · intro a vs W hX hR he hf K hK
      rw [if_pos (wanted_none rfl)]
      have e21 : a.eval (.tmp 21) = .pointer (some ⟨b, o + 3, none⟩) := (he 6 21 (by kernel_rfl) rfl).trans (hR 6 (by kernel_rfl))
      have hbW := bthen (below_drew _) (grow_below hX)
      obtain ⟨b', o', hA', _, q0, q1, q2, q3⟩ := ent_row (HR.out.below hbW) 0 y rfl
      obtain ⟨rfl, rfl⟩ : b' = b ∧ o' = o := by injection hA' with hA'; injection hA' with h1 h2; exact ⟨h1.symm, h2.symm⟩
      rw [Nat.zero_mul, Nat.add_zero] at q0 q1 q2 q3
      refine wp_value (v := _) ?_ (hK _ _ rfl (grown_refl W _))
      simp only [execOp, e21]
      go_simp
    · intro a vs W hX hR he hf K hK
      rw [if_pos (wanted_none rfl)]
      have e18 : a.eval (.tmp 18) = .int .u8 y.cls := (he 3 18 (by kernel_rfl) rfl).trans (hR 3 (by kernel_rfl))
      refine wp_value (v := .int .u8 y.cls) ?_ (hK _ _ rfl (grown_refl W _))
      simp only [execOp, e18]
      try go_simp
      try (first | rfl | omega | (simp only [IntKind.wrap_i64, IntKind.wrap_u8, IntKind.wrap_u64, IntKind.wrap_u16, IntKind.wrap_u32]; omega) | (rw [Int.tmod_eq_emod_of_nonneg (by omega)]) | (rw [Int.tmod_eq_emod_of_nonneg (by omega)]; omega))
    · intro a vs W hX hR he hf K hK
      rw [if_pos (wanted_none rfl)]
      have e22 : a.eval (.tmp 22) = .int .u8 y.ttl := (he 7 22 (by kernel_rfl) rfl).trans (hR 7 (by kernel_rfl))
      refine wp_value (v := .int .u8 y.ttl) ?_ (hK _ _ rfl (grown_refl W _))
      simp only [execOp, e22]
      try go_simp
      try (first | rfl | omega | (simp only [IntKind.wrap_i64, IntKind.wrap_u8, IntKind.wrap_u64, IntKind.wrap_u16, IntKind.wrap_u32]; omega) | (rw [Int.tmod_eq_emod_of_nonneg (by omega)]) | (rw [Int.tmod_eq_emod_of_nonneg (by omega)]; omega))
    · intro vs w2 hX2 hR
      have q0 := hR 0 (by decide)
      have q1 := hR 1 (by decide)
      have q2 := hR 2 (by decide)
      have q3 := hR 3 (by decide)
      have q4 := hR 4 (by decide)
      have q5 := hR 5 (by decide)
      have q6 := hR 6 (by decide)
      have q7 := hR 7 (by decide)
      have q8 := hR 8 (by decide)
      have q9 := hR 9 (by decide)
      change vs 0 = .slice (some ⟨b, o, none⟩) n c at q0
      change vs 1 = .pointer (some ⟨b, o, none⟩) at q1
      change vs 2 = .pointer (some ⟨b, o + 1, none⟩) at q2
      change vs 3 = .int .u8 y.cls at q3
      change vs 4 = .slice (some ⟨b, o, none⟩) n c at q4
      change vs 5 = .pointer (some ⟨b, o, none⟩) at q5
      change vs 6 = .pointer (some ⟨b, o + 3, none⟩) at q6
      change vs 7 = .int .u8 y.ttl at q7
      change vs 8 = .int .u8 y.cls at q8
      change vs 9 = .int .u8 y.ttl at q9
      simp only [putAll, Act.put, List.setIfInBounds_toArray, List.set_cons_zero, List.set_cons_succ, q0, q1, q2, q3, q4, q5, q6, q7, q8, q9]
      clear q0 q1 q2 q3 q4 q5 q6 q7 q8 q9
      clear hR
      have HW2 := Lib.hid (bthen (below_drew w) (grow_below hX2))
      clear hX2
      go_wp2_with fail
      obtain ⟨FL, hFL⟩ : ∃ z, freshL y.cls y.ttl rp = z := ⟨_, rfl⟩
      have hfl : FL.length = m := by rw [← hFL, freshL_length]; exact hrl
      have FR := fresh_any B m d rp y.cls y.ttl (by omega) fy.cls.1 fy.cls.2 w2 ((HRP.out.below HW2.out).more HW2.out.size)
      rw [hFL] at FR
      have HFR := Lib.hid FR
      have hmv : mendF (y :: r) rp cl tt = outE (FL ++ (y :: r)) := by rw [← hFL]; rfl
      have HMV := Lib.hid hmv
      clear FR hFL hmv
      refine HFR.out.mono ?_
      rintro e wa ⟨A1, c1, rfl, hown1, hb1⟩
      have HWA := Lib.hid (bthen HW2.out hb1)
      have HOA := Lib.hid hown1
      clear hb1 hown1
      go_wp2_with fail
      have hle := alloc_belowR wa (.cells #[.slice A1 m c1, .slice (some ⟨b, o, none⟩) n c] 22)
      have SK := stack20_any (some ⟨wa.heap.size, 0, none⟩) 2 2 [⟨A1, m, c1, FL⟩, ⟨some ⟨b, o, none⟩, n, c, (y :: r)⟩] (wa.alloc (.cells #[.slice A1 m c1, .slice (some ⟨b, o, none⟩) n c] 22)) (row_valsR wa _ 2 _ rfl rfl) (by
        intro x hx
        simp only [List.mem_cons, List.not_mem_nil, or_false] at hx
        rcases hx with rfl | rfl
        · exact (HOA.out.row.below hle).more hle.size
        · exact ((HR.out.below (bthen HWA.out hle)).more (bthen HWA.out hle).size)) (by omega) (by rw [show allE [⟨A1, m, c1, FL⟩, ⟨some ⟨b, o, none⟩, n, c, (y :: r)⟩] = FL ++ (y :: r) by simp [allE], List.length_append]; omega)
      have hall : allE [⟨A1, m, c1, FL⟩, ⟨some ⟨b, o, none⟩, n, c, (y :: r)⟩] = FL ++ (y :: r) := by simp [allE]
      rw [hall] at SK
      have HSK := Lib.hid SK
      clear SK hall
      refine HSK.out.mono ?_
      rintro e wb ⟨A2, c2, rfl, hown2, hb2⟩
      have HWB := Lib.hid (bthen HWA.out (bthen hle hb2))
      have HOB := Lib.hid (hown2.mono (bthen HWA.out hle).size)
      clear hown2 hb2 hle
      by_cases h16 : (FL ++ (y :: r)).length ≤ 16
      · have hfe : fitE (FL ++ (y :: r)) = FL ++ (y :: r) := by unfold fitE; rw [if_pos h16]
        have hoe : outE (FL ++ (y :: r)) = (FL ++ (y :: r), 0) := by unfold outE; rw [if_pos h16]
        have hd : decide ((FL ++ (y :: r)).length ≤ 16) = true := decide_eq_true h16
        have HFE := Lib.hid hfe
        have HOE := Lib.hid hoe
        rw [hd]
        clear hfe hoe hd h16
        go_wp2_with fail
        go_ret2
        have ho := HOB.out
        rw [HFE.out] at ho
        exact ⟨A2, c2, by rw [HMV.out, HOE.out]; first | (rw [HFE.out]; rfl) | (have h9 := HFE.out; simp only [List.append_nil] at h9 ⊢; rw [h9]; rfl), by rw [HMV.out, HOE.out]; exact ho, HWB.out⟩
      · have hfe : fitE (FL ++ (y :: r)) = [] := by unfold fitE; rw [if_neg h16]
        have hoe : outE (FL ++ (y :: r)) = ([], 51) := by unfold outE; rw [if_neg h16]
        have hd : decide ((FL ++ (y :: r)).length ≤ 16) = false := decide_eq_false h16
        have HOE := Lib.hid hoe
        rw [hd]
        clear hfe hoe hd h16
        go_wp2_with fail
        go_ret2
        exact ⟨none, 0, by rw [HMV.out, HOE.out]; rfl, by rw [HMV.out, HOE.out]; exact Own.nil _ _ _ _ _, HWB.out⟩
end Go.Proofs.Ytmpaockaeoknmaa

/- Texts of this claim put together, in build order: each one's own remark stands ahead of it. -/
import Derived.Test.YtbcjkjmjljfhpaaDoorG21
/- What icmp6.read and icmp6.Is (layer 24) compute. No condition but sizes. -/
namespace Go.Proofs.YtbcjkjmjljfhpaaDoor
open Go.RowKit
set_option linter.unusedVariables false
set_option maxRecDepth 20000
set_option linter.unusedSimpArgs false

theorem put24p_any (m : Mp) (w : World) (hm : m.ok w) (hT : Typ24 w) (hpm : m.pn ≤ 1000000) (src dst : List UInt8) (hsl : src.length = 16) (hdl : dst.length = 16) :
    Calls Tryd.prog 8 #[.agg m.cells.toArray, .agg (bv src).toArray, .agg (bv dst).toArray] w fun e w' => ∃ A' n' c', e = .returned (.tuple #[.slice A' n' c', .int .i64 (put24 m.m src dst).2]) ∧ Own w' w.heap.size 5 1 A' n' c' (bv (put24 m.m src dst).1) ∧ Below w.heap.size w w' := by
  by_cases hb : m.m.bad6
  · have hp : put24 m.m src dst = ([], 1) := by unfold put24; rw [if_pos hb]
    refine (put24p_bad m w hm src dst hb).mono ?_
    rintro e w' ⟨rfl, hb'⟩
    exact ⟨none, 0, 0, by rw [hp], by rw [hp]; exact Own.nil _ _ _ _ _, hb'⟩
  · exact put24p_ok m w hm hT hpm src dst hsl hdl hb
/-- a packet's body, if it is one of ICMP -/
def psF (l : List UInt8) : List UInt8 := pseudoF (par6 l).1.src (par6 l).1.dst 58 ((body6 l).length : Int)
def readF (l : List UInt8) : List UInt8 × Int :=
  if (par6 l).2 ≠ 0 then ([], (par6 l).2) else if (par6 l).1.next ≠ 58 then ([], 55) else if (body6 l).length < 8 then ([], 15) else if rawN (psF l ++ body6 l) ≠ 65535 then ([], 14) else (body6 l, 0)
theorem body6_le (l : List UInt8) : (body6 l).length ≤ l.length := by
  unfold body6
  split
  · simp only [List.length_take, List.length_drop]; omega
  · simp
set_option maxHeartbeats 8000000 in
theorem read24_any (A : Option Addr) (n c : Nat) (l : List UInt8) (w : World) (h : Row w w.heap.size 1 A n (bv l)) (hc : n ≤ c) (hcm : c ≤ maxLen) (hn : n ≤ 1000000) :
    Calls Tryd.prog 29 #[.slice A n c] w fun e w' => ∃ r : Bs, e = .returned (.tuple #[r.v, .int .i64 (readF l).2]) ∧ r.l = (readF l).1 ∧ r.ok w' ∧ Below w.heap.size w w' := by
  have hll : l.length = n := by have := h.1; rw [bv_length] at this; omega
  have P := parse6_any A n c l w h hc hcm (by omega)
  have hok := par6_ok l
  have BD := Lib.hid (fun (w' : World) (hr : Row w' w'.heap.size 1 A n (bv l)) => body6_any A n c l w' hr hc hcm (by omega))
  obtain ⟨S, hS⟩ : ∃ S, body6 l = S := ⟨_, rfl⟩
  have hSn : S.length ≤ n := by rw [← hS, ← hll]; exact body6_le l
  obtain ⟨R, hR⟩ : ∃ R, readF l = R := ⟨_, rfl⟩
  rw [hR]
  have hRF : R = if (par6 l).2 ≠ 0 then ([], (par6 l).2) else if (par6 l).1.next ≠ 58 then ([], 55) else if S.length < 8 then ([], 15) else if rawN (pseudoF (par6 l).1.src (par6 l).1.dst 58 (S.length : Int) ++ S) ≠ 65535 then ([], 14) else (S, 0) := by rw [← hR]; unfold readF psF; rw [hS]
  rw [hS] at BD
  clear hR hS
  cases hp : par6 l with
  | mk h6 er =>
  rw [hp] at P hok hRF
  simp only at P hok hRF
  have HP := Lib.hid P
  have HOK := Lib.hid hok
  have HH := Lib.hid h
  clear P hok hp h
  have H0 := H6.zero_ok
  by_cases he : er = 0
  · subst he
    rw [if_neg (fun h => h rfl)] at hRF
    by_cases hnx : h6.next = 58
    · have hnx1 : (h6.next != 58) = false := by simp [hnx]
      rw [if_neg (fun h => h hnx)] at hRF
      clear hnx
      by_cases h8 : S.length < 8
      · rw [if_pos h8] at hRF
        have HR := Lib.hid hRF
        have h8i : (S.length : Int) < 8 := by omega
        clear hRF
        go_enter Tryd.func29, Tryd.ntmps29
        go_wp2_with fail
        refine HP.out.mono ?_
        rintro e w1 ⟨rfl, hb1⟩
        go_upto_region 4 with (first
          | (refine wpList_alloc_blk rfl 58 rfl H6.zero.cells zero6 ?_; intro w2 hb2 hB2 hs2)
          | (refine wpList_store_all rfl 58 _ _ rfl w1.heap.size h6.cells rfl rfl 58 _ hb2 (size6 _ HOK.out) (H6.cells_same _ _ HOK.out H0) (H6.one _) ?_; intro w3 hb3 hg3 hs3))
        have hB3 : Below w1.heap.size w1 w3 := bgrown hB2 hg3 (by omega) (by omega)
        have HW := Lib.hid (bthen hb1 hB3)
        obtain ⟨g4, hg4⟩ : ∃ g, w1.heap.size = g := ⟨_, rfl⟩
        rw [hg4] at hb3
        try rw [hg4]
        have HK := Lib.hid hb3
        have hd3 : w3.cell? ⟨g4, 3, none⟩ = some (.int .u8 h6.next) := hb3.cell 3
        clear hb2 hB2 hs2 hb3 hg3 hs3 hB3 hg4 hb1
        go_wp2_with fail
        refine (BD.out w3 ((HH.out.below HW.out).more HW.out.size)).mono ?_
        rintro e w4 ⟨⟨A4, n4, c4, l4⟩, rfl, hl4, ho4, hb4⟩
        dsimp only at hl4
        subst hl4
        have hn4 : l4.length = n4 := ho4.len
        subst hn4
        have HO4 := Lib.hid ho4
        replace HW := Lib.hid (bthen HW.out hb4)
        replace HK := Lib.hid (HK.out.on hb4)
        clear hb4 ho4 hd3
        dsimp only [Bs.v]
        go_wp2_with fail
        go_ret2
        exact ⟨⟨none, 0, 0, []⟩, by rw [HR.out]; rfl, by rw [HR.out], ok_nil _, HW.out⟩
      · rw [if_neg h8] at hRF
        have h8i : ¬ (S.length : Int) < 8 := by omega
        obtain ⟨ps, hps⟩ : ∃ ps, pseudoF h6.src h6.dst 58 (S.length : Int) = ps := ⟨_, rfl⟩
        rw [hps] at hRF
        have hpsl : ps.length ≤ 40 := by rw [← hps]; exact pseudoF_le _ _ _ _
        obtain ⟨b9, hb9⟩ : ∃ b, decide (rawN (ps ++ S) = 65535) = b := ⟨_, rfl⟩
        have HPS := Lib.hid hps
        have HB9 := Lib.hid hb9
        have HRF := Lib.hid hRF
        clear hRF hps hb9
        go_enter Tryd.func29, Tryd.ntmps29
        go_wp2_with fail
        refine HP.out.mono ?_
        rintro e w1 ⟨rfl, hb1⟩
        go_upto_region 4 with (first
          | (refine wpList_alloc_blk rfl 58 rfl H6.zero.cells zero6 ?_; intro w2 hb2 hB2 hs2)
          | (refine wpList_store_all rfl 58 _ _ rfl w1.heap.size h6.cells rfl rfl 58 _ hb2 (size6 _ HOK.out) (H6.cells_same _ _ HOK.out H0) (H6.one _) ?_; intro w3 hb3 hg3 hs3))
        have hB3 : Below w1.heap.size w1 w3 := bgrown hB2 hg3 (by omega) (by omega)
        have HW := Lib.hid (bthen hb1 hB3)
        obtain ⟨g4, hg4⟩ : ∃ g, w1.heap.size = g := ⟨_, rfl⟩
        rw [hg4] at hb3
        try rw [hg4]
        have HK := Lib.hid hb3
        have hd3 : w3.cell? ⟨g4, 3, none⟩ = some (.int .u8 h6.next) := hb3.cell 3
        clear hb2 hB2 hs2 hb3 hg3 hs3 hB3 hg4 hb1
        go_wp2_with fail
        refine (BD.out w3 ((HH.out.below HW.out).more HW.out.size)).mono ?_
        rintro e w4 ⟨⟨A4, n4, c4, l4⟩, rfl, hl4, ho4, hb4⟩
        dsimp only at hl4
        subst hl4
        have hn4 : l4.length = n4 := ho4.len
        subst hn4
        have HO4 := Lib.hid ho4
        replace HW := Lib.hid (bthen HW.out hb4)
        replace HK := Lib.hid (HK.out.on hb4)
        clear hb4 ho4 hd3
        dsimp only [Bs.v]
        go_wp2_with fail
        refine wp_region_rel (fun A B => A.grownBy B none) (fun A => grown_refl A _) (fun A B C h k => grown_trans h k) (relAt (List.cons (fun v _ => v = .pointer (some ⟨g4, 5, none⟩)) (List.cons (fun v _ => v = .slice (some ⟨g4, 5, none⟩) 16 16) (List.cons (fun v _ => v = .pointer (some ⟨g4, 21, none⟩)) (List.cons (fun v _ => v = .slice (some ⟨g4, 21, none⟩) 16 16) (List.cons (fun v _ => v = .slice A4 l4.length c4) (List.cons (fun v _ => v = .int .i64 (l4.length : Int)) (List.cons (BsR ps) (List.cons (fun v _ => v = .slice A4 l4.length c4) (List.cons (RowsR [ps, l4]) (List.cons (fun v _ => v = .bool b9) (List.cons (fun v _ => v = .bool (!b9)) (List.cons (fun v _ => v = .bool (!b9)) ([])))))))))))))) (MonoL.at_ (.cons (mono_val _) (.cons (mono_val _) (.cons (mono_val _) (.cons (mono_val _) (.cons (mono_val _) (.cons (mono_val _) (.cons (mono_bs _) (.cons (mono_val _) (.cons (mono_rows _) (.cons (mono_val _) (.cons (mono_val _) (.cons (mono_val _) .nil))))))))))))) (by kernel_rfl) (by kernel_rfl) ⟨?_, ?_, ?_, ?_, ?_, ?_, ?_, ?_, ?_, ?_, ?_, ?_, trivial⟩ ?_
        · intro a vs W hX hR he hf K hK
          rw [if_pos (wanted_none rfl)]
          have e4 : a.eval (.tmp 4) = .pointer (some ⟨g4, 0, none⟩) := hf 4 (by kernel_rfl)
          refine wp_value (v := .pointer (some ⟨g4, 5, none⟩)) ?_ (hK _ _ rfl (grown_refl W _))
          simp only [execOp, e4]
          try go_simp
          try (first | rfl | omega | (simp only [IntKind.wrap_i64, IntKind.wrap_u8, IntKind.wrap_u64, IntKind.wrap_u16, IntKind.wrap_u32]; omega) | (rw [Int.tmod_eq_emod_of_nonneg (by omega)]) | (rw [Int.tmod_eq_emod_of_nonneg (by omega)]; omega))
        · intro a vs W hX hR he hf K hK
          rw [if_pos (wanted_none rfl)]
          have e27 : a.eval (.tmp 27) = .pointer (some ⟨g4, 5, none⟩) := (he 0 27 (by kernel_rfl) rfl).trans (hR 0 (by kernel_rfl))
          have f27 := e27
          simp only [Act.eval, Array.getD_eq_getD_getElem?] at f27
          refine wp_value (v := _) ?_ (hK _ _ rfl (grown_refl W _))
          simp only [execOp, e27]
          go_simp
        · intro a vs W hX hR he hf K hK
          rw [if_pos (wanted_none rfl)]
          have e4 : a.eval (.tmp 4) = .pointer (some ⟨g4, 0, none⟩) := hf 4 (by kernel_rfl)
          refine wp_value (v := .pointer (some ⟨g4, 21, none⟩)) ?_ (hK _ _ rfl (grown_refl W _))
          simp only [execOp, e4]
          try go_simp
          try (first | rfl | omega | (simp only [IntKind.wrap_i64, IntKind.wrap_u8, IntKind.wrap_u64, IntKind.wrap_u16, IntKind.wrap_u32]; omega) | (rw [Int.tmod_eq_emod_of_nonneg (by omega)]) | (rw [Int.tmod_eq_emod_of_nonneg (by omega)]; omega))
        · intro a vs W hX hR he hf K hK
          rw [if_pos (wanted_none rfl)]
          have e29 : a.eval (.tmp 29) = .pointer (some ⟨g4, 21, none⟩) := (he 2 29 (by kernel_rfl) rfl).trans (hR 2 (by kernel_rfl))
          have f29 := e29
          simp only [Act.eval, Array.getD_eq_getD_getElem?] at f29
          refine wp_value (v := _) ?_ (hK _ _ rfl (grown_refl W _))
          simp only [execOp, e29]
          go_simp
        · intro a vs W hX hR he hf K hK
          rw [if_pos (wanted_none rfl)]
          have e6 : a.eval (.tmp 6) = .slice A4 l4.length c4 := hf 6 (by kernel_rfl)
          refine wp_value (v := .slice A4 l4.length c4) ?_ (hK _ _ rfl (grown_refl W _))
          simp only [execOp, e6]
          try go_simp
          try (first | rfl | omega | (simp only [IntKind.wrap_i64, IntKind.wrap_u8, IntKind.wrap_u64, IntKind.wrap_u16, IntKind.wrap_u32]; omega) | (rw [Int.tmod_eq_emod_of_nonneg (by omega)]) | (rw [Int.tmod_eq_emod_of_nonneg (by omega)]; omega))
        · intro a vs W hX hR he hf K hK
          rw [if_pos (wanted_none rfl)]
          have e31 : a.eval (.tmp 31) = .slice A4 l4.length c4 := (he 4 31 (by kernel_rfl) rfl).trans (hR 4 (by kernel_rfl))
          have f31 := e31
          simp only [Act.eval, Array.getD_eq_getD_getElem?] at f31
          refine wp_value (v := .int .i64 (l4.length : Int)) ?_ (hK _ _ rfl (grown_refl W _))
          simp only [execOp, e31]
          try go_simp
          try (first | rfl | omega | (simp only [IntKind.wrap_i64, IntKind.wrap_u8, IntKind.wrap_u64, IntKind.wrap_u16, IntKind.wrap_u32]; omega) | (rw [Int.tmod_eq_emod_of_nonneg (by omega)]) | (rw [Int.tmod_eq_emod_of_nonneg (by omega)]; omega))
        · intro a vs W hX hR he hf K hK
          rw [if_pos (wanted_none rfl)]
          have e28 : a.eval (.tmp 28) = .slice (some ⟨g4, 5, none⟩) 16 16 := (he 1 28 (by kernel_rfl) rfl).trans (hR 1 (by kernel_rfl))
          have e30 : a.eval (.tmp 30) = .slice (some ⟨g4, 21, none⟩) 16 16 := (he 3 30 (by kernel_rfl) rfl).trans (hR 3 (by kernel_rfl))
          have e32 : a.eval (.tmp 32) = .int .i64 (l4.length : Int) := (he 5 32 (by kernel_rfl) rfl).trans (hR 5 (by kernel_rfl))
          have hbW := bthen (below_drew _) (grow_below hX)
          refine wp_enter (f := 47) (args := #[.slice (some ⟨g4, 5, none⟩) 16 16, .slice (some ⟨g4, 21, none⟩) 16 16, .int .u8 58, .int .i64 (l4.length : Int)]) (by simp only [execOp, e28, e30, e32]; go_simp; exact ⟨by simpa [Act.eval] using e28, by simpa [Act.eval] using e30, by simpa [Act.eval] using e32⟩) ((pseudo_any _ _ 16 16 16 16 h6.src h6.dst 58 (l4.length : Int) W (show (Bs.mk (some ⟨g4, 5, none⟩) 16 16 h6.src).ok W from ⟨by have h9 := (HK.out.on hbW).row 1 5 16 (by rw [h6.cells_length HOK.out]; omega); rw [Nat.mul_one, h6.drop_src HOK.out] at h9; exact h9, Nat.le_refl _, by show 16 ≤ maxLen; simp only [maxLen]; omega⟩) (show (Bs.mk (some ⟨g4, 21, none⟩) 16 16 h6.dst).ok W from ⟨by have h9 := (HK.out.on hbW).row 1 21 16 (by rw [h6.cells_length HOK.out]; omega); rw [Nat.mul_one, h6.drop_dst HOK.out] at h9; exact h9, Nat.le_refl _, by show 16 ≤ maxLen; simp only [maxLen]; omega⟩) (by omega) (by omega) (by omega) (by omega) (by omega) (by omega)).mono ?_)
          rintro q' w' ⟨r9, rfl, hr9, hl9, hb⟩
          rw [show (58 : Int).toNat = 58 from rfl, HPS.out] at hl9
          exact ⟨_, rfl, hK _ _ ⟨r9.A, r9.n, r9.c, rfl, by rw [← hl9]; exact hr9⟩ (below_grow hb _)⟩
        · intro a vs W hX hR he hf K hK
          rw [if_pos (wanted_none rfl)]
          have e6 : a.eval (.tmp 6) = .slice A4 l4.length c4 := hf 6 (by kernel_rfl)
          refine wp_value (v := .slice A4 l4.length c4) ?_ (hK _ _ rfl (grown_refl W _))
          simp only [execOp, e6]
          try go_simp
          try (first | rfl | omega | (simp only [IntKind.wrap_i64, IntKind.wrap_u8, IntKind.wrap_u64, IntKind.wrap_u16, IntKind.wrap_u32]; omega) | (rw [Int.tmod_eq_emod_of_nonneg (by omega)]) | (rw [Int.tmod_eq_emod_of_nonneg (by omega)]; omega))
        · intro a vs W hX hR he hf K hK
          rw [if_pos (wanted_none rfl)]
          have e33 := he 6 33 (by kernel_rfl) rfl
          have p33 := hR 6 (by kernel_rfl)
          change (BsR ps) (vs 6) W at p33
          have e34 : a.eval (.tmp 34) = .slice A4 l4.length c4 := (he 7 34 (by kernel_rfl) rfl).trans (hR 7 (by kernel_rfl))
          have f33 := e33
          simp only [Act.eval, Array.getD_eq_getD_getElem?] at f33
          have f34 := e34
          simp only [Act.eval, Array.getD_eq_getD_getElem?] at f34
          have hbW := bthen (below_drew _) (grow_below hX)
          obtain ⟨A5, n5, c5, hv5, ho5⟩ := p33
          rw [hv5] at e33
          have f33' := e33
          simp only [Act.eval, Array.getD_eq_getD_getElem?] at f33'
          refine wp_value (v := .slice (some ⟨W.heap.size, 0, none⟩) 2 2) (w' := W.alloc (.cells #[.slice A5 n5 c5, .slice A4 l4.length c4] 22)) ?_ (hK _ _ ⟨[⟨A5, n5, c5, ps⟩, ⟨A4, l4.length, c4, l4⟩], _, _, _, rfl, rfl, ?_, ?_⟩ (World.grownBy_alloc _ _ _))
          · simp only [execOp, e33, e34]
            go_simp
          · rw [World.size_alloc]
            exact Row.new (n := 2) (sz := 1) W _ rfl
          · have k := fun r (hr : Bs.ok W r) => hr.below (alloc_below W (.cells #[.slice A5 n5 c5, .slice A4 l4.length c4] 22))
            simp only [List.mem_cons, List.not_mem_nil, or_false]
            rintro r (rfl | rfl)
            · exact k _ ho5
            · exact k _ (HO4.out.below hbW)
        · intro a vs W hX hR he hf K hK
          rw [if_pos (wanted_none rfl)]
          have e35 := he 8 35 (by kernel_rfl) rfl
          have p35 := hR 8 (by kernel_rfl)
          change (RowsR [ps, l4]) (vs 8) W at p35
          obtain ⟨rows9, R9, k9, c9, hv, hl, hr, ho⟩ := p35
          rw [hv] at e35
          have hfl : flat rows9 = ps ++ l4 := by rw [flat_map, hl]; simp
          have hk4 : k9 ≤ 4 := by have h1 := hr.1; rw [List.length_map] at h1; have h2 := congrArg List.length hl; simp at h2; omega
          refine wp_enter (f := 50) (args := #[.slice R9 k9 c9]) (by simp only [execOp, e35]; go_simp; simpa [Act.eval] using e35) ((check_any R9 k9 c9 rows9 W hr ho (by omega) (by rw [hfl, List.length_append]; omega)).mono ?_)
          rintro e w' ⟨rfl, hb⟩
          rw [hfl, HB9.out]
          exact ⟨_, rfl, hK _ _ rfl (below_grow hb _)⟩
        · intro a vs W hX hR he hf K hK
          rw [if_pos (wanted_none rfl)]
          have e36 : a.eval (.tmp 36) = .bool b9 := (he 9 36 (by kernel_rfl) rfl).trans (hR 9 (by kernel_rfl))
          refine wp_value (v := .bool (!b9)) ?_ (hK _ _ rfl (grown_refl W _))
          simp only [execOp, e36]
          try go_simp
          try (first | rfl | omega | (simp only [IntKind.wrap_i64, IntKind.wrap_u8, IntKind.wrap_u64, IntKind.wrap_u16, IntKind.wrap_u32]; omega) | (rw [Int.tmod_eq_emod_of_nonneg (by omega)]) | (rw [Int.tmod_eq_emod_of_nonneg (by omega)]; omega))
        · intro a vs W hX hR he hf K hK
          rw [if_pos (wanted_none rfl)]
          have e37 : a.eval (.tmp 37) = .bool (!b9) := (he 10 37 (by kernel_rfl) rfl).trans (hR 10 (by kernel_rfl))
          refine wp_value (v := .bool (!b9)) ?_ (hK _ _ rfl (grown_refl W _))
          simp only [execOp, e37]
          try go_simp
          try (first | rfl | omega | (simp only [IntKind.wrap_i64, IntKind.wrap_u8, IntKind.wrap_u64, IntKind.wrap_u16, IntKind.wrap_u32]; omega) | (rw [Int.tmod_eq_emod_of_nonneg (by omega)]) | (rw [Int.tmod_eq_emod_of_nonneg (by omega)]; omega))
        · intro vs W2 hX2 hR
          have q0 := hR 0 (by decide)
          have q1 := hR 1 (by decide)
          have q2 := hR 2 (by decide)
          have q3 := hR 3 (by decide)
          have q4 := hR 4 (by decide)
          have q5 := hR 5 (by decide)
          have q6 := hR 6 (by decide)
          have q7 := hR 7 (by decide)
          have q8 := hR 8 (by decide)
          have q9 := hR 9 (by decide)
          have q10 := hR 10 (by decide)
          have q11 := hR 11 (by decide)
          change vs 0 = .pointer (some ⟨g4, 5, none⟩) at q0
          change vs 1 = .slice (some ⟨g4, 5, none⟩) 16 16 at q1
          change vs 2 = .pointer (some ⟨g4, 21, none⟩) at q2
          change vs 3 = .slice (some ⟨g4, 21, none⟩) 16 16 at q3
          change vs 4 = .slice A4 l4.length c4 at q4
          change vs 5 = .int .i64 (l4.length : Int) at q5
          change (BsR ps) (vs 6) W2 at q6
          change vs 7 = .slice A4 l4.length c4 at q7
          change (RowsR [ps, l4]) (vs 8) W2 at q8
          change vs 9 = .bool b9 at q9
          change vs 10 = .bool (!b9) at q10
          change vs 11 = .bool (!b9) at q11
          simp only [putAll, Act.put, List.setIfInBounds_toArray, List.set_cons_zero, List.set_cons_succ, q0, q1, q2, q3, q4, q5, q7, q9, q10, q11]
          clear q0 q1 q2 q3 q4 q5 q7 q9 q10 q11
          clear hR
          have hbW := bthen (below_drew _) (grow_below hX2)
          have HO5 := Lib.hid (HO4.out.below hbW)
          replace HW := Lib.hid (bthen HW.out hbW)
          clear hbW hX2
          cases b9
          · have HR := Lib.hid (HRF.out.trans (if_pos (of_decide_eq_false HB9.out)))
            go_wp2_with fail
            go_ret2
            exact ⟨⟨none, 0, 0, []⟩, by rw [HR.out]; rfl, by rw [HR.out], ok_nil _, HW.out⟩
          · have HR := Lib.hid (HRF.out.trans (if_neg (fun h => h (of_decide_eq_true HB9.out))))
            go_wp2_with fail
            go_ret2
            exact ⟨⟨A4, l4.length, c4, l4⟩, by rw [HR.out]; rfl, by rw [HR.out], HO5.out, HW.out⟩
    · have hnx1 : (h6.next != 58) = true := by simpa using hnx
      rw [if_pos hnx] at hRF
      have HR := Lib.hid hRF
      clear hRF hnx
      go_enter Tryd.func29, Tryd.ntmps29
      go_wp2_with fail
      refine HP.out.mono ?_
      rintro e w1 ⟨rfl, hb1⟩
      go_wp2_with (first
        | (refine wpList_alloc_blk rfl 58 rfl H6.zero.cells zero6 ?_; intro w2 hb2 hB2 hs2)
        | (refine wpList_store_all rfl 58 _ _ rfl w1.heap.size h6.cells rfl rfl 58 _ hb2 (size6 _ HOK.out) (H6.cells_same _ _ HOK.out H0) (H6.one _) ?_; intro w3 hb3 hg3 hs3; have hB3 : Below w1.heap.size w1 w3 := bgrown hB2 hg3 (by omega) (by omega); have hd3 : w3.cell? ⟨w1.heap.size, 3, none⟩ = some (.int .u8 h6.next) := hb3.cell 3))
      go_ret2
      exact ⟨⟨none, 0, 0, []⟩, by rw [HR.out]; rfl, by rw [HR.out], ok_nil _, bthen hb1 hB3⟩
  · have hne : (er != 0) = true := by simpa using he
    rw [if_pos he] at hRF
    have HR := Lib.hid hRF
    clear hRF he
    go_enter Tryd.func29, Tryd.ntmps29
    go_wp2_with fail
    refine HP.out.mono ?_
    rintro e w1 ⟨rfl, hb1⟩
    go_wp2_with (first
      | (refine wpList_alloc_blk rfl 58 rfl H6.zero.cells zero6 ?_; intro w2 hb2 hB2 hs2)
      | (refine wpList_store_all rfl 58 _ _ rfl w1.heap.size h6.cells rfl rfl 58 _ hb2 (size6 _ HOK.out) (H6.cells_same _ _ HOK.out H0) (H6.one _) ?_; intro w3 hb3 hg3 hs3; have hB3 : Below w1.heap.size w1 w3 := bgrown hB2 hg3 (by omega) (by omega)))
    go_ret2
    exact ⟨⟨none, 0, 0, []⟩, by rw [HR.out]; rfl, by rw [HR.out], ok_nil _, bthen hb1 hB3⟩
end Go.Proofs.YtbcjkjmjljfhpaaDoor

/- What icmp6.Is and slices.Index over the table of types (layer 24) compute. No condition but sizes. -/
namespace Go.Proofs.YtbcjkjmjljfhpaaDoor
open Go.RowKit
set_option linter.unusedVariables false
set_option maxRecDepth 20000
set_option linter.unusedSimpArgs false

def headLow : List UInt8 → Bool
  | [] => false
  | u :: _ => decide (u.toNat < 128)
/-- is a packet one of ICMP that tells an error? -/
def isF6 (l : List UInt8) : Bool := decide ((par6 l).2 = 0) && decide ((par6 l).1.next = 58) && headLow (body6 l)
set_option maxHeartbeats 4000000 in
theorem is24_any (A : Option Addr) (n c : Nat) (l : List UInt8) (w : World) (h : Row w w.heap.size 1 A n (bv l)) (hc : n ≤ c) (hcm : c ≤ maxLen) (hn : n ≤ 1000000) :
    Calls Tryd.prog 14 #[.slice A n c] w fun e w' => e = .returned (.bool (isF6 l)) ∧ Below w.heap.size w w' := by
  have hll : l.length = n := by have := h.1; rw [bv_length] at this; omega
  have P := parse6_any A n c l w h hc hcm (by omega)
  have hok := par6_ok l
  have BD := Lib.hid (fun (w' : World) (hr : Row w' w'.heap.size 1 A n (bv l)) => body6_any A n c l w' hr hc hcm (by omega))
  obtain ⟨S, hS⟩ : ∃ S, body6 l = S := ⟨_, rfl⟩
  have hSn : S.length ≤ n := by rw [← hS, ← hll]; exact body6_le l
  obtain ⟨R, hR⟩ : ∃ R, isF6 l = R := ⟨_, rfl⟩
  rw [hR]
  have hRF : R = (decide ((par6 l).2 = 0) && decide ((par6 l).1.next = 58) && headLow S) := by rw [← hR]; unfold isF6; rw [hS]
  rw [hS] at BD
  clear hR hS
  cases hp : par6 l with
  | mk h6 er =>
  rw [hp] at P hok hRF
  simp only at P hok hRF
  have HP := Lib.hid P
  have HOK := Lib.hid hok
  have HH := Lib.hid h
  clear P hok hp h
  have H0 := H6.zero_ok
  by_cases he : er = 0
  · subst he
    by_cases hnx : h6.next = 58
    · have hnx1 : (h6.next != 58) = false := by simp [hnx]
      have hRF2 : R = headLow S := by rw [hRF, hnx]; simp
      have HRF := Lib.hid hRF2
      clear hnx hRF hRF2
      go_enter Tryd.func14, Tryd.ntmps14
      go_wp2_with fail
      refine HP.out.mono ?_
      rintro e w1 ⟨rfl, hb1⟩
      go_upto_region 2 with (first
        | (refine wpList_alloc_blk rfl 58 rfl H6.zero.cells zero6 ?_; intro w2 hb2 hB2 hs2)
        | (refine wpList_store_all rfl 58 _ _ rfl w1.heap.size h6.cells rfl rfl 58 _ hb2 (size6 _ HOK.out) (H6.cells_same _ _ HOK.out H0) (H6.one _) ?_; intro w3 hb3 hg3 hs3))
      have hB3 : Below w1.heap.size w1 w3 := bgrown hB2 hg3 (by omega) (by omega)
      have HW := Lib.hid (bthen hb1 hB3)
      have hd3 : w3.cell? ⟨w1.heap.size, 3, none⟩ = some (.int .u8 h6.next) := hb3.cell 3
      clear hb2 hB2 hs2 hb3 hg3 hs3 hB3 hb1
      go_wp2_with fail
      refine (BD.out w3 ((HH.out.below HW.out).more HW.out.size)).mono ?_
      rintro e w4 ⟨⟨A4, n4, c4, l4⟩, rfl, hl4, ho4, hb4⟩
      dsimp only at hl4
      subst hl4
      have hn4 : l4.length = n4 := ho4.len
      subst hn4
      have hr4 := ho4.row
      replace HW := Lib.hid (bthen HW.out hb4)
      clear hb4 ho4 hd3
      dsimp only [Bs.v]
      cases l4 with
      | nil =>
        clear hr4
        go_wp2_with fail
        go_ret
        exact ⟨by rw [HRF.out]; rfl, HW.out⟩
      | cons u t4 =>
        obtain ⟨b, o, rfl, hbb, hcell⟩ := hr4.cells (by simp)
        have hc0 : w4.cell? ⟨b, o, none⟩ = some (.int .u8 (u.toNat : Int)) := hcell 0 _ rfl
        have hpos : (0 : Int) < ((t4.length + 1 : Nat) : Int) := by omega
        obtain ⟨y, hy⟩ : ∃ y : Nat, u.toNat = y := ⟨_, rfl⟩
        rw [hy] at hc0
        have HY := Lib.hid hy
        clear hr4 hcell hy
        by_cases hy1 : y < 128
        · have e1 : decide ((y : Int) < 128) = true := by simp; omega
          have hy2 : (y : Int) < 128 := by omega
          go_wp2_with fail
          go_ret
          exact ⟨by rw [HRF.out]; simp only [headLow, HY.out, decide_eq_true hy1]; rfl, HW.out⟩
        · have e1 : decide ((y : Int) < 128) = false := by simp; omega
          have hy2 : ¬ (y : Int) < 128 := by omega
          go_wp2_with fail
          go_ret
          exact ⟨by rw [HRF.out]; simp only [headLow, HY.out, decide_eq_false hy1]; rfl, HW.out⟩
    · have hnx1 : (h6.next != 58) = true := by simpa using hnx
      have HRF := Lib.hid (show R = false by rw [hRF, decide_eq_false hnx]; simp)
      clear hRF hnx
      go_enter Tryd.func14, Tryd.ntmps14
      go_wp2_with fail
      refine HP.out.mono ?_
      rintro e w1 ⟨rfl, hb1⟩
      go_wp2_with (first
        | (refine wpList_alloc_blk rfl 58 rfl H6.zero.cells zero6 ?_; intro w2 hb2 hB2 hs2)
        | (refine wpList_store_all rfl 58 _ _ rfl w1.heap.size h6.cells rfl rfl 58 _ hb2 (size6 _ HOK.out) (H6.cells_same _ _ HOK.out H0) (H6.one _) ?_; intro w3 hb3 hg3 hs3; have hB3 : Below w1.heap.size w1 w3 := bgrown hB2 hg3 (by omega) (by omega); have hd3 : w3.cell? ⟨w1.heap.size, 3, none⟩ = some (.int .u8 h6.next) := hb3.cell 3))
      go_ret
      exact ⟨by rw [HRF.out]; rfl, bthen hb1 hB3⟩
  · have hne : (er != 0) = true := by simpa using he
    have HRF := Lib.hid (show R = false by rw [hRF, decide_eq_false he]; simp)
    clear hRF he
    go_enter Tryd.func14, Tryd.ntmps14
    go_wp2_with fail
    refine HP.out.mono ?_
    rintro e w1 ⟨rfl, hb1⟩
    go_wp2_with (first
      | (refine wpList_alloc_blk rfl 58 rfl H6.zero.cells zero6 ?_; intro w2 hb2 hB2 hs2)
      | (refine wpList_store_all rfl 58 _ _ rfl w1.heap.size h6.cells rfl rfl 58 _ hb2 (size6 _ HOK.out) (H6.cells_same _ _ HOK.out H0) (H6.one _) ?_; intro w3 hb3 hg3 hs3; have hB3 : Below w1.heap.size w1 w3 := bgrown hB2 hg3 (by omega) (by omega)))
    go_ret
    exact ⟨by rw [HRF.out]; rfl, bthen hb1 hB3⟩

/-- a type's kind -/
def kindF (u : Nat) : Int := if u = 3 then 0 else if u = 2 then 1 else if u = 1 then 2 else -1
set_option maxHeartbeats 4000000 in
theorem index3_any (g : Nat) (u : Nat) (w : World) (hu : u ≤ 255) (h0 : w.cell? ⟨g, 0, none⟩ = some (.int .u8 3)) (h1 : w.cell? ⟨g, 1, none⟩ = some (.int .u8 2)) (h2 : w.cell? ⟨g, 2, none⟩ = some (.int .u8 1)) :
    Calls Tryd.prog 31 #[.slice (some ⟨g, 0, none⟩) 3 3, .int .u8 (u : Int)] w fun e w' => e = .returned (.int .i64 (kindF u)) ∧ Below w.heap.size w w' := by
  go_enter Tryd.func31, Tryd.ntmps31
  go_wp2_with fail
  go_loop [8] (fun i => ∃ k : Nat, k ≤ 3 ∧ i = .int .i64 (k : Nat) ∧ (1 ≤ k → u ≠ 3) ∧ (2 ≤ k → u ≠ 2) ∧ (3 ≤ k → u ≠ 1)) (fun i => 3 - (intOf i).toNat)
  case atStart => exact ⟨0, by omega, rfl, by omega, by omega, by omega⟩
  case round =>
    obtain ⟨k, hk, rfl, k1, k2, k3⟩ := hrel
    have hcase : k = 0 ∨ k = 1 ∨ k = 2 ∨ k = 3 := by omega
    have HK1 := Lib.hid k1
    have HK2 := Lib.hid k2
    have HK3 := Lib.hid k3
    clear k1 k2 k3
    rcases hcase with rfl | rfl | rfl | rfl
    · by_cases hu3 : u = 3
      · subst hu3
        go_wp2_with fail
        go_ret
        exact ⟨rfl, Below.refl _ _⟩
      · have e3 : ((u : Int) == 3) = false := by simp; omega
        go_wp2_with fail
        go_round
        case rel => exact ⟨1, by omega, rfl, fun _ => hu3, by omega, by omega⟩
        case measure => simp [intOf]
    · by_cases hu2 : u = 2
      · subst hu2
        go_wp2_with fail
        go_ret
        exact ⟨rfl, Below.refl _ _⟩
      · have e3 : ((u : Int) == 2) = false := by simp; omega
        go_wp2_with fail
        go_round
        case rel => exact ⟨2, by omega, rfl, fun _ => HK1.out (by omega), fun _ => hu2, by omega⟩
        case measure => simp [intOf]
    · by_cases hu1 : u = 1
      · subst hu1
        go_wp2_with fail
        go_ret
        exact ⟨rfl, Below.refl _ _⟩
      · have e3 : ((u : Int) == 1) = false := by simp; omega
        go_wp2_with fail
        go_round
        case rel => exact ⟨3, by omega, rfl, fun _ => HK1.out (by omega), fun _ => HK2.out (by omega), fun _ => hu1⟩
        case measure => simp [intOf]
    · have hne3 := HK1.out (by omega)
      have hne2 := HK2.out (by omega)
      have hne1 := HK3.out (by omega)
      have HKF := Lib.hid (show kindF u = -1 by unfold kindF; rw [if_neg hne3, if_neg hne2, if_neg hne1])
      clear hne1 hne2 hne3
      go_wp2_with fail
      go_ret
      exact ⟨by rw [HKF.out]; rfl, Below.refl _ _⟩
end Go.Proofs.YtbcjkjmjljfhpaaDoor

/- What icmp6.Get (layer 24) computes. No condition but sizes, and what the package's table holds. -/
namespace Go.Proofs.YtbcjkjmjljfhpaaDoor
open Go.RowKit
set_option linter.unusedVariables false
set_option maxRecDepth 20000
set_option linter.unusedSimpArgs false

abbrev Got := Int × Int × List UInt8 × List Ent
def noGot : Got := (0, 0, [], [])
def fullB (k : Int) (four : Nat) : Bool := decide (k ≠ 1) && decide (four = 268435456)
def badK (k : Int) (four : Nat) : Bool := decide (k < 0) || (decide (k = 1) && decide (65535 < four)) || (decide (k ≠ 1) && !fullB k four && decide (four ≠ 0))
/-- what a body tells -/
def gotF (S : List UInt8) (k : Int) (four : Nat) : Got × Int :=
  if badK k four || decide ((S.getD 1 0).toNat ≠ 0) then (noGot, 15) else
  if fullB k four then (if S.length < 136 then (noGot, 15) else if (toldG (S.drop 136)).2 ≠ 0 then (noGot, (toldG (S.drop 136)).2) else ((k, 0, (S.drop 8).take 128, (toldG (S.drop 136)).1), 0))
  else if 1240 < S.length then (noGot, 15) else ((k, (four : Int), S.drop 8, []), 0)
def getF6 (l : List UInt8) : Got × Int :=
  if (readF l).2 ≠ 0 then (noGot, (readF l).2) else gotF (readF l).1 (kindF ((readF l).1.getD 0 0).toNat) (numF (readF l).1 4 4)
theorem readF_len (l : List UInt8) (h : (readF l).2 = 0) : 8 ≤ (readF l).1.length ∧ (readF l).1.length ≤ l.length := by
  have hb := body6_le l
  unfold readF at h ⊢
  split at h
  · rename_i h1; exact absurd h h1
  · split at h
    · cases h
    · split at h
      · cases h
      · split at h
        · cases h
        · rename_i h1 h2 h3 h4
          rw [if_neg h1, if_neg h2, if_neg h3, if_neg h4]
          show 8 ≤ (body6 l).length ∧ (body6 l).length ≤ l.length
          exact ⟨by omega, hb⟩
theorem kindF_bd (u : Nat) : -1 ≤ kindF u ∧ kindF u ≤ 2 := by
  unfold kindF
  split
  · omega
  · split
    · omega
    · split <;> omega
theorem outs_fit (l : List UInt8) (n : Nat) : ∀ x ∈ outs l n, x.fit := by
  intro x hx
  obtain ⟨k, _, rfl⟩ := List.mem_map.1 hx
  unfold entAt unpE
  split
  · exact ⟨by decide, by decide, by decide, by decide, by decide, by decide⟩
  · rename_i h
    have hb := be_bd ((l.drop (4 * k)).take 4) 4 (by rw [List.length_take]; omega)
    exact ⟨by simp only; omega, by simp only; omega, by simp only; omega, by simp only; omega, by simp only; omega, by simp only; omega⟩
theorem told_fit (l : List UInt8) : ∀ x ∈ (toldG l).1, x.fit := by
  unfold toldG
  split
  · simp
  · split
    · simp
    · split
      · simp
      · exact outs_fit _ _
def Mp.got (m : Mp) : Got := (m.kind, m.mtu, m.beg, m.st)
def Mp.zero : Mp := ⟨0, 0, none, 0, 0, [], none, 0, 0, []⟩
theorem Mp.zero_ok (w : World) : Mp.zero.ok w := ⟨by decide, by decide, Row.nil _ _ _ _, Nat.le_refl _, Nat.zero_le _, Row.nil _ _ _ _, Nat.le_refl _, Nat.zero_le _, by simp [Mp.zero]⟩
theorem build_zero (w : World) : (Instr.build 25 #[]).run Tryd.prog w = .ok (.agg Mp.zero.cells.toArray) w := by kernel_rfl

set_option maxHeartbeats 4000000 in
theorem get24_no (A : Option Addr) (n c : Nat) (l : List UInt8) (w : World) (h : Row w w.heap.size 1 A n (bv l)) (hc : n ≤ c) (hcm : c ≤ maxLen) (hn : n ≤ 1000000) (he : (readF l).2 ≠ 0) :
    Calls Tryd.prog 11 #[.slice A n c] w fun e w' => e = .returned (.tuple #[.agg Mp.zero.cells.toArray, .int .i64 (readF l).2]) ∧ Below w.heap.size w w' := by
  have RD := Lib.hid (fun (w' : World) (hr : Row w' w'.heap.size 1 A n (bv l)) => read24_any A n c l w' hr hc hcm hn)
  obtain ⟨er, her⟩ : ∃ er, (readF l).2 = er := ⟨_, rfl⟩
  rw [her] at RD he ⊢
  have hne : (er != 0) = true := by simpa using he
  have HH := Lib.hid h
  clear h her he
  obtain ⟨g0, hg0⟩ : ∃ g, w.heap.size = g := ⟨_, rfl⟩
  go_enter Tryd.func11, Tryd.ntmps11
  go_upto_region 1 with (refine wpList_alloc_blk (by rfl) 25 rfl Mp.zero.cells zeroMp ?_; intro w1 hb1 hB1 hs1)
  rw [hg0] at hb1
  try rw [hg0]
  have HK := Lib.hid hb1
  have HW := Lib.hid hB1
  have HG := Lib.hid hg0
  clear hb1 hB1 hs1 hg0
  go_wp2_with fail
  refine (RD.out w1 ((HH.out.below HW.out).more HW.out.size)).mono ?_
  rintro e w2 ⟨r, rfl, hl2, ho2, hb2⟩
  replace HW := Lib.hid (bthen HW.out hb2)
  replace HK := Lib.hid (HK.out.on hb2)
  have hk := HK.out
  clear hl2 ho2 hb2
  go_wp2_with (refine wpList_store_all (by rfl) 25 _ _ rfl g0 Mp.zero.cells rfl rfl 25 _ hk (sizeMp _) rfl (oneMp _) ?_; intro w3 hb3 hg3 hs3)
  have hB3 : Below w.heap.size w w3 := bgrown HW.out hg3 HW.out.size (by have := HG.out; omega)
  refine bodyPost_ret (results_cell2 rfl _ _ g0 _ _ _ rfl hb3 Tryd.underlying25 rfl (sizeMp Mp.zero)) rfl ⟨rfl, hB3⟩
end Go.Proofs.YtbcjkjmjljfhpaaDoor


/- What the program's and the reference's Body and Ttl of IPv4 compute. No condition but sizes. -/
import Derived.Test.YtehidnfkogfaoaaRip4
import Derived.Test.YtehidnfkogfaoaaCopy
import Derived.Test.YtehidnfkogfaoaaRel3
namespace Go.Proofs.Ytehidnfkogfaoaa
open Go.RowKit
set_option linter.unusedVariables false
set_option linter.unusedSimpArgs false

/-- what stands behind the header -/
def body4 (l : List UInt8) : List UInt8 := if (par4 l).2 = 0 then (l.take (par4 l).1.len.toNat).drop (20 + (par4 l).1.opt.length) else []
theorem par4_fit (l : List UInt8) (h4 : H4) (hp : par4 l = (h4, 0)) : ∃ L S : Nat, h4.len = (L : Nat) ∧ 20 + h4.opt.length = S ∧ S ≤ L ∧ L ≤ l.length ∧ 20 ≤ l.length ∧ S ≤ 60 ∧ numF l 2 2 = L := by
  unfold par4 at hp
  split at hp
  · injection hp with _ h; cases h
  split at hp
  · injection hp with _ h; cases h
  split at hp
  · injection hp with _ h; cases h
  split at hp
  · injection hp with _ h; cases h
  rename_i h1 h2 h3 h5
  injection hp with h _
  subst h
  refine ⟨numF l 2 2, 20 + ((l.take (size4n l)).drop 20).length, rfl, rfl, ?_, ?_, ?_, ?_, rfl⟩
  all_goals try simp only [List.length_drop, List.length_take]
  · omega
  · omega
  · omega
  · have : size4n l ≤ 60 := by unfold size4n; omega
    omega
theorem addr_add (b o k : Nat) : Option.map (fun x : Addr => x.add k) (some ⟨b, o, none⟩) = some ⟨b, o + k, none⟩ := by
  show some (Addr.add ⟨b, o, none⟩ k) = _
  unfold Addr.add
  split
  · rename_i h0; rw [h0]; rfl
  · rfl

set_option maxHeartbeats 4000000 in
theorem body4_any (A : Option Addr) (n c : Nat) (l : List UInt8) (w : World) (h : Row w w.heap.size 1 A n (bv l)) (hc : n ≤ c) (hcm : c ≤ maxLen) (hn : n ≤ 1099511627776) :
    Calls Try.prog 12 #[.slice A n c] w fun e w' => ∃ r : Bs, e = .returned r.v ∧ r.l = body4 l ∧ r.ok w' ∧ Below w.heap.size w w' := by
  have hll : l.length = n := by have := h.1; rw [bv_length] at this; omega
  have P := parse4_any A n c l w h hc hcm hn
  have hok := par4_ok l
  unfold body4
  cases hp : par4 l with
  | mk h4 er =>
  rw [hp] at P hok
  simp only at P hok ⊢
  have HP := Lib.hid P
  have HOK := Lib.hid hok
  have HPP := Lib.hid hp
  have HH := Lib.hid h
  have HLL := Lib.hid hll
  clear P hok hp h hll
  by_cases he : er = 0
  · subst he
    obtain ⟨L, S, hLen, hS, f1, f2, f3, f4, _⟩ := par4_fit l h4 HPP.out
    have f2' : L ≤ n := by rw [← HLL.out]; exact f2
    have f3' : 20 ≤ n := by rw [← HLL.out]; exact f3
    obtain ⟨b, o, rfl, hbB, _⟩ := HH.out.2 (by omega)
    rw [hLen, if_pos rfl, hS, Int.toNat_natCast]
    have HLen := Lib.hid hLen
    clear hLen
    have HSL : Hid (∀ W : World, Below w.heap.size w W → ∀ A cc, L - S ≤ cc → cc ≤ maxLen → (A = some ⟨b, o + S, none⟩ ∨ L = S) → (Bs.mk A (L - S) cc ((l.take L).drop S)).ok W) := Lib.hid fun W hW A cc h1 h2 h3 => by
      rcases h3 with rfl | h3
      · have hr := ((HH.out.below hW).more hW.size).sub1 (i := S) (k := L - S) (by omega)
        rw [← bv_drop, ← bv_take, addr_add] at hr
        refine ⟨?_, h1, h2⟩
        rw [List.drop_take]
        exact hr
      · refine ⟨?_, h1, h2⟩
        have e : (l.take L).drop S = [] := List.drop_of_length_le (by rw [List.length_take]; omega)
        show Row W W.heap.size 1 A (L - S) (bv ((l.take L).drop S))
        rw [e, show L - S = 0 by omega]
        exact Row.nil _ _ _ _
    have HCS : Hid (¬ c = S ∨ c = S ∧ L = S) := Lib.hid (by omega)
    have kSL : (S : Int) ≤ (L : Int) := by omega
    have kLc : (L : Int) ≤ (c : Int) := by omega
    go_enter Try.func12, Try.ntmps12
    go_wp2_with fail
    refine HP.out.mono ?_
    rintro e w1 ⟨rfl, hb1⟩
    go_wp2_with (first
    | (refine wpList_alloc_blk rfl 27 rfl H4.zero.cells zero4 ?_; intro w2 hbw2 hBw2 hsw2)
    | (refine wpList_store_all rfl 27 _ _ rfl w1.heap.size h4.cells rfl rfl 27 _ hbw2 (size4 _ HOK.out) (H4.cells_same _ _ HOK.out H4.zero_ok) (H4.one _) ?_; intro w3 hbw3 hgw3 hsw3; have hBw3 : Below w1.heap.size w1 w3 := bgrown hBw2 hgw3 (by omega) (by omega)))
    have hB3 := bthen hb1 hBw3
    refine wp_region_rel (fun A B => A.grownBy B none) (fun A => grown_refl A _) (fun A B C h k => grown_trans h k) (relAt (List.cons (fun v _ => v = .slice (some ⟨b, o, none⟩) n c) (List.cons (fun v _ => v = .agg h4.cells.toArray) (List.cons (fun v _ => v = .int .i64 (S : Int)) (List.cons (fun v _ => v = .pointer (some ⟨w1.heap.size, 1, none⟩)) (List.cons (fun v _ => v = .int .i64 (L : Int)) (List.cons (fun v _ => ∃ A' cc, v = .slice A' (L - S) cc ∧ ∀ W' : World, Below w.heap.size w W' → (Bs.mk A' (L - S) cc ((l.take L).drop S)).ok W') (List.cons (BsR ((l.take L).drop S)) (List.cons (BsR ((l.take L).drop S)) ([])))))))))) (MonoL.at_ (.cons (mono_val _) (.cons (mono_val _) (.cons (mono_val _) (.cons (mono_val _) (.cons (mono_val _) (.cons (fun _ _ _ h _ => h) (.cons (mono_bs _) (.cons (mono_bs _) .nil))))))))) (by kernel_rfl) (by kernel_rfl) ⟨?_, ?_, ?_, ?_, ?_, ?_, ?_, ?_, trivial⟩ ?_
    · intro a vs W hX hR he hf K hK
      rw [if_pos (wanted_none rfl)]
      have e0 : a.eval (.tmp 0) = .slice (some ⟨b, o, none⟩) n c := hf 0 (by kernel_rfl)
      refine wp_value (v := .slice (some ⟨b, o, none⟩) n c) ?_ (hK _ _ rfl (grown_refl W _))
      simp only [execOp, e0]
      try go_simp
      try (first | rfl | omega | (simp only [IntKind.wrap_i64, IntKind.wrap_u8, IntKind.wrap_u64, IntKind.wrap_u16, IntKind.wrap_u32]; omega) | (rw [Int.tmod_eq_emod_of_nonneg (by omega)]) | (rw [Int.tmod_eq_emod_of_nonneg (by omega)]; omega))
    · intro a vs W hX hR he hf K hK
      rw [if_pos (wanted_none rfl)]
      have e3 : a.eval (.tmp 3) = .pointer (some ⟨w1.heap.size, 0, none⟩) := hf 3 (by kernel_rfl)
      have hbW := bthen (below_drew _) (grow_below hX)
      exact wp_value (exec_load 27 _ rfl w1.heap.size e3 27 h4.cells _ (hbw3.on hbW) Try.underlying27 rfl (size4 _ HOK.out)) (hK _ _ rfl (grown_refl W _))
    · intro a vs W hX hR he hf K hK
      rw [if_pos (wanted_none rfl)]
      have e13 : a.eval (.tmp 13) = .agg h4.cells.toArray := (he 1 13 (by kernel_rfl) rfl).trans (hR 1 (by kernel_rfl))
      refine wp_enter (f := 16) (args := #[.agg h4.cells.toArray]) (by simp only [execOp, e13]; go_simp; simpa [Act.eval] using e13) ((size4_any h4 HOK.out W (by omega)).mono ?_)
      rintro e w' ⟨rfl, hb⟩
      rw [show (20 + (h4.opt.length : Int)) = (S : Int) by omega]
      exact ⟨_, rfl, hK _ _ rfl (below_grow hb _)⟩
    · intro a vs W hX hR he hf K hK
      rw [if_pos (wanted_none rfl)]
      have e3 : a.eval (.tmp 3) = .pointer (some ⟨w1.heap.size, 0, none⟩) := hf 3 (by kernel_rfl)
      refine wp_value (v := .pointer (some ⟨w1.heap.size, 1, none⟩)) ?_ (hK _ _ rfl (grown_refl W _))
      simp only [execOp, e3]
      try go_simp
      try (first | rfl | omega | (simp only [IntKind.wrap_i64, IntKind.wrap_u8, IntKind.wrap_u64, IntKind.wrap_u16, IntKind.wrap_u32]; omega) | (rw [Int.tmod_eq_emod_of_nonneg (by omega)]) | (rw [Int.tmod_eq_emod_of_nonneg (by omega)]; omega))
    · intro a vs W hX hR he hf K hK
      rw [if_pos (wanted_none rfl)]
      have e15 : a.eval (.tmp 15) = .pointer (some ⟨w1.heap.size, 1, none⟩) := (he 3 15 (by kernel_rfl) rfl).trans (hR 3 (by kernel_rfl))
      have hbW := bthen (below_drew _) (grow_below hX)
      have hc : W.cell? ⟨w1.heap.size, 1, none⟩ = some (.int .i64 (L : Int)) := ((hbw3.on hbW).cell 1).trans (congrArg (fun x => some (Value.int .i64 x)) HLen.out)
      refine wp_value (v := _) ?_ (hK _ _ rfl (grown_refl W _))
      simp only [execOp, e15]
      try go_simp
    · intro a vs W hX hR he hf K hK
      rw [if_pos (wanted_none rfl)]
      have e12 : a.eval (.tmp 12) = .slice (some ⟨b, o, none⟩) n c := (he 0 12 (by kernel_rfl) rfl).trans (hR 0 (by kernel_rfl))
      have e14 : a.eval (.tmp 14) = .int .i64 (S : Int) := (he 2 14 (by kernel_rfl) rfl).trans (hR 2 (by kernel_rfl))
      have e16 : a.eval (.tmp 16) = .int .i64 (L : Int) := (he 4 16 (by kernel_rfl) rfl).trans (hR 4 (by kernel_rfl))
      have f12 := e12
      simp only [Act.eval, Array.getD_eq_getD_getElem?] at f12
      have f14 := e14
      simp only [Act.eval, Array.getD_eq_getD_getElem?] at f14
      have f16 := e16
      simp only [Act.eval, Array.getD_eq_getD_getElem?] at f16
      rcases HCS.out with hcS | ⟨hcS, hLS⟩
      · refine wp_value (v := .slice (some ⟨b, o + S, none⟩) (L - S) (c - S)) ?_ (hK _ _ ⟨_, _, rfl, fun W' hW' => HSL.out W' hW' _ _ (by omega) (by omega) (.inl rfl)⟩ (grown_refl W _))
        simp only [execOp, e12]
        go_simp
      · refine wp_value (v := .slice (some ⟨b, o, none⟩) (L - S) 0) ?_ (hK _ _ ⟨_, _, rfl, fun W' hW' => HSL.out W' hW' _ _ (by omega) (by omega) (.inr hLS)⟩ (grown_refl W _))
        subst hcS
        simp only [execOp, e12]
        go_simp
        try rw [if_pos (by omega)]
    · intro a vs W hX hR he hf K hK
      rw [if_pos (wanted_none rfl)]
      have e17 := he 5 17 (by kernel_rfl) rfl
      have p17 := hR 5 (by kernel_rfl)
      change (fun v _ => ∃ A' cc, v = .slice A' (L - S) cc ∧ ∀ W' : World, Below w.heap.size w W' → (Bs.mk A' (L - S) cc ((l.take L).drop S)).ok W') (vs 5) W at p17
      obtain ⟨A', cc, hv, ho⟩ := p17
      rw [hv] at e17
      have hbW := bthen hB3 (bthen (below_drew _) (grow_below hX))
      refine wp_enter (f := 25) (args := #[.slice A' (L - S) cc]) (by simp only [execOp, e17]; go_simp; simpa [Act.eval] using e17) ((clone_bytes A' (L - S) cc _ W (ho W hbW).row (by omega)).mono ?_)
      rintro e w' ⟨A2, c2, rfl, hown, hb⟩
      exact ⟨_, rfl, hK _ _ ⟨A2, _, c2, rfl, hown.ok⟩ (below_grow hb _)⟩
    · intro a vs W hX hR he hf K hK
      rw [if_pos (wanted_none rfl)]
      have e18 := he 6 18 (by kernel_rfl) rfl
      have p18 := hR 6 (by kernel_rfl)
      change (BsR ((l.take L).drop S)) (vs 6) W at p18
      refine wp_value (v := _) ?_ (hK _ _ p18 (grown_refl W _))
      simp only [execOp, e18]
      try go_simp
    · intro vs w4 hX4 hR
      have q0 := hR 0 (by decide)
      have q1 := hR 1 (by decide)
      have q2 := hR 2 (by decide)
      have q3 := hR 3 (by decide)
      have q4 := hR 4 (by decide)
      have q5 := hR 5 (by decide)
      have q6 := hR 6 (by decide)
      have q7 := hR 7 (by decide)
      change vs 0 = .slice (some ⟨b, o, none⟩) n c at q0
      change vs 1 = .agg h4.cells.toArray at q1
      change vs 2 = .int .i64 (S : Int) at q2
      change vs 3 = .pointer (some ⟨w1.heap.size, 1, none⟩) at q3
      change vs 4 = .int .i64 (L : Int) at q4
      change (fun v _ => ∃ A' cc, v = .slice A' (L - S) cc ∧ ∀ W' : World, Below w.heap.size w W' → (Bs.mk A' (L - S) cc ((l.take L).drop S)).ok W') (vs 5) w4 at q5
      change (BsR ((l.take L).drop S)) (vs 6) w4 at q6
      change (BsR ((l.take L).drop S)) (vs 7) w4 at q7
      simp only [putAll, Act.put, List.setIfInBounds_toArray, List.set_cons_zero, List.set_cons_succ, q0, q1, q2, q3, q4]
      clear q0 q1 q2 q3 q4
      clear hR
      obtain ⟨A9, n9, c9, hv9, ho9⟩ := q7
      rw [hv9]
      go_wp2
      go_ret
      exact ⟨⟨A9, n9, c9, _⟩, rfl, rfl, ho9, bthen hB3 (bthen (below_drew _) (grow_below hX4))⟩
  · have hne : (er != 0) = true := by simpa using he
    rw [if_neg he]
    clear he
    go_enter Try.func12, Try.ntmps12
    go_wp2_with fail
    refine HP.out.mono ?_
    rintro e w1 ⟨rfl, hb1⟩
    go_wp2_with (first
    | (refine wpList_alloc_blk rfl 27 rfl H4.zero.cells zero4 ?_; intro w2 hbw2 hBw2 hsw2)
    | (refine wpList_store_all rfl 27 _ _ rfl w1.heap.size h4.cells rfl rfl 27 _ hbw2 (size4 _ HOK.out) (H4.cells_same _ _ HOK.out H4.zero_ok) (H4.one _) ?_; intro w3 hbw3 hgw3 hsw3; have hBw3 : Below w1.heap.size w1 w3 := bgrown hBw2 hgw3 (by omega) (by omega)))
    go_ret
    exact ⟨⟨none, 0, 0, []⟩, rfl, rfl, ok_nil _, bthen hb1 hBw3⟩

set_option maxHeartbeats 4000000 in
theorem rbody4_any (l : List UInt8) (w : World) (hn : l.length ≤ 1099511627776) :
    Calls Try.prog 13 #[str l] w fun e w' => e = .returned (str (body4 l)) ∧ Below w.heap.size w w' := by
  have P := rparse4_any l w hn
  have hok := par4_ok l
  unfold body4
  cases hp : par4 l with
  | mk h4 er =>
  rw [hp] at P hok
  simp only at P hok ⊢
  have HP := Lib.hid P
  have HOK := Lib.hid hok
  have HPP := Lib.hid hp
  clear P hok hp
  by_cases he : er = 0
  · subst he
    obtain ⟨L, S, hLen, hS, f1, f2, f3, f4, _⟩ := par4_fit l h4 HPP.out
    rw [hLen, if_pos rfl, hS, Int.toNat_natCast]
    have HLen := Lib.hid hLen
    clear hLen
    have kSL : (S : Int) ≤ (L : Int) := by omega
    have kLl : (L : Int) ≤ (l.length : Int) := by omega
    go_enter Try.func13, Try.ntmps13
    go_wp2_with fail
    refine HP.out.mono ?_
    rintro e w1 ⟨rfl, hb1⟩
    go_wp2_with (first
    | (refine wpList_alloc_blk rfl 27 rfl H4.zero.cells zero4 ?_; intro w2 hbw2 hBw2 hsw2)
    | (refine wpList_store_all rfl 27 _ _ rfl w1.heap.size h4.cells rfl rfl 27 _ hbw2 (size4 _ HOK.out) (H4.cells_same _ _ HOK.out H4.zero_ok) (H4.one _) ?_; intro w3 hbw3 hgw3 hsw3; have hBw3 : Below w1.heap.size w1 w3 := bgrown hBw2 hgw3 (by omega) (by omega)))
    have hB3 := bthen hb1 hBw3
    refine wp_region_rel (fun A B => A.grownBy B none) (fun A => grown_refl A _) (fun A B C h k => grown_trans h k) (relAt (List.cons (fun v _ => v = str l) (List.cons (fun v _ => v = .agg h4.cells.toArray) (List.cons (fun v _ => v = .int .i64 (S : Int)) (List.cons (fun v _ => v = .pointer (some ⟨w1.heap.size, 1, none⟩)) (List.cons (fun v _ => v = .int .i64 (L : Int)) (List.cons (fun v _ => v = str ((l.take L).drop S)) (List.cons (fun v _ => v = str ((l.take L).drop S)) ([]))))))))) (MonoL.at_ (.cons (mono_val _) (.cons (mono_val _) (.cons (mono_val _) (.cons (mono_val _) (.cons (mono_val _) (.cons (mono_val _) (.cons (mono_val _) .nil)))))))) (by kernel_rfl) (by kernel_rfl) ⟨?_, ?_, ?_, ?_, ?_, ?_, ?_, trivial⟩ ?_
    · intro a vs W hX hR he hf K hK
      rw [if_pos (wanted_none rfl)]
      have e0 : a.eval (.tmp 0) = str l := hf 0 (by kernel_rfl)
      refine wp_value (v := str l) ?_ (hK _ _ rfl (grown_refl W _))
      simp only [execOp, e0]
      try go_simp
      try (first | rfl | omega | (simp only [IntKind.wrap_i64, IntKind.wrap_u8, IntKind.wrap_u64, IntKind.wrap_u16, IntKind.wrap_u32]; omega) | (rw [Int.tmod_eq_emod_of_nonneg (by omega)]) | (rw [Int.tmod_eq_emod_of_nonneg (by omega)]; omega))
    · intro a vs W hX hR he hf K hK
      rw [if_pos (wanted_none rfl)]
      have e3 : a.eval (.tmp 3) = .pointer (some ⟨w1.heap.size, 0, none⟩) := hf 3 (by kernel_rfl)
      have hbW := bthen (below_drew _) (grow_below hX)
      exact wp_value (exec_load 27 _ rfl w1.heap.size e3 27 h4.cells _ (hbw3.on hbW) Try.underlying27 rfl (size4 _ HOK.out)) (hK _ _ rfl (grown_refl W _))
    · intro a vs W hX hR he hf K hK
      rw [if_pos (wanted_none rfl)]
      have e13 : a.eval (.tmp 13) = .agg h4.cells.toArray := (he 1 13 (by kernel_rfl) rfl).trans (hR 1 (by kernel_rfl))
      refine wp_enter (f := 17) (args := #[.agg h4.cells.toArray]) (by simp only [execOp, e13]; go_simp; simpa [Act.eval] using e13) ((rsize4_any h4 HOK.out W (by omega)).mono ?_)
      rintro e w' ⟨rfl, hb⟩
      rw [show (20 + (h4.opt.length : Int)) = (S : Int) by omega]
      exact ⟨_, rfl, hK _ _ rfl (below_grow hb _)⟩
    · intro a vs W hX hR he hf K hK
      rw [if_pos (wanted_none rfl)]
      have e3 : a.eval (.tmp 3) = .pointer (some ⟨w1.heap.size, 0, none⟩) := hf 3 (by kernel_rfl)
      refine wp_value (v := .pointer (some ⟨w1.heap.size, 1, none⟩)) ?_ (hK _ _ rfl (grown_refl W _))
      simp only [execOp, e3]
      try go_simp
      try (first | rfl | omega | (simp only [IntKind.wrap_i64, IntKind.wrap_u8, IntKind.wrap_u64, IntKind.wrap_u16, IntKind.wrap_u32]; omega) | (rw [Int.tmod_eq_emod_of_nonneg (by omega)]) | (rw [Int.tmod_eq_emod_of_nonneg (by omega)]; omega))
    · intro a vs W hX hR he hf K hK
      rw [if_pos (wanted_none rfl)]
      have e15 : a.eval (.tmp 15) = .pointer (some ⟨w1.heap.size, 1, none⟩) := (he 3 15 (by kernel_rfl) rfl).trans (hR 3 (by kernel_rfl))
      have hbW := bthen (below_drew _) (grow_below hX)
      have hc : W.cell? ⟨w1.heap.size, 1, none⟩ = some (.int .i64 (L : Int)) := ((hbw3.on hbW).cell 1).trans (congrArg (fun x => some (Value.int .i64 x)) HLen.out)
      refine wp_value (v := _) ?_ (hK _ _ rfl (grown_refl W _))
      simp only [execOp, e15]
      try go_simp
    · intro a vs W hX hR he hf K hK
      rw [if_pos (wanted_none rfl)]
      have e12 : a.eval (.tmp 12) = str l := (he 0 12 (by kernel_rfl) rfl).trans (hR 0 (by kernel_rfl))
      have e14 : a.eval (.tmp 14) = .int .i64 (S : Int) := (he 2 14 (by kernel_rfl) rfl).trans (hR 2 (by kernel_rfl))
      have e16 : a.eval (.tmp 16) = .int .i64 (L : Int) := (he 4 16 (by kernel_rfl) rfl).trans (hR 4 (by kernel_rfl))
      have f12 := e12
      simp only [Act.eval, Array.getD_eq_getD_getElem?] at f12
      have f14 := e14
      simp only [Act.eval, Array.getD_eq_getD_getElem?] at f14
      have f16 := e16
      simp only [Act.eval, Array.getD_eq_getD_getElem?] at f16
      refine wp_value (v := _) ?_ (hK _ _ rfl (grown_refl W _))
      simp only [execOp, e12]
      go_simp
      rw [str_ex]
    · intro a vs W hX hR he hf K hK
      rw [if_pos (wanted_none rfl)]
      have e17 : a.eval (.tmp 17) = str ((l.take L).drop S) := (he 5 17 (by kernel_rfl) rfl).trans (hR 5 (by kernel_rfl))
      refine wp_value (v := str ((l.take L).drop S)) ?_ (hK _ _ rfl (grown_refl W _))
      simp only [execOp, e17]
      try go_simp
      try (first | rfl | omega | (simp only [IntKind.wrap_i64, IntKind.wrap_u8, IntKind.wrap_u64, IntKind.wrap_u16, IntKind.wrap_u32]; omega) | (rw [Int.tmod_eq_emod_of_nonneg (by omega)]) | (rw [Int.tmod_eq_emod_of_nonneg (by omega)]; omega))
    · intro vs w4 hX4 hR
      have q0 := hR 0 (by decide)
      have q1 := hR 1 (by decide)
      have q2 := hR 2 (by decide)
      have q3 := hR 3 (by decide)
      have q4 := hR 4 (by decide)
      have q5 := hR 5 (by decide)
      have q6 := hR 6 (by decide)
      change vs 0 = str l at q0
      change vs 1 = .agg h4.cells.toArray at q1
      change vs 2 = .int .i64 (S : Int) at q2
      change vs 3 = .pointer (some ⟨w1.heap.size, 1, none⟩) at q3
      change vs 4 = .int .i64 (L : Int) at q4
      change vs 5 = str ((l.take L).drop S) at q5
      change vs 6 = str ((l.take L).drop S) at q6
      simp only [putAll, Act.put, List.setIfInBounds_toArray, List.set_cons_zero, List.set_cons_succ, q0, q1, q2, q3, q4, q5, q6]
      clear q0 q1 q2 q3 q4 q5 q6
      clear hR
      go_wp2
      go_ret
      exact ⟨rfl, bthen hB3 (bthen (below_drew _) (grow_below hX4))⟩
  · have hne : (er != 0) = true := by simpa using he
    rw [if_neg he]
    clear he
    go_enter Try.func13, Try.ntmps13
    go_wp2_with fail
    refine HP.out.mono ?_
    rintro e w1 ⟨rfl, hb1⟩
    go_wp2_with (first
    | (refine wpList_alloc_blk rfl 27 rfl H4.zero.cells zero4 ?_; intro w2 hbw2 hBw2 hsw2)
    | (refine wpList_store_all rfl 27 _ _ rfl w1.heap.size h4.cells rfl rfl 27 _ hbw2 (size4 _ HOK.out) (H4.cells_same _ _ HOK.out H4.zero_ok) (H4.one _) ?_; intro w3 hbw3 hgw3 hsw3; have hBw3 : Below w1.heap.size w1 w3 := bgrown hBw2 hgw3 (by omega) (by omega)))
    go_ret
    exact ⟨rfl, bthen hb1 hBw3⟩

/-- a checksum where a word was another one -/
def turnN (c o n : Nat) : Nat := 65535 - foldN (65535 - c + (65535 - o) + n)
theorem turnN_le (c o n : Nat) : turnN c o n ≤ 65535 := by unfold turnN; omega
theorem turnN_eq (c o n : Nat) (h1 : c ≤ 65535) (h2 : o ≤ 65535) : 65535 - foldN (65535 - (c : Int) + (65535 - (o : Int)) + (n : Int)).toNat = turnN c o n := by
  unfold turnN
  congr 2
  omega
/-- a packet with another time to live, ahead of its checksum -/
def ttlA (l : List UInt8) (t : Int) : List UInt8 := l.take 8 ++ ub t :: l.drop 9
/-- its checksum -/
def ttlC (l : List UInt8) (t : Int) : Nat := turnN (numF l 10 2) (numF l 8 2) (numF (ttlA l t) 8 2)
/-- a packet with another time to live -/
def ttl4 (l : List UInt8) (t : Int) : List UInt8 := if (par4 l).2 = 0 then (ttlA l t).take 10 ++ toBe 2 (ttlC l t) ++ (ttlA l t).drop 12 else []
theorem ttlA_length (l : List UInt8) (t : Int) (h : 20 ≤ l.length) : (ttlA l t).length = l.length := by
  unfold ttlA
  simp only [List.length_append, List.length_take, List.length_cons, List.length_drop]
  omega

theorem row_ints {e : TypeId} (w : World) (cs : Array Value) (xs : List Int) (n g : Nat) (h : cs.toList = xs.map (Value.int .i64)) (hn : xs.length = n) (hg : w.heap.size = g) : Row (w.alloc (.cells cs e)) (w.alloc (.cells cs e)).heap.size 1 (some ⟨g, 0, none⟩) n (xs.map (Value.int .i64)) := by
  subst hg
  have hsz : cs.size = n * 1 := by rw [← Array.length_toList, h]; simp [hn]
  have := Row.new (e := e) w cs hsz
  rw [h] at this
  rw [World.size_alloc]
  exact this
/-- a literal row of ints, of its own block, not older than base -/
def IntsR (base k : Nat) (xs : List Int) (v : Value) (W : World) : Prop := ∃ p, v = .slice (some ⟨p, 0, none⟩) k k ∧ base ≤ p ∧ Row W W.heap.size 1 (some ⟨p, 0, none⟩) k (xs.map (Value.int .i64))
theorem mono_ints (base k : Nat) (xs : List Int) : ∀ v A B, IntsR base k xs v A → World.grownBy A B none → IntsR base k xs v B := fun _ _ _ ⟨p, h, hp, hr⟩ hg => ⟨p, h, hp, (hr.below (grow_below hg)).more hg.size⟩
/-- bytes of the call's own, so many -/
def OwnB (base m : Nat) (l : List UInt8) (v : Value) (W : World) : Prop := ∃ A' c', v = .slice A' m c' ∧ Own W base 5 1 A' m c' (bv l)
theorem mono_ownB (base m : Nat) (l : List UInt8) : ∀ v A B, OwnB base m l v A → World.grownBy A B none → OwnB base m l v B := fun _ _ _ ⟨X, c, h, ho⟩ hg => ⟨X, c, h, ho.below (grow_below hg)⟩

set_option maxHeartbeats 4000000 in
theorem ttl4_any (A : Option Addr) (n c : Nat) (l : List UInt8) (t : Int) (w : World) (h : Row w w.heap.size 1 A n (bv l)) (hc : n ≤ c) (hcm : c ≤ maxLen) (hn : n ≤ 1099511627776) (h0 : 0 ≤ t) (h1 : t ≤ 255) :
    Calls Try.prog 18 #[.slice A n c, .int .u8 t] w fun e w' => ∃ r : Bs, e = .returned (.tuple #[r.v, .int .i64 (par4 l).2]) ∧ r.l = ttl4 l t ∧ Own w' w.heap.size 5 1 r.A r.n r.c (bv r.l) ∧ Below w.heap.size w w' := by
  have hll : l.length = n := by have := h.1; rw [bv_length] at this; omega
  have P := parse4_any A n c l w h hc hcm hn
  have hok := par4_ok l
  unfold ttl4
  cases hp : par4 l with
  | mk h4 er =>
  rw [hp] at P hok
  simp only at P hok ⊢
  have HP := Lib.hid P
  have HOK := Lib.hid hok
  have HPP := Lib.hid hp
  have HH := Lib.hid h
  have HLL := Lib.hid hll
  clear P hok hp h hll
  by_cases he : er = 0
  · subst he
    obtain ⟨L, S, hLen, hS, f1, f2, f3, f4, _⟩ := par4_fit l h4 HPP.out
    have f3' : 20 ≤ n := by rw [← HLL.out]; exact f3
    rw [if_pos rfl]
    obtain ⟨C, hC⟩ : ∃ C, numF l 10 2 = C := ⟨_, rfl⟩
    obtain ⟨O, hO⟩ : ∃ O, numF l 8 2 = O := ⟨_, rfl⟩
    obtain ⟨L2, hL2⟩ : ∃ L2, L2 = ttlA l t := ⟨_, rfl⟩
    obtain ⟨N, hN⟩ : ∃ N, numF L2 8 2 = N := ⟨_, rfl⟩
    obtain ⟨T, hT⟩ : ∃ T, T = ttlC l t := ⟨_, rfl⟩
    have hTN : T = turnN C O N := by rw [hT, ttlC, hC, hO, ← hL2, hN]
    have bC : C < 256 ^ 2 := by rw [← hC]; exact numF_bd _ _ _
    have bO : O < 256 ^ 2 := by rw [← hO]; exact numF_bd _ _ _
    have bN : N < 256 ^ 2 := by rw [← hN]; exact numF_bd _ _ _
    have bT : T ≤ 65535 := by rw [hTN]; exact turnN_le _ _ _
    have HTE := Lib.hid ((turnN_eq C O N (by omega) (by omega)).trans hTN.symm)
    have HL2 : Hid (L2.length = n) := Lib.hid (by rw [hL2, ttlA_length l t f3]; exact HLL.out)
    have HSB : Hid ((bv l).set 8 (.int .u8 t) = bv L2) := Lib.hid (by rw [hL2]; exact set_bv l 8 t h0 h1 (by omega))
    have HC := Lib.hid hC
    have HO := Lib.hid hO
    have HN := Lib.hid hN
    rw [← hT, ← hL2]
    have i8 : (8 : Int) < n := by omega
    clear hC hO hN hT hL2 hTN hLen hS
    go_enter Try.func18, Try.ntmps18
    go_wp2_with fail
    refine HP.out.mono ?_
    rintro e w1 ⟨rfl, hb1⟩
    go_wp2_with (first
    | (refine wpList_alloc_blk rfl 27 rfl H4.zero.cells zero4 ?_; intro w2 hbw2 hBw2 hsw2)
    | (refine wpList_store_all rfl 27 _ _ rfl w1.heap.size h4.cells rfl rfl 27 _ hbw2 (size4 _ HOK.out) (H4.cells_same _ _ HOK.out H4.zero_ok) (H4.one _) ?_; intro w3 hbw3 hgw3 hsw3; have hBw3 : Below w1.heap.size w1 w3 := bgrown hBw2 hgw3 (by omega) (by omega)))
    have hB3 := bthen hb1 hBw3
    refine (clone_bytes A n c l w3 ((HH.out.below hB3).more hB3.size) hn).mono ?_
    rintro e w4 ⟨A', c', rfl, hown, hb4⟩
    obtain ⟨g, rfl, hg1, hg2, hcl, hfr⟩ := hown.open_ (by omega)
    obtain ⟨u, hu⟩ := get_ex l (k := 8) (by omega)
    have hcu := hcl 8 _ (bv_get l 8 u hu)
    have hfu := hfr 8
    have hB4 := bthen hB3 hb4
    have hown2 := (hown.set (j := 8) (by omega) (.int .u8 t)).mono hB3.size
    have hgw : w.heap.size ≤ g := by have := hB3.size; omega
    have hB5 := hB4.setCell (p := ⟨g, 8, none⟩) hgw (.int .u8 t)
    rw [HSB.out] at hown2
    have HO5 := Lib.hid hown2
    have HB5 := Lib.hid hB5
    clear hown hown2 hcl hfr hu hB5 hB4 hB3 hb4 hBw3 hBw2 hsw2 hsw3 hgw3 hbw2 hbw3 hb1
    go_wp2_with fail
    obtain ⟨w5, hw5⟩ : ∃ w5, w5 = w4.setCell ⟨g, 8, none⟩ (.int .u8 t) := ⟨_, rfl⟩
    rw [← hw5] at HO5 HB5
    rw [← hw5]
    clear hw5 hcu hfu
    refine (num4_any 10 A n c l w5 ((HH.out.below HB5.out).more HB5.out.size) hc hcm hn (by omega)).mono ?_
    rintro e w6 ⟨rfl, hb6⟩
    rw [HC.out]
    have HB6 := Lib.hid (bthen HB5.out hb6)
    have HO6 := Lib.hid (HO5.out.below hb6)
    clear hb6
    go_wp2_with fail
    refine (num4_any 8 A n c l w6 ((HH.out.below HB6.out).more HB6.out.size) hc hcm hn (by omega)).mono ?_
    rintro e w7 ⟨rfl, hb7⟩
    rw [HO.out]
    have HB7 := Lib.hid (bthen HB6.out hb7)
    have HO7 := Lib.hid (HO6.out.below hb7)
    clear hb7
    go_wp2_with fail
    refine (num4_any 8 (some ⟨g, 0, none⟩) n c' L2 w7 HO7.out.row HO7.out.le HO7.out.cap hn (by omega)).mono ?_
    rintro e w8 ⟨rfl, hb8⟩
    rw [HN.out]
    have HB8 := Lib.hid (bthen HB7.out hb8)
    have HO8 := Lib.hid (HO7.out.below hb8)
    clear hb8
    have wc : IntKind.u16.wrap (C : Int) = (C : Int) := by rw [IntKind.wrap_u16]; omega
    have wo : IntKind.u16.wrap (O : Int) = (O : Int) := by rw [IntKind.wrap_u16]; omega
    have wn : IntKind.u16.wrap (N : Int) = (N : Int) := by rw [IntKind.wrap_u16]; omega
    go_wp2_with fail
    refine (turn_any C O N _ (by omega) (by omega) (by omega) (by omega) (by omega) (by omega)).mono ?_
    rintro e w9 ⟨rfl, rfl⟩
    rw [HTE.out]
    obtain ⟨w9, rfl⟩ : ∃ w9, w9 = w8 := ⟨_, rfl⟩
    have hc' := HO8.out.le
    clear wc wo wn
    have kc : ¬ c' = 10 := by omega
    have kc2 : (10 : Int) ≤ (n : Int) := by omega
    have kc3 : (n : Int) ≤ (c' : Int) := by omega
    go_wp2_with fail
    refine wp_region_last 6 (fun A B => A.grownBy B none) (fun A => grown_refl A _) (fun A B C h k => grown_trans h k) (relAt (List.cons (fun v _ => v = .slice (some ⟨g, 0, none⟩) n c') (List.cons (fun v _ => v = .slice (some ⟨g, 10, none⟩) (n - 10) (c' - 10)) (List.cons (fun v _ => v = .int .u16 (T : Int)) (List.cons (fun v _ => v = .int .i64 (T : Int)) (List.cons (IntsR w9.heap.size 1 [(T : Int)]) (List.cons (OwnB w9.heap.size 2 (toBe 2 T)) ([])))))))) (MonoL.at_ (.cons (mono_val _) (.cons (mono_val _) (.cons (mono_val _) (.cons (mono_val _) (.cons (mono_ints _ _ _) (.cons (mono_ownB _ _ _) .nil))))))) (by kernel_rfl) (by kernel_rfl) rfl (by kernel_rfl) _ rfl rfl ⟨?_, ?_, ?_, ?_, ?_, ?_, trivial⟩ ?_
    · intro a vs W hX hR he hf K hK
      rw [if_pos (wanted_none rfl)]
      have e8 : a.eval (.tmp 8) = .slice (some ⟨g, 0, none⟩) n c' := hf 8 (by kernel_rfl)
      refine wp_value (v := .slice (some ⟨g, 0, none⟩) n c') ?_ (hK _ _ rfl (grown_refl W _))
      simp only [execOp, e8]
      try go_simp
      try (first | rfl | omega | (simp only [IntKind.wrap_i64, IntKind.wrap_u8, IntKind.wrap_u64, IntKind.wrap_u16, IntKind.wrap_u32]; omega) | (rw [Int.tmod_eq_emod_of_nonneg (by omega)]) | (rw [Int.tmod_eq_emod_of_nonneg (by omega)]; omega))
    · intro a vs W hX hR he hf K hK
      rw [if_pos (wanted_none rfl)]
      have e33 : a.eval (.tmp 33) = .slice (some ⟨g, 0, none⟩) n c' := (he 0 33 (by kernel_rfl) rfl).trans (hR 0 (by kernel_rfl))
      have f33 := e33
      simp only [Act.eval, Array.getD_eq_getD_getElem?] at f33
      refine wp_value (v := _) ?_ (hK _ _ rfl (grown_refl W _))
      simp only [execOp, e33]
      go_simp
    · intro a vs W hX hR he hf K hK
      rw [if_pos (wanted_none rfl)]
      have e9 : a.eval (.tmp 9) = .int .u16 (T : Int) := hf 9 (by kernel_rfl)
      refine wp_value (v := .int .u16 (T : Int)) ?_ (hK _ _ rfl (grown_refl W _))
      simp only [execOp, e9]
      try go_simp
      try (first | rfl | omega | (simp only [IntKind.wrap_i64, IntKind.wrap_u8, IntKind.wrap_u64, IntKind.wrap_u16, IntKind.wrap_u32]; omega) | (rw [Int.tmod_eq_emod_of_nonneg (by omega)]) | (rw [Int.tmod_eq_emod_of_nonneg (by omega)]; omega))
    · intro a vs W hX hR he hf K hK
      rw [if_pos (wanted_none rfl)]
      have e35 : a.eval (.tmp 35) = .int .u16 (T : Int) := (he 2 35 (by kernel_rfl) rfl).trans (hR 2 (by kernel_rfl))
      refine wp_value (v := .int .i64 (T : Int)) ?_ (hK _ _ rfl (grown_refl W _))
      simp only [execOp, e35]
      try go_simp
      try (first | rfl | omega | (simp only [IntKind.wrap_i64, IntKind.wrap_u8, IntKind.wrap_u64, IntKind.wrap_u16, IntKind.wrap_u32]; omega) | (rw [Int.tmod_eq_emod_of_nonneg (by omega)]) | (rw [Int.tmod_eq_emod_of_nonneg (by omega)]; omega))
    · intro a vs W hX hR he hf K hK
      rw [if_pos (wanted_none rfl)]
      have e36 : a.eval (.tmp 36) = .int .i64 (T : Int) := (he 3 36 (by kernel_rfl) rfl).trans (hR 3 (by kernel_rfl))
      have f36 := e36
      simp only [Act.eval, Array.getD_eq_getD_getElem?] at f36
      refine wp_value (v := .slice (some ⟨W.heap.size, 0, none⟩) 1 1) (w' := W.alloc (.cells #[.int .i64 (T : Int)] 3)) ?_ (hK _ _ ⟨_, rfl, by have := (grow_below hX).size; exact this, row_ints W _ [(T : Int)] 1 _ rfl rfl rfl⟩ (World.grownBy_alloc _ _ _))
      simp only [execOp]
      go_simp
    · intro a vs W hX hR he hf K hK
      rw [if_pos (wanted_none rfl)]
      have e37 := he 4 37 (by kernel_rfl) rfl
      have p37 := hR 4 (by kernel_rfl)
      change (IntsR w9.heap.size 1 [(T : Int)]) (vs 4) W at p37
      obtain ⟨p, hv, hp, hr⟩ := p37
      rw [hv] at e37
      refine wp_enter (f := 26) (args := #[.slice (some ⟨p, 0, none⟩) 1 1]) (by simp only [execOp, e37]; go_simp; simpa [Act.eval] using e37) ((puts4_any _ 1 1 [(T : Int)] W hr (by simp; omega) (by omega)).mono ?_)
      rintro e w' ⟨A2, n2, c2, rfl, rfl, hown, hb⟩
      rw [show twos [(T : Int)] = toBe 2 T by simp [twos]] at hown
      exact ⟨_, rfl, hK _ _ ⟨A2, c2, rfl, hown.mono (by have := (grow_below hX).size; exact this)⟩ (below_grow hb _)⟩
    · intro vs w10 hX10 hR
      have q0 := hR 0 (by decide)
      have q1 := hR 1 (by decide)
      have q2 := hR 2 (by decide)
      have q3 := hR 3 (by decide)
      have q4 := hR 4 (by decide)
      have q5 := hR 5 (by decide)
      change vs 0 = .slice (some ⟨g, 0, none⟩) n c' at q0
      change vs 1 = .slice (some ⟨g, 10, none⟩) (n - 10) (c' - 10) at q1
      change vs 2 = .int .u16 (T : Int) at q2
      change vs 3 = .int .i64 (T : Int) at q3
      change (IntsR w9.heap.size 1 [(T : Int)]) (vs 4) w10 at q4
      change (OwnB w9.heap.size 2 (toBe 2 T)) (vs 5) w10 at q5
      simp only [putAll, Act.put, List.setIfInBounds_toArray, List.set_cons_zero, List.set_cons_succ, List.take_succ_cons, List.take_zero, q0, q1, q2, q3]
      clear q0 q1 q2 q3
      clear hR
      obtain ⟨A2, c2, hv, hown2⟩ := q5
      rw [hv]
      have ho9 : Own w10 w.heap.size 5 1 (some ⟨g, 0, none⟩) n c' (bv L2) := HO8.out.below (bthen (below_drew _) (grow_below hX10))
      have hcp := bthen HB8.out (bthen (below_drew _) (grow_below hX10))
      refine wp_copy_Own (.tmp 34) (.tmp 38) 22 22 rfl Try.underlying22 (by kernel_rfl) 10 rfl rfl ho9 (by omega) (by omega) hown2.row (bv_one _) ?_
      intro w11 ho11 hg11 hs11
      have hB11 : Below w.heap.size w w11 := bgrown hcp hg11 hcp.size hgw
      have HO11 := Lib.hid ho11
      clear ho11 ho9 hown2 hv hX10 q4 hcp
      go_wp2
      go_ret2
      have hf := HO11.out
      rw [← bv_take, ← bv_drop, ← bv_append, ← bv_append] at hf
      exact ⟨⟨some ⟨g, 0, none⟩, n, c', _⟩, rfl, rfl, hf, hB11⟩
  · have hne : (er != 0) = true := by simpa using he
    rw [if_neg he]
    clear he
    go_enter Try.func18, Try.ntmps18
    go_wp2_with fail
    refine HP.out.mono ?_
    rintro e w1 ⟨rfl, hb1⟩
    go_wp2_with (first
    | (refine wpList_alloc_blk rfl 27 rfl H4.zero.cells zero4 ?_; intro w2 hbw2 hBw2 hsw2)
    | (refine wpList_store_all rfl 27 _ _ rfl w1.heap.size h4.cells rfl rfl 27 _ hbw2 (size4 _ HOK.out) (H4.cells_same _ _ HOK.out H4.zero_ok) (H4.one _) ?_; intro w3 hbw3 hgw3 hsw3; have hBw3 : Below w1.heap.size w1 w3 := bgrown hBw2 hgw3 (by omega) (by omega)))
    go_ret2
    exact ⟨⟨none, 0, 0, []⟩, rfl, rfl, Own.nil _ _ _ _ _, bthen hb1 hBw3⟩

theorem ttlA_num (l : List UInt8) (t : Int) (h0 : 0 ≤ t) (h1 : t ≤ 255) (u9 : UInt8) (hu : l[9]? = some u9) : numF (ttlA l t) 8 2 = (256 * t + (u9.toNat : Int)).toNat := by
  have hl : 9 < l.length := (List.getElem?_eq_some_iff.1 hu).1
  have e : ttlA l t = l.take 8 ++ [ub t, u9] ++ l.drop 10 := by
    unfold ttlA
    rw [List.drop_eq_getElem_cons hl]
    have : l[9] = u9 := by
      have := List.getElem?_eq_some_iff.1 hu
      exact this.2
    rw [this]
    simp
  rw [e, numF_mid _ _ _ 8 2 (by rw [List.length_take]; omega) rfl]
  simp only [be, List.foldl_cons, List.foldl_nil]
  have := ub_nat t h0 h1
  omega
theorem ttlA_cut (l : List UInt8) (t : Int) (u9 : UInt8) (hu : l[9]? = some u9) : (ttlA l t).take 10 = l.take 8 ++ [ub t, u9] ∧ (ttlA l t).drop 12 = l.drop 12 := by
  have hl : 9 < l.length := (List.getElem?_eq_some_iff.1 hu).1
  have e : ttlA l t = l.take 8 ++ [ub t, u9] ++ l.drop 10 := by
    unfold ttlA
    rw [List.drop_eq_getElem_cons hl]
    have : l[9] = u9 := by
      have := List.getElem?_eq_some_iff.1 hu
      exact this.2
    rw [this]
    simp
  have h10 : (l.take 8 ++ [ub t, u9]).length = 10 := by simp; omega
  refine ⟨by rw [e]; exact List.take_left' h10, ?_⟩
  rw [e, show (12 : Nat) = 10 + 2 from rfl, ← List.drop_drop, List.drop_left' h10, List.drop_drop]

set_option maxHeartbeats 4000000 in
theorem rttl4_any (l : List UInt8) (t : Int) (w : World) (hn : l.length ≤ 1099511627776) (h0 : 0 ≤ t) (h1 : t ≤ 255) :
    Calls Try.prog 19 #[str l, .int .u8 t] w fun e w' => e = .returned (.tuple #[str (ttl4 l t), .int .i64 (par4 l).2]) ∧ Below w.heap.size w w' := by
  have P := rparse4_any l w hn
  have hok := par4_ok l
  unfold ttl4
  cases hp : par4 l with
  | mk h4 er =>
  rw [hp] at P hok
  simp only at P hok ⊢
  have HP := Lib.hid P
  have HOK := Lib.hid hok
  have HPP := Lib.hid hp
  clear P hok hp
  by_cases he : er = 0
  · subst he
    obtain ⟨L, S, hLen, hS, f1, f2, f3, f4, _⟩ := par4_fit l h4 HPP.out
    rw [if_pos rfl]
    obtain ⟨u9, hu9⟩ := get_ex l (k := 9) (by omega)
    obtain ⟨C, hC⟩ : ∃ C, numF l 10 2 = C := ⟨_, rfl⟩
    obtain ⟨O, hO⟩ : ∃ O, numF l 8 2 = O := ⟨_, rfl⟩
    obtain ⟨N, hN⟩ : ∃ N, numF (ttlA l t) 8 2 = N := ⟨_, rfl⟩
    obtain ⟨T, hT⟩ : ∃ T, T = ttlC l t := ⟨_, rfl⟩
    have hTN : T = turnN C O N := by rw [hT, ttlC, hC, hO, hN]
    have bC : C < 256 ^ 2 := by rw [← hC]; exact numF_bd _ _ _
    have bO : O < 256 ^ 2 := by rw [← hO]; exact numF_bd _ _ _
    have bT : T ≤ 65535 := by rw [hTN]; exact turnN_le _ _ _
    have hNv : (N : Int) = 256 * t + (u9.toNat : Int) := by rw [← hN, ttlA_num l t h0 h1 u9 hu9]; omega
    have hub := u9.toNat_lt
    have bN : N < 256 ^ 2 := by omega
    obtain ⟨cut1, cut2⟩ := ttlA_cut l t u9 hu9
    rw [← hT, cut1, cut2]
    have HTE := Lib.hid ((turnN_eq C O N (by omega) (by omega)).trans hTN.symm)
    have HC := Lib.hid hC
    have HO := Lib.hid hO
    have HN := Lib.hid hNv
    have hg9 := ba_get l 9 u9 hu9
    have HG9 := Lib.hid hg9
    have HX8 := Lib.hid (show (ByteArray.mk l.toArray).extract 0 8 = ByteArray.mk (l.take 8).toArray by rw [str_ex]; rfl)
    have HX12 := Lib.hid (Value.string.inj (str_drop l 12))
    have i8 : (8 : Int) ≤ (l.length : Int) := by omega
    have i9 : (9 : Int) < (l.length : Int) := by omega
    have j9 : 9 < l.length := by omega
    have i12 : (12 : Int) ≤ (l.length : Int) := by omega
    clear hC hO hN hNv hT hTN hLen hS cut1 cut2 hu9
    go_enter Try.func19, Try.ntmps19
    go_wp2_with fail
    refine HP.out.mono ?_
    rintro e w1 ⟨rfl, hb1⟩
    go_wp2_with (first
    | (refine wpList_alloc_blk rfl 27 rfl H4.zero.cells zero4 ?_; intro w2 hbw2 hBw2 hsw2)
    | (refine wpList_store_all rfl 27 _ _ rfl w1.heap.size h4.cells rfl rfl 27 _ hbw2 (size4 _ HOK.out) (H4.cells_same _ _ HOK.out H4.zero_ok) (H4.one _) ?_; intro w3 hbw3 hgw3 hsw3; have hBw3 : Below w1.heap.size w1 w3 := bgrown hBw2 hgw3 (by omega) (by omega)))
    have hB3 := bthen hb1 hBw3
    refine (rnum4_any 8 2 l _ hn (by omega) (by omega) (by omega)).mono ?_
    rintro e w' ⟨rfl, rfl⟩
    rw [HO.out]
    go_wp2_with fail
    refine (rnum4_any 10 2 l _ hn (by omega) (by omega) (by omega)).mono ?_
    rintro e w' ⟨rfl, rfl⟩
    rw [HC.out]
    go_wp2_with fail
    rw [← HN.out]
    refine (rturn_any C O N _ (by omega) (by omega) (by omega) (by omega) (by omega) (by omega)).mono ?_
    rintro e w' ⟨rfl, rfl⟩
    rw [HTE.out]
    clear hg9
    go_wp2_with fail
    refine wp_region_rel (fun A B => A.grownBy B none) (fun A => grown_refl A _) (fun A B C h k => grown_trans h k) (relAt (List.cons (fun v _ => v = str l) (List.cons (fun v _ => v = str (l.take 8)) (List.cons (fun v _ => v = .int .u8 t) (List.cons (fun v _ => v = str l) (List.cons (fun v _ => v = .int .u8 (u9.toNat : Int)) (List.cons (BsR [ub t, u9]) (List.cons (fun v _ => v = str [ub t, u9]) (List.cons (fun v _ => v = str (l.take 8 ++ [ub t, u9])) (List.cons (fun v _ => v = .int .i64 (T : Int)) (List.cons (fun v _ => v = .int .u64 (T : Int)) (List.cons (fun v _ => v = str (toBe 2 T)) (List.cons (fun v _ => v = str (l.take 8 ++ [ub t, u9] ++ toBe 2 T)) (List.cons (fun v _ => v = str l) (List.cons (fun v _ => v = str (l.drop 12)) (List.cons (fun v _ => v = str (l.take 8 ++ [ub t, u9] ++ toBe 2 T ++ l.drop 12)) (List.cons (fun v _ => v = str (l.take 8 ++ [ub t, u9] ++ toBe 2 T ++ l.drop 12)) (List.cons (fun v _ => v = .int .i64 0) ([]))))))))))))))))))) (MonoL.at_ (.cons (mono_val _) (.cons (mono_val _) (.cons (mono_val _) (.cons (mono_val _) (.cons (mono_val _) (.cons (mono_bs _) (.cons (mono_val _) (.cons (mono_val _) (.cons (mono_val _) (.cons (mono_val _) (.cons (mono_val _) (.cons (mono_val _) (.cons (mono_val _) (.cons (mono_val _) (.cons (mono_val _) (.cons (mono_val _) (.cons (mono_val _) .nil)))))))))))))))))) (by kernel_rfl) (by kernel_rfl) ⟨?_, ?_, ?_, ?_, ?_, ?_, ?_, ?_, ?_, ?_, ?_, ?_, ?_, ?_, ?_, ?_, ?_, trivial⟩ ?_
    · intro a vs W hX hR he hf K hK
      rw [if_pos (wanted_none rfl)]
      have e0 : a.eval (.tmp 0) = str l := hf 0 (by kernel_rfl)
      refine wp_value (v := str l) ?_ (hK _ _ rfl (grown_refl W _))
      simp only [execOp, e0]
      try go_simp
      try (first | rfl | omega | (simp only [IntKind.wrap_i64, IntKind.wrap_u8, IntKind.wrap_u64, IntKind.wrap_u16, IntKind.wrap_u32]; omega) | (rw [Int.tmod_eq_emod_of_nonneg (by omega)]) | (rw [Int.tmod_eq_emod_of_nonneg (by omega)]; omega))
    · intro a vs W hX hR he hf K hK
      rw [if_pos (wanted_none rfl)]
      have e33 : a.eval (.tmp 33) = str l := (he 0 33 (by kernel_rfl) rfl).trans (hR 0 (by kernel_rfl))
      have f33 := e33
      simp only [Act.eval, Array.getD_eq_getD_getElem?] at f33
      refine wp_value (v := _) ?_ (hK _ _ rfl (grown_refl W _))
      simp only [execOp, e33]
      go_simp
      exact HX8.out
    · intro a vs W hX hR he hf K hK
      rw [if_pos (wanted_none rfl)]
      have e1 : a.eval (.tmp 1) = .int .u8 t := hf 1 (by kernel_rfl)
      refine wp_value (v := .int .u8 t) ?_ (hK _ _ rfl (grown_refl W _))
      simp only [execOp, e1]
      try go_simp
      try (first | rfl | omega | (simp only [IntKind.wrap_i64, IntKind.wrap_u8, IntKind.wrap_u64, IntKind.wrap_u16, IntKind.wrap_u32]; omega) | (rw [Int.tmod_eq_emod_of_nonneg (by omega)]) | (rw [Int.tmod_eq_emod_of_nonneg (by omega)]; omega))
    · intro a vs W hX hR he hf K hK
      rw [if_pos (wanted_none rfl)]
      have e0 : a.eval (.tmp 0) = str l := hf 0 (by kernel_rfl)
      refine wp_value (v := str l) ?_ (hK _ _ rfl (grown_refl W _))
      simp only [execOp, e0]
      try go_simp
      try (first | rfl | omega | (simp only [IntKind.wrap_i64, IntKind.wrap_u8, IntKind.wrap_u64, IntKind.wrap_u16, IntKind.wrap_u32]; omega) | (rw [Int.tmod_eq_emod_of_nonneg (by omega)]) | (rw [Int.tmod_eq_emod_of_nonneg (by omega)]; omega))
    · intro a vs W hX hR he hf K hK
      rw [if_pos (wanted_none rfl)]
      have e36 : a.eval (.tmp 36) = str l := (he 3 36 (by kernel_rfl) rfl).trans (hR 3 (by kernel_rfl))
      refine wp_value (v := _) ?_ (hK _ _ rfl (grown_refl W _))
      simp only [execOp, e36]
      go_simp
      rw [HG9.out]
    · intro a vs W hX hR he hf K hK
      rw [if_pos (wanted_none rfl)]
      have e35 : a.eval (.tmp 35) = .int .u8 t := (he 2 35 (by kernel_rfl) rfl).trans (hR 2 (by kernel_rfl))
      have e37 : a.eval (.tmp 37) = .int .u8 (u9.toNat : Int) := (he 4 37 (by kernel_rfl) rfl).trans (hR 4 (by kernel_rfl))
      have f35 := e35
      simp only [Act.eval, Array.getD_eq_getD_getElem?] at f35
      have f37 := e37
      simp only [Act.eval, Array.getD_eq_getD_getElem?] at f37
      refine wp_value (v := .slice (some ⟨W.heap.size, 0, none⟩) 2 2) (w' := W.alloc (.cells #[.int .u8 t, .int .u8 (u9.toNat : Int)] 5)) ?_ (hK _ _ ⟨_, _, _, rfl, ⟨by rw [World.size_alloc]; exact row_lit W _ [ub t, u9] 2 (by simp [bv, ub]; omega) rfl, Nat.le_refl _, by simp [maxLen]⟩⟩ (World.grownBy_alloc _ _ _))
      simp only [execOp]
      go_simp
    · intro a vs W hX hR he hf K hK
      rw [if_pos (wanted_none rfl)]
      have e38 := he 5 38 (by kernel_rfl) rfl
      have p38 := hR 5 (by kernel_rfl)
      change (BsR [ub t, u9]) (vs 5) W at p38
      obtain ⟨A, n, c, hv, ho⟩ := p38
      rw [hv] at e38
      exact wp_value (exec_str 22 9 5 _ rfl Try.underlying22 Try.underlying5 Try.underlying9 A n c _ e38 ho) (hK _ _ rfl (grown_refl W _))
    · intro a vs W hX hR he hf K hK
      rw [if_pos (wanted_none rfl)]
      have e34 : a.eval (.tmp 34) = str (l.take 8) := (he 1 34 (by kernel_rfl) rfl).trans (hR 1 (by kernel_rfl))
      have e39 : a.eval (.tmp 39) = str [ub t, u9] := (he 6 39 (by kernel_rfl) rfl).trans (hR 6 (by kernel_rfl))
      refine wp_value (v := _) ?_ (hK _ _ rfl (grown_refl W _))
      simp only [execOp, e34, e39]
      go_simp
      simp [ba_append]
      try (simp [toBe_length] <;> omega)
      try omega
    · intro a vs W hX hR he hf K hK
      rw [if_pos (wanted_none rfl)]
      have e10 : a.eval (.tmp 10) = .int .i64 (T : Int) := hf 10 (by kernel_rfl)
      refine wp_value (v := .int .i64 (T : Int)) ?_ (hK _ _ rfl (grown_refl W _))
      simp only [execOp, e10]
      try go_simp
      try (first | rfl | omega | (simp only [IntKind.wrap_i64, IntKind.wrap_u8, IntKind.wrap_u64, IntKind.wrap_u16, IntKind.wrap_u32]; omega) | (rw [Int.tmod_eq_emod_of_nonneg (by omega)]) | (rw [Int.tmod_eq_emod_of_nonneg (by omega)]; omega))
    · intro a vs W hX hR he hf K hK
      rw [if_pos (wanted_none rfl)]
      have e41 : a.eval (.tmp 41) = .int .i64 (T : Int) := (he 8 41 (by kernel_rfl) rfl).trans (hR 8 (by kernel_rfl))
      refine wp_value (v := .int .u64 (T : Int)) ?_ (hK _ _ rfl (grown_refl W _))
      simp only [execOp, e41]
      try go_simp
      try (first | rfl | omega | (simp only [IntKind.wrap_i64, IntKind.wrap_u8, IntKind.wrap_u64, IntKind.wrap_u16, IntKind.wrap_u32]; omega) | (rw [Int.tmod_eq_emod_of_nonneg (by omega)]) | (rw [Int.tmod_eq_emod_of_nonneg (by omega)]; omega))
    · intro a vs W hX hR he hf K hK
      rw [if_pos (wanted_none rfl)]
      have e42 : a.eval (.tmp 42) = .int .u64 (T : Int) := (he 9 42 (by kernel_rfl) rfl).trans (hR 9 (by kernel_rfl))
      refine wp_enter (f := 29) (args := #[.int .u64 (T : Int), .int .i64 2]) (by simp only [execOp, e42]; go_simp; simpa [Act.eval] using e42) ((bytes_any (T : Int) 2 W (by omega) (by omega) (by omega) (by omega)).mono ?_)
      rintro e w' ⟨rfl, hb⟩
      exact ⟨_, rfl, hK _ _ (show str (toBe (2 : Int).toNat (T : Int).toNat) = str (toBe 2 T) by simp) (below_grow hb _)⟩
    · intro a vs W hX hR he hf K hK
      rw [if_pos (wanted_none rfl)]
      have e40 : a.eval (.tmp 40) = str (l.take 8 ++ [ub t, u9]) := (he 7 40 (by kernel_rfl) rfl).trans (hR 7 (by kernel_rfl))
      have e43 : a.eval (.tmp 43) = str (toBe 2 T) := (he 10 43 (by kernel_rfl) rfl).trans (hR 10 (by kernel_rfl))
      refine wp_value (v := _) ?_ (hK _ _ rfl (grown_refl W _))
      simp only [execOp, e40, e43]
      go_simp
      simp [ba_append]
      try (simp [toBe_length] <;> omega)
      try omega
    · intro a vs W hX hR he hf K hK
      rw [if_pos (wanted_none rfl)]
      have e0 : a.eval (.tmp 0) = str l := hf 0 (by kernel_rfl)
      refine wp_value (v := str l) ?_ (hK _ _ rfl (grown_refl W _))
      simp only [execOp, e0]
      try go_simp
      try (first | rfl | omega | (simp only [IntKind.wrap_i64, IntKind.wrap_u8, IntKind.wrap_u64, IntKind.wrap_u16, IntKind.wrap_u32]; omega) | (rw [Int.tmod_eq_emod_of_nonneg (by omega)]) | (rw [Int.tmod_eq_emod_of_nonneg (by omega)]; omega))
    · intro a vs W hX hR he hf K hK
      rw [if_pos (wanted_none rfl)]
      have e45 : a.eval (.tmp 45) = str l := (he 12 45 (by kernel_rfl) rfl).trans (hR 12 (by kernel_rfl))
      have f45 := e45
      simp only [Act.eval, Array.getD_eq_getD_getElem?] at f45
      refine wp_value (v := _) ?_ (hK _ _ rfl (grown_refl W _))
      simp only [execOp, e45]
      go_simp
      exact HX12.out
    · intro a vs W hX hR he hf K hK
      rw [if_pos (wanted_none rfl)]
      have e44 : a.eval (.tmp 44) = str (l.take 8 ++ [ub t, u9] ++ toBe 2 T) := (he 11 44 (by kernel_rfl) rfl).trans (hR 11 (by kernel_rfl))
      have e46 : a.eval (.tmp 46) = str (l.drop 12) := (he 13 46 (by kernel_rfl) rfl).trans (hR 13 (by kernel_rfl))
      refine wp_value (v := _) ?_ (hK _ _ rfl (grown_refl W _))
      simp only [execOp, e44, e46]
      go_simp
      simp [ba_append]
      try (simp [toBe_length] <;> omega)
      try omega
    · intro a vs W hX hR he hf K hK
      rw [if_pos (wanted_none rfl)]
      have e47 : a.eval (.tmp 47) = str (l.take 8 ++ [ub t, u9] ++ toBe 2 T ++ l.drop 12) := (he 14 47 (by kernel_rfl) rfl).trans (hR 14 (by kernel_rfl))
      refine wp_value (v := str (l.take 8 ++ [ub t, u9] ++ toBe 2 T ++ l.drop 12)) ?_ (hK _ _ rfl (grown_refl W _))
      simp only [execOp, e47]
      try go_simp
      try (first | rfl | omega | (simp only [IntKind.wrap_i64, IntKind.wrap_u8, IntKind.wrap_u64, IntKind.wrap_u16, IntKind.wrap_u32]; omega) | (rw [Int.tmod_eq_emod_of_nonneg (by omega)]) | (rw [Int.tmod_eq_emod_of_nonneg (by omega)]; omega))
    · intro a vs W hX hR he hf K hK
      rw [if_pos (wanted_none rfl)]
      refine wp_value (v := .int .i64 0) ?_ (hK _ _ rfl (grown_refl W _))
      simp only [execOp]
      try go_simp
      try (first | rfl | omega | (simp only [IntKind.wrap_i64, IntKind.wrap_u8, IntKind.wrap_u64, IntKind.wrap_u16, IntKind.wrap_u32]; omega) | (rw [Int.tmod_eq_emod_of_nonneg (by omega)]) | (rw [Int.tmod_eq_emod_of_nonneg (by omega)]; omega))
    · intro vs w10 hX10 hR
      have q0 := hR 0 (by decide)
      have q1 := hR 1 (by decide)
      have q2 := hR 2 (by decide)
      have q3 := hR 3 (by decide)
      have q4 := hR 4 (by decide)
      have q5 := hR 5 (by decide)
      have q6 := hR 6 (by decide)
      have q7 := hR 7 (by decide)
      have q8 := hR 8 (by decide)
      have q9 := hR 9 (by decide)
      have q10 := hR 10 (by decide)
      have q11 := hR 11 (by decide)
      have q12 := hR 12 (by decide)
      have q13 := hR 13 (by decide)
      have q14 := hR 14 (by decide)
      have q15 := hR 15 (by decide)
      have q16 := hR 16 (by decide)
      change vs 0 = str l at q0
      change vs 1 = str (l.take 8) at q1
      change vs 2 = .int .u8 t at q2
      change vs 3 = str l at q3
      change vs 4 = .int .u8 (u9.toNat : Int) at q4
      change (BsR [ub t, u9]) (vs 5) w10 at q5
      change vs 6 = str [ub t, u9] at q6
      change vs 7 = str (l.take 8 ++ [ub t, u9]) at q7
      change vs 8 = .int .i64 (T : Int) at q8
      change vs 9 = .int .u64 (T : Int) at q9
      change vs 10 = str (toBe 2 T) at q10
      change vs 11 = str (l.take 8 ++ [ub t, u9] ++ toBe 2 T) at q11
      change vs 12 = str l at q12
      change vs 13 = str (l.drop 12) at q13
      change vs 14 = str (l.take 8 ++ [ub t, u9] ++ toBe 2 T ++ l.drop 12) at q14
      change vs 15 = str (l.take 8 ++ [ub t, u9] ++ toBe 2 T ++ l.drop 12) at q15
      change vs 16 = .int .i64 0 at q16
      simp only [putAll, Act.put, List.setIfInBounds_toArray, List.set_cons_zero, List.set_cons_succ, q0, q1, q2, q3, q4, q6, q7, q8, q9, q10, q11, q12, q13, q14, q15, q16]
      clear q0 q1 q2 q3 q4 q6 q7 q8 q9 q10 q11 q12 q13 q14 q15 q16
      clear hR
      go_wp2
      go_ret2
      exact ⟨by simp, bthen hB3 (bthen (below_drew _) (grow_below hX10))⟩
  · have hne : (er != 0) = true := by simpa using he
    rw [if_neg he]
    clear he
    go_enter Try.func19, Try.ntmps19
    go_wp2_with fail
    refine HP.out.mono ?_
    rintro e w1 ⟨rfl, hb1⟩
    go_wp2_with (first
    | (refine wpList_alloc_blk rfl 27 rfl H4.zero.cells zero4 ?_; intro w2 hbw2 hBw2 hsw2)
    | (refine wpList_store_all rfl 27 _ _ rfl w1.heap.size h4.cells rfl rfl 27 _ hbw2 (size4 _ HOK.out) (H4.cells_same _ _ HOK.out H4.zero_ok) (H4.one _) ?_; intro w3 hbw3 hgw3 hsw3; have hBw3 : Below w1.heap.size w1 w3 := bgrown hBw2 hgw3 (by omega) (by omega)))
    go_ret2
    exact ⟨rfl, bthen hb1 hBw3⟩
end Go.Proofs.Ytehidnfkogfaoaa

/- What the program's and the reference's Body and Ttl of IPv4 compute. No condition but sizes. -/
import Derived.Test.YtimkgkokidhhpaaRip4
import Derived.Test.YtimkgkokidhhpaaCopy
import Derived.Test.YtimkgkokidhhpaaRel3
namespace Go.Proofs.Ytimkgkokidhhpaa
open Go.RowKit
set_option linter.unusedVariables false
set_option maxRecDepth 20000
set_option linter.unusedSimpArgs false

/-- what stands behind the header -/
def body4 (l : List UInt8) : List UInt8 := if (par4 l).2 = 0 then (l.take (par4 l).1.len.toNat).drop (20 + (par4 l).1.opt.length) else []
theorem par4_fit (l : List UInt8) (h4 : H4) (hp : par4 l = (h4, 0)) : ∃ L S : Nat, h4.len = (L : Nat) ∧ 20 + h4.opt.length = S ∧ S ≤ L ∧ L ≤ l.length ∧ 20 ≤ l.length ∧ S ≤ 60 ∧ numF l 2 2 = L := by
  unfold par4 at hp
  split at hp
  · injection hp with _ h; cases h
  split at hp
  · injection hp with _ h; cases h
  split at hp
  · injection hp with _ h; cases h
  split at hp
  · injection hp with _ h; cases h
  rename_i h1 h2 h3 h5
  injection hp with h _
  subst h
  refine ⟨numF l 2 2, 20 + ((l.take (size4n l)).drop 20).length, rfl, rfl, ?_, ?_, ?_, ?_, rfl⟩
  all_goals try simp only [List.length_drop, List.length_take]
  · omega
  · omega
  · omega
  · have : size4n l ≤ 60 := by unfold size4n; omega
    omega
theorem addr_add (b o k : Nat) : Option.map (fun x : Addr => x.add k) (some ⟨b, o, none⟩) = some ⟨b, o + k, none⟩ := by
  show some (Addr.add ⟨b, o, none⟩ k) = _
  unfold Addr.add
  split
  · rename_i h0; rw [h0]; rfl
  · rfl

set_option maxHeartbeats 4000000 in
theorem body4_any (A : Option Addr) (n c : Nat) (l : List UInt8) (w : World) (h : Row w w.heap.size 1 A n (bv l)) (hc : n ≤ c) (hcm : c ≤ maxLen) (hn : n ≤ 1099511627776) :
    Calls Try.prog 65 #[.slice A n c] w fun e w' => ∃ r : Bs, e = .returned r.v ∧ r.l = body4 l ∧ r.ok w' ∧ Below w.heap.size w w' := by
  have hll : l.length = n := by have := h.1; rw [bv_length] at this; omega
  have P := parse4_any A n c l w h hc hcm hn
  have hok := par4_ok l
  unfold body4
  cases hp : par4 l with
  | mk h4 er =>
  rw [hp] at P hok
  simp only at P hok ⊢
  have HP := Lib.hid P
  have HOK := Lib.hid hok
  have HPP := Lib.hid hp
  have HH := Lib.hid h
  have HLL := Lib.hid hll
  clear P hok hp h hll
  by_cases he : er = 0
  · subst he
    obtain ⟨L, S, hLen, hS, f1, f2, f3, f4, _⟩ := par4_fit l h4 HPP.out
    have f2' : L ≤ n := by rw [← HLL.out]; exact f2
    have f3' : 20 ≤ n := by rw [← HLL.out]; exact f3
    obtain ⟨b, o, rfl, hbB, _⟩ := HH.out.2 (by omega)
    rw [hLen, if_pos rfl, hS, Int.toNat_natCast]
    have HLen := Lib.hid hLen
    clear hLen
    have HSL : Hid (∀ W : World, Below w.heap.size w W → ∀ A cc, L - S ≤ cc → cc ≤ maxLen → (A = some ⟨b, o + S, none⟩ ∨ L = S) → (Bs.mk A (L - S) cc ((l.take L).drop S)).ok W) := Lib.hid fun W hW A cc h1 h2 h3 => by
      rcases h3 with rfl | h3
      · have hr := ((HH.out.below hW).more hW.size).sub1 (i := S) (k := L - S) (by omega)
        rw [← bv_drop, ← bv_take, addr_add] at hr
        refine ⟨?_, h1, h2⟩
        rw [List.drop_take]
        exact hr
      · refine ⟨?_, h1, h2⟩
        have e : (l.take L).drop S = [] := List.drop_of_length_le (by rw [List.length_take]; omega)
        show Row W W.heap.size 1 A (L - S) (bv ((l.take L).drop S))
        rw [e, show L - S = 0 by omega]
        exact Row.nil _ _ _ _
    have HCS : Hid (¬ c = S ∨ c = S ∧ L = S) := Lib.hid (by omega)
    have kSL : (S : Int) ≤ (L : Int) := by omega
    have kLc : (L : Int) ≤ (c : Int) := by omega
    go_enter Try.func65, Try.ntmps65
    go_wp2_with fail
    refine HP.out.mono ?_
    rintro e w1 ⟨rfl, hb1⟩
    go_wp2_with (first
    | (refine wpList_alloc_blk rfl 42 rfl H4.zero.cells zero4 ?_; intro w2 hbw2 hBw2 hsw2)
    | (refine wpList_store_all rfl 42 _ _ rfl w1.heap.size h4.cells rfl rfl 42 _ hbw2 (size4 _ HOK.out) (H4.cells_same _ _ HOK.out H4.zero_ok) (H4.one _) ?_; intro w3 hbw3 hgw3 hsw3; have hBw3 : Below w1.heap.size w1 w3 := bgrown hBw2 hgw3 (by omega) (by omega)))
    have hB3 := bthen hb1 hBw3
    refine wp_region_rel (fun A B => A.grownBy B none) (fun A => grown_refl A _) (fun A B C h k => grown_trans h k) (relAt (List.cons (fun v _ => v = .slice (some ⟨b, o, none⟩) n c) (List.cons (fun v _ => v = .agg h4.cells.toArray) (List.cons (fun v _ => v = .int .i64 (S : Int)) (List.cons (fun v _ => v = .pointer (some ⟨w1.heap.size, 1, none⟩)) (List.cons (fun v _ => v = .int .i64 (L : Int)) (List.cons (fun v _ => ∃ A' cc, v = .slice A' (L - S) cc ∧ ∀ W' : World, Below w.heap.size w W' → (Bs.mk A' (L - S) cc ((l.take L).drop S)).ok W') (List.cons (BsR ((l.take L).drop S)) (List.cons (BsR ((l.take L).drop S)) ([])))))))))) (MonoL.at_ (.cons (mono_val _) (.cons (mono_val _) (.cons (mono_val _) (.cons (mono_val _) (.cons (mono_val _) (.cons (fun _ _ _ h _ => h) (.cons (mono_bs _) (.cons (mono_bs _) .nil))))))))) (by kernel_rfl) (by kernel_rfl) ⟨?_, ?_, ?_, ?_, ?_, ?_, ?_, ?_, trivial⟩ ?_
    · intro a vs W hX hR he hf K hK
      rw [if_pos (wanted_none rfl)]
      have e0 : a.eval (.tmp 0) = .slice (some ⟨b, o, none⟩) n c := hf 0 (by kernel_rfl)
      refine wp_value (v := .slice (some ⟨b, o, none⟩) n c) ?_ (hK _ _ rfl (grown_refl W _))
      simp only [execOp, e0]
      try go_simp
      try (first | rfl | omega | (simp only [IntKind.wrap_i64, IntKind.wrap_u8, IntKind.wrap_u64, IntKind.wrap_u16, IntKind.wrap_u32]; omega) | (rw [Int.tmod_eq_emod_of_nonneg (by omega)]) | (rw [Int.tmod_eq_emod_of_nonneg (by omega)]; omega))
    · intro a vs W hX hR he hf K hK
      rw [if_pos (wanted_none rfl)]
      have e3 : a.eval (.tmp 3) = .pointer (some ⟨w1.heap.size, 0, none⟩) := hf 3 (by kernel_rfl)
      have hbW := bthen (below_drew _) (grow_below hX)
      exact wp_value (exec_load 42 _ rfl w1.heap.size e3 42 h4.cells _ (hbw3.on hbW) Try.underlying42 rfl (size4 _ HOK.out)) (hK _ _ rfl (grown_refl W _))
    · intro a vs W hX hR he hf K hK
      rw [if_pos (wanted_none rfl)]
      have e13 : a.eval (.tmp 13) = .agg h4.cells.toArray := (he 1 13 (by kernel_rfl) rfl).trans (hR 1 (by kernel_rfl))
      refine wp_enter (f := 79) (args := #[.agg h4.cells.toArray]) (by simp only [execOp, e13]; go_simp; simpa [Act.eval] using e13) ((size4_any h4 HOK.out W (by omega)).mono ?_)
      rintro e w' ⟨rfl, hb⟩
      rw [show (20 + (h4.opt.length : Int)) = (S : Int) by omega]
      exact ⟨_, rfl, hK _ _ rfl (below_grow hb _)⟩
    · intro a vs W hX hR he hf K hK
      rw [if_pos (wanted_none rfl)]
      have e3 : a.eval (.tmp 3) = .pointer (some ⟨w1.heap.size, 0, none⟩) := hf 3 (by kernel_rfl)
      refine wp_value (v := .pointer (some ⟨w1.heap.size, 1, none⟩)) ?_ (hK _ _ rfl (grown_refl W _))
      simp only [execOp, e3]
      try go_simp
      try (first | rfl | omega | (simp only [IntKind.wrap_i64, IntKind.wrap_u8, IntKind.wrap_u64, IntKind.wrap_u16, IntKind.wrap_u32]; omega) | (rw [Int.tmod_eq_emod_of_nonneg (by omega)]) | (rw [Int.tmod_eq_emod_of_nonneg (by omega)]; omega))
    · intro a vs W hX hR he hf K hK
      rw [if_pos (wanted_none rfl)]
      have e15 : a.eval (.tmp 15) = .pointer (some ⟨w1.heap.size, 1, none⟩) := (he 3 15 (by kernel_rfl) rfl).trans (hR 3 (by kernel_rfl))
      have hbW := bthen (below_drew _) (grow_below hX)
      have hc : W.cell? ⟨w1.heap.size, 1, none⟩ = some (.int .i64 (L : Int)) := ((hbw3.on hbW).cell 1).trans (congrArg (fun x => some (Value.int .i64 x)) HLen.out)
      refine wp_value (v := _) ?_ (hK _ _ rfl (grown_refl W _))
      simp only [execOp, e15]
      try go_simp
    · intro a vs W hX hR he hf K hK
      rw [if_pos (wanted_none rfl)]
      have e12 : a.eval (.tmp 12) = .slice (some ⟨b, o, none⟩) n c := (he 0 12 (by kernel_rfl) rfl).trans (hR 0 (by kernel_rfl))
      have e14 : a.eval (.tmp 14) = .int .i64 (S : Int) := (he 2 14 (by kernel_rfl) rfl).trans (hR 2 (by kernel_rfl))
      have e16 : a.eval (.tmp 16) = .int .i64 (L : Int) := (he 4 16 (by kernel_rfl) rfl).trans (hR 4 (by kernel_rfl))
      have f12 := e12
      simp only [Act.eval, Array.getD_eq_getD_getElem?] at f12
      have f14 := e14
      simp only [Act.eval, Array.getD_eq_getD_getElem?] at f14
      have f16 := e16
      simp only [Act.eval, Array.getD_eq_getD_getElem?] at f16
      rcases HCS.out with hcS | ⟨hcS, hLS⟩
      · refine wp_value (v := .slice (some ⟨b, o + S, none⟩) (L - S) (c - S)) ?_ (hK _ _ ⟨_, _, rfl, fun W' hW' => HSL.out W' hW' _ _ (by omega) (by omega) (.inl rfl)⟩ (grown_refl W _))
        simp only [execOp, e12]
        go_simp
      · refine wp_value (v := .slice (some ⟨b, o, none⟩) (L - S) 0) ?_ (hK _ _ ⟨_, _, rfl, fun W' hW' => HSL.out W' hW' _ _ (by omega) (by omega) (.inr hLS)⟩ (grown_refl W _))
        subst hcS
        simp only [execOp, e12]
        go_simp
        try rw [if_pos (by omega)]
    · intro a vs W hX hR he hf K hK
      rw [if_pos (wanted_none rfl)]
      have e17 := he 5 17 (by kernel_rfl) rfl
      have p17 := hR 5 (by kernel_rfl)
      change (fun v _ => ∃ A' cc, v = .slice A' (L - S) cc ∧ ∀ W' : World, Below w.heap.size w W' → (Bs.mk A' (L - S) cc ((l.take L).drop S)).ok W') (vs 5) W at p17
      obtain ⟨A', cc, hv, ho⟩ := p17
      rw [hv] at e17
      have hbW := bthen hB3 (bthen (below_drew _) (grow_below hX))
      refine wp_enter (f := 78) (args := #[.slice A' (L - S) cc]) (by simp only [execOp, e17]; go_simp; simpa [Act.eval] using e17) ((clone_bytes A' (L - S) cc _ W (ho W hbW).row (by omega)).mono ?_)
      rintro e w' ⟨A2, c2, rfl, hown, hb⟩
      exact ⟨_, rfl, hK _ _ ⟨A2, _, c2, rfl, hown.ok⟩ (below_grow hb _)⟩
    · intro a vs W hX hR he hf K hK
      rw [if_pos (wanted_none rfl)]
      have e18 := he 6 18 (by kernel_rfl) rfl
      have p18 := hR 6 (by kernel_rfl)
      change (BsR ((l.take L).drop S)) (vs 6) W at p18
      refine wp_value (v := _) ?_ (hK _ _ p18 (grown_refl W _))
      simp only [execOp, e18]
      try go_simp
    · intro vs w4 hX4 hR
      have q0 := hR 0 (by decide)
      have q1 := hR 1 (by decide)
      have q2 := hR 2 (by decide)
      have q3 := hR 3 (by decide)
      have q4 := hR 4 (by decide)
      have q5 := hR 5 (by decide)
      have q6 := hR 6 (by decide)
      have q7 := hR 7 (by decide)
      change vs 0 = .slice (some ⟨b, o, none⟩) n c at q0
      change vs 1 = .agg h4.cells.toArray at q1
      change vs 2 = .int .i64 (S : Int) at q2
      change vs 3 = .pointer (some ⟨w1.heap.size, 1, none⟩) at q3
      change vs 4 = .int .i64 (L : Int) at q4
      change (fun v _ => ∃ A' cc, v = .slice A' (L - S) cc ∧ ∀ W' : World, Below w.heap.size w W' → (Bs.mk A' (L - S) cc ((l.take L).drop S)).ok W') (vs 5) w4 at q5
      change (BsR ((l.take L).drop S)) (vs 6) w4 at q6
      change (BsR ((l.take L).drop S)) (vs 7) w4 at q7
      simp only [putAll, Act.put, List.setIfInBounds_toArray, List.set_cons_zero, List.set_cons_succ, q0, q1, q2, q3, q4]
      clear q0 q1 q2 q3 q4
      clear hR
      obtain ⟨A9, n9, c9, hv9, ho9⟩ := q7
      rw [hv9]
      go_wp2
      go_ret
      exact ⟨⟨A9, n9, c9, _⟩, rfl, rfl, ho9, bthen hB3 (bthen (below_drew _) (grow_below hX4))⟩
  · have hne : (er != 0) = true := by simpa using he
    rw [if_neg he]
    clear he
    go_enter Try.func65, Try.ntmps65
    go_wp2_with fail
    refine HP.out.mono ?_
    rintro e w1 ⟨rfl, hb1⟩
    go_wp2_with (first
    | (refine wpList_alloc_blk rfl 42 rfl H4.zero.cells zero4 ?_; intro w2 hbw2 hBw2 hsw2)
    | (refine wpList_store_all rfl 42 _ _ rfl w1.heap.size h4.cells rfl rfl 42 _ hbw2 (size4 _ HOK.out) (H4.cells_same _ _ HOK.out H4.zero_ok) (H4.one _) ?_; intro w3 hbw3 hgw3 hsw3; have hBw3 : Below w1.heap.size w1 w3 := bgrown hBw2 hgw3 (by omega) (by omega)))
    go_ret
    exact ⟨⟨none, 0, 0, []⟩, rfl, rfl, ok_nil _, bthen hb1 hBw3⟩

set_option maxHeartbeats 4000000 in
theorem rbody4_any (l : List UInt8) (w : World) (hn : l.length ≤ 1099511627776) :
    Calls Try.prog 67 #[str l] w fun e w' => e = .returned (str (body4 l)) ∧ Below w.heap.size w w' := by
  have P := rparse4_any l w hn
  have hok := par4_ok l
  unfold body4
  cases hp : par4 l with
  | mk h4 er =>
  rw [hp] at P hok
  simp only at P hok ⊢
  have HP := Lib.hid P
  have HOK := Lib.hid hok
  have HPP := Lib.hid hp
  clear P hok hp
  by_cases he : er = 0
  · subst he
    obtain ⟨L, S, hLen, hS, f1, f2, f3, f4, _⟩ := par4_fit l h4 HPP.out
    rw [hLen, if_pos rfl, hS, Int.toNat_natCast]
    have HLen := Lib.hid hLen
    clear hLen
    have kSL : (S : Int) ≤ (L : Int) := by omega
    have kLl : (L : Int) ≤ (l.length : Int) := by omega
    go_enter Try.func67, Try.ntmps67
    go_wp2_with fail
    refine HP.out.mono ?_
    rintro e w1 ⟨rfl, hb1⟩
    go_wp2_with (first
    | (refine wpList_alloc_blk rfl 42 rfl H4.zero.cells zero4 ?_; intro w2 hbw2 hBw2 hsw2)
    | (refine wpList_store_all rfl 42 _ _ rfl w1.heap.size h4.cells rfl rfl 42 _ hbw2 (size4 _ HOK.out) (H4.cells_same _ _ HOK.out H4.zero_ok) (H4.one _) ?_; intro w3 hbw3 hgw3 hsw3; have hBw3 : Below w1.heap.size w1 w3 := bgrown hBw2 hgw3 (by omega) (by omega)))
    have hB3 := bthen hb1 hBw3
    refine wp_region_rel (fun A B => A.grownBy B none) (fun A => grown_refl A _) (fun A B C h k => grown_trans h k) (relAt (List.cons (fun v _ => v = str l) (List.cons (fun v _ => v = .agg h4.cells.toArray) (List.cons (fun v _ => v = .int .i64 (S : Int)) (List.cons (fun v _ => v = .pointer (some ⟨w1.heap.size, 1, none⟩)) (List.cons (fun v _ => v = .int .i64 (L : Int)) (List.cons (fun v _ => v = str ((l.take L).drop S)) (List.cons (fun v _ => v = str ((l.take L).drop S)) ([]))))))))) (MonoL.at_ (.cons (mono_val _) (.cons (mono_val _) (.cons (mono_val _) (.cons (mono_val _) (.cons (mono_val _) (.cons (mono_val _) (.cons (mono_val _) .nil)))))))) (by kernel_rfl) (by kernel_rfl) ⟨?_, ?_, ?_, ?_, ?_, ?_, ?_, trivial⟩ ?_
    · intro a vs W hX hR he hf K hK
      rw [if_pos (wanted_none rfl)]
      have e0 : a.eval (.tmp 0) = str l := hf 0 (by kernel_rfl)
      refine wp_value (v := str l) ?_ (hK _ _ rfl (grown_refl W _))
      simp only [execOp, e0]
      try go_simp
      try (first | rfl | omega | (simp only [IntKind.wrap_i64, IntKind.wrap_u8, IntKind.wrap_u64, IntKind.wrap_u16, IntKind.wrap_u32]; omega) | (rw [Int.tmod_eq_emod_of_nonneg (by omega)]) | (rw [Int.tmod_eq_emod_of_nonneg (by omega)]; omega))
    · intro a vs W hX hR he hf K hK
      rw [if_pos (wanted_none rfl)]
      have e3 : a.eval (.tmp 3) = .pointer (some ⟨w1.heap.size, 0, none⟩) := hf 3 (by kernel_rfl)
      have hbW := bthen (below_drew _) (grow_below hX)
      exact wp_value (exec_load 42 _ rfl w1.heap.size e3 42 h4.cells _ (hbw3.on hbW) Try.underlying42 rfl (size4 _ HOK.out)) (hK _ _ rfl (grown_refl W _))
    · intro a vs W hX hR he hf K hK
      rw [if_pos (wanted_none rfl)]
      have e13 : a.eval (.tmp 13) = .agg h4.cells.toArray := (he 1 13 (by kernel_rfl) rfl).trans (hR 1 (by kernel_rfl))
      refine wp_enter (f := 52) (args := #[.agg h4.cells.toArray]) (by simp only [execOp, e13]; go_simp; simpa [Act.eval] using e13) ((rsize4_any h4 HOK.out W (by omega)).mono ?_)
      rintro e w' ⟨rfl, hb⟩
      rw [show (20 + (h4.opt.length : Int)) = (S : Int) by omega]
      exact ⟨_, rfl, hK _ _ rfl (below_grow hb _)⟩
    · intro a vs W hX hR he hf K hK
      rw [if_pos (wanted_none rfl)]
      have e3 : a.eval (.tmp 3) = .pointer (some ⟨w1.heap.size, 0, none⟩) := hf 3 (by kernel_rfl)
      refine wp_value (v := .pointer (some ⟨w1.heap.size, 1, none⟩)) ?_ (hK _ _ rfl (grown_refl W _))
      simp only [execOp, e3]
      try go_simp
      try (first | rfl | omega | (simp only [IntKind.wrap_i64, IntKind.wrap_u8, IntKind.wrap_u64, IntKind.wrap_u16, IntKind.wrap_u32]; omega) | (rw [Int.tmod_eq_emod_of_nonneg (by omega)]) | (rw [Int.tmod_eq_emod_of_nonneg (by omega)]; omega))
    · intro a vs W hX hR he hf K hK
      rw [if_pos (wanted_none rfl)]
      have e15 : a.eval (.tmp 15) = .pointer (some ⟨w1.heap.size, 1, none⟩) := (he 3 15 (by kernel_rfl) rfl).trans (hR 3 (by kernel_rfl))
      have hbW := bthen (below_drew _) (grow_below hX)
      have hc : W.cell? ⟨w1.heap.size, 1, none⟩ = some (.int .i64 (L : Int)) := ((hbw3.on hbW).cell 1).trans (congrArg (fun x => some (Value.int .i64 x)) HLen.out)
      refine wp_value (v := _) ?_ (hK _ _ rfl (grown_refl W _))
      simp only [execOp, e15]
      try go_simp
    · intro a vs W hX hR he hf K hK
      rw [if_pos (wanted_none rfl)]
      have e12 : a.eval (.tmp 12) = str l := (he 0 12 (by kernel_rfl) rfl).trans (hR 0 (by kernel_rfl))
      have e14 : a.eval (.tmp 14) = .int .i64 (S : Int) := (he 2 14 (by kernel_rfl) rfl).trans (hR 2 (by kernel_rfl))
      have e16 : a.eval (.tmp 16) = .int .i64 (L : Int) := (he 4 16 (by kernel_rfl) rfl).trans (hR 4 (by kernel_rfl))
      have f12 := e12
      simp only [Act.eval, Array.getD_eq_getD_getElem?] at f12
      have f14 := e14
      simp only [Act.eval, Array.getD_eq_getD_getElem?] at f14
      have f16 := e16
      simp only [Act.eval, Array.getD_eq_getD_getElem?] at f16
      refine wp_value (v := _) ?_ (hK _ _ rfl (grown_refl W _))
      simp only [execOp, e12]
      go_simp
      rw [str_ex]
    · intro a vs W hX hR he hf K hK
      rw [if_pos (wanted_none rfl)]
      have e17 : a.eval (.tmp 17) = str ((l.take L).drop S) := (he 5 17 (by kernel_rfl) rfl).trans (hR 5 (by kernel_rfl))
      refine wp_value (v := str ((l.take L).drop S)) ?_ (hK _ _ rfl (grown_refl W _))
      simp only [execOp, e17]
      try go_simp
      try (first | rfl | omega | (simp only [IntKind.wrap_i64, IntKind.wrap_u8, IntKind.wrap_u64, IntKind.wrap_u16, IntKind.wrap_u32]; omega) | (rw [Int.tmod_eq_emod_of_nonneg (by omega)]) | (rw [Int.tmod_eq_emod_of_nonneg (by omega)]; omega))
    · intro vs w4 hX4 hR
      have q0 := hR 0 (by decide)
      have q1 := hR 1 (by decide)
      have q2 := hR 2 (by decide)
      have q3 := hR 3 (by decide)
      have q4 := hR 4 (by decide)
      have q5 := hR 5 (by decide)
      have q6 := hR 6 (by decide)
      change vs 0 = str l at q0
      change vs 1 = .agg h4.cells.toArray at q1
      change vs 2 = .int .i64 (S : Int) at q2
      change vs 3 = .pointer (some ⟨w1.heap.size, 1, none⟩) at q3
      change vs 4 = .int .i64 (L : Int) at q4
      change vs 5 = str ((l.take L).drop S) at q5
      change vs 6 = str ((l.take L).drop S) at q6
      simp only [putAll, Act.put, List.setIfInBounds_toArray, List.set_cons_zero, List.set_cons_succ, q0, q1, q2, q3, q4, q5, q6]
      clear q0 q1 q2 q3 q4 q5 q6
      clear hR
      go_wp2
      go_ret
      exact ⟨rfl, bthen hB3 (bthen (below_drew _) (grow_below hX4))⟩
  · have hne : (er != 0) = true := by simpa using he
    rw [if_neg he]
    clear he
    go_enter Try.func67, Try.ntmps67
    go_wp2_with fail
    refine HP.out.mono ?_
    rintro e w1 ⟨rfl, hb1⟩
    go_wp2_with (first
    | (refine wpList_alloc_blk rfl 42 rfl H4.zero.cells zero4 ?_; intro w2 hbw2 hBw2 hsw2)
    | (refine wpList_store_all rfl 42 _ _ rfl w1.heap.size h4.cells rfl rfl 42 _ hbw2 (size4 _ HOK.out) (H4.cells_same _ _ HOK.out H4.zero_ok) (H4.one _) ?_; intro w3 hbw3 hgw3 hsw3; have hBw3 : Below w1.heap.size w1 w3 := bgrown hBw2 hgw3 (by omega) (by omega)))
    go_ret
    exact ⟨rfl, bthen hb1 hBw3⟩

/-- a checksum where a word was another one -/
def turnN (c o n : Nat) : Nat := 65535 - foldN (65535 - c + (65535 - o) + n)
theorem turnN_le (c o n : Nat) : turnN c o n ≤ 65535 := by unfold turnN; omega
theorem turnN_eq (c o n : Nat) (h1 : c ≤ 65535) (h2 : o ≤ 65535) : 65535 - foldN (65535 - (c : Int) + (65535 - (o : Int)) + (n : Int)).toNat = turnN c o n := by
  unfold turnN
  congr 2
  omega
/-- a packet with another time to live, ahead of its checksum -/
def ttlA (l : List UInt8) (t : Int) : List UInt8 := l.take 8 ++ ub t :: l.drop 9
/-- its checksum -/
def ttlC (l : List UInt8) (t : Int) : Nat := turnN (numF l 10 2) (numF l 8 2) (numF (ttlA l t) 8 2)
/-- a packet with another time to live -/
def ttl4 (l : List UInt8) (t : Int) : List UInt8 := if (par4 l).2 = 0 then (ttlA l t).take 10 ++ toBe 2 (ttlC l t) ++ (ttlA l t).drop 12 else []
theorem ttlA_length (l : List UInt8) (t : Int) (h : 20 ≤ l.length) : (ttlA l t).length = l.length := by
  unfold ttlA
  simp only [List.length_append, List.length_take, List.length_cons, List.length_drop]
  omega

theorem row_ints {e : TypeId} (w : World) (cs : Array Value) (xs : List Int) (n g : Nat) (h : cs.toList = xs.map (Value.int .i64)) (hn : xs.length = n) (hg : w.heap.size = g) : Row (w.alloc (.cells cs e)) (w.alloc (.cells cs e)).heap.size 1 (some ⟨g, 0, none⟩) n (xs.map (Value.int .i64)) := by
  subst hg
  have hsz : cs.size = n * 1 := by rw [← Array.length_toList, h]; simp [hn]
  have := Row.new (e := e) w cs hsz
  rw [h] at this
  rw [World.size_alloc]
  exact this
/-- a literal row of ints, of its own block, not older than base -/
def IntsR (base k : Nat) (xs : List Int) (v : Value) (W : World) : Prop := ∃ p, v = .slice (some ⟨p, 0, none⟩) k k ∧ base ≤ p ∧ Row W W.heap.size 1 (some ⟨p, 0, none⟩) k (xs.map (Value.int .i64))
theorem mono_ints (base k : Nat) (xs : List Int) : ∀ v A B, IntsR base k xs v A → World.grownBy A B none → IntsR base k xs v B := fun _ _ _ ⟨p, h, hp, hr⟩ hg => ⟨p, h, hp, (hr.below (grow_below hg)).more hg.size⟩
/-- bytes of the call's own, so many -/
def OwnB (base m : Nat) (l : List UInt8) (v : Value) (W : World) : Prop := ∃ A' c', v = .slice A' m c' ∧ Own W base 5 1 A' m c' (bv l)
theorem mono_ownB (base m : Nat) (l : List UInt8) : ∀ v A B, OwnB base m l v A → World.grownBy A B none → OwnB base m l v B := fun _ _ _ ⟨X, c, h, ho⟩ hg => ⟨X, c, h, ho.below (grow_below hg)⟩

theorem ttlA_num (l : List UInt8) (t : Int) (h0 : 0 ≤ t) (h1 : t ≤ 255) (u9 : UInt8) (hu : l[9]? = some u9) : numF (ttlA l t) 8 2 = (256 * t + (u9.toNat : Int)).toNat := by
  have hl : 9 < l.length := (List.getElem?_eq_some_iff.1 hu).1
  have e : ttlA l t = l.take 8 ++ [ub t, u9] ++ l.drop 10 := by
    unfold ttlA
    rw [List.drop_eq_getElem_cons hl]
    have : l[9] = u9 := by
      have := List.getElem?_eq_some_iff.1 hu
      exact this.2
    rw [this]
    simp
  rw [e, numF_mid _ _ _ 8 2 (by rw [List.length_take]; omega) rfl]
  simp only [be, List.foldl_cons, List.foldl_nil]
  have := ub_nat t h0 h1
  omega
theorem ttlA_cut (l : List UInt8) (t : Int) (u9 : UInt8) (hu : l[9]? = some u9) : (ttlA l t).take 10 = l.take 8 ++ [ub t, u9] ∧ (ttlA l t).drop 12 = l.drop 12 := by
  have hl : 9 < l.length := (List.getElem?_eq_some_iff.1 hu).1
  have e : ttlA l t = l.take 8 ++ [ub t, u9] ++ l.drop 10 := by
    unfold ttlA
    rw [List.drop_eq_getElem_cons hl]
    have : l[9] = u9 := by
      have := List.getElem?_eq_some_iff.1 hu
      exact this.2
    rw [this]
    simp
  have h10 : (l.take 8 ++ [ub t, u9]).length = 10 := by simp; omega
  refine ⟨by rw [e]; exact List.take_left' h10, ?_⟩
  rw [e, show (12 : Nat) = 10 + 2 from rfl, ← List.drop_drop, List.drop_left' h10, List.drop_drop]
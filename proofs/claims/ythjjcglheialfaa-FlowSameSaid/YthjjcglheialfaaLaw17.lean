/- The walk of layer 17 (flow): awake. No condition. -/
import Derived.Test.YthjjcglheialfaaFlowr
import Derived.Test.YthjjcglheialfaaPlain4
import Derived.Test.YthjjcglheialfaaFrz
namespace Go.Proofs.Ythjjcglheialfaa
open Go.RowKit
set_option linter.unusedVariables false
set_option maxRecDepth 20000
set_option linter.unusedSimpArgs false

def ex17 : H4 := ⟨0, 0, 0, false, false, 0, 9, 17, [10, 0, 0, 1], [0, 0, 0, 0], []⟩
def b17 : List UInt8 := [0, 53, 1, 0, 114, 101, 115, 116]
def no17 : List UInt8 := [110, 111, 110, 101]
def k17 : Ky := ⟨false, [10, 0, 0, 1, 0, 0, 0, 0, 0, 0, 0, 0, 0, 0, 0, 0], [0, 0, 0, 0, 0, 0, 0, 0, 0, 0, 0, 0, 0, 0, 0, 0], 17, 53, 256⟩
def e17 : Ent := ⟨16, 0, false, 0⟩
theorem ex17_fit : ex17.fit := ⟨⟨rfl, rfl⟩, by simp [ex17], by simp [ex17], by simp [ex17], by simp [ex17], by simp [ex17], by simp [ex17], by simp [ex17]⟩
theorem ex17_bad : ¬ ex17.bad := by simp [H4.bad, ex17]
theorem run_build17 (w : World) : (Instr.build 46 #[(6, .int .u8 9), (7, .int .u8 17), (8, .agg (bv [10, 0, 0, 1]).toArray)]).run Try.prog w = .ok (.agg ex17.cells.toArray) w := by kernel_rfl
theorem exec_build17 {w : World} {o : Oper} {a : Act} (x6 x7 x8 : Operand) (ho : o.op = .build 46 #[(6, x6), (7, x7), (8, x8)]) (h6 : a.eval x6 = .int .u8 9) (h7 : a.eval x7 = .int .u8 17) (h8 : a.eval x8 = .agg (bv [10, 0, 0, 1]).toArray) :
    (execOp a.eval o).run Try.prog w = .ok (.value (.agg ex17.cells.toArray)) w := by
  unfold execOp
  simp only [ho, List.map_toArray, List.map_cons, List.map_nil, h6, h7, h8, Sem.run_bind, run_build17, Result.andThen_ok]
  rfl
/-- a slice of entries -/
def EntR (l : List Ent) (v : Value) (W : World) : Prop := ∃ A n c, v = .slice A n c ∧ Row W W.heap.size 4 A n (evs l)
theorem mono_ent (N a b : Nat) (l : List Ent) : ∀ v A B, EntR l v A → FrX N a b A B → EntR l v B := fun _ _ _ ⟨X, n, c, h, ho⟩ hg => ⟨X, n, c, h, ho.frx hg⟩
theorem row_no (W : World) (sz : Nat) : Row W W.heap.size sz none 0 [] := ⟨by simp, fun hn => absurd hn (Nat.lt_irrefl 0)⟩

theorem of_b17 : ofK (pkt4 ex17 b17) = (k17, true) := by
  have hpar := par4_pkt ex17 ex17_fit ex17_bad b17 [] (by simp [ex17, b17])
  have hbod := body4_pkt ex17 ex17_fit ex17_bad b17 [] (by simp [ex17, b17])
  rw [List.append_nil] at hpar hbod
  unfold ofK whole4 key4F
  rw [hpar, hbod]
  rfl
theorem of_no17 : ofK no17 = (Ky.zero, false) := by kernel_rfl
theorem k17_fit : k17.fit := ⟨⟨rfl, rfl⟩, by simp [k17], by simp [k17], by simp [k17]⟩

set_option maxHeartbeats 4000000 in
theorem awake_any (w : World) : Calls Try.prog 7 #[] w fun e w' => e = .returned (.bool true) ∧ Below w.heap.size w w' := by
  have hput := put4_yes ex17 ex17_bad b17 (by simp [ex17, b17])
  have hln : (pkt4 ex17 b17).length = 28 := by rw [pkt4_length _ ex17_fit.ok]; simp [ex17, b17]
  have hof := of_b17
  obtain ⟨L, hL⟩ : ∃ L, L = pkt4 ex17 b17 := ⟨_, rfl⟩
  rw [← hL] at hput hln hof
  have HP := Lib.hid hput
  have HN := Lib.hid hln
  have HO := Lib.hid hof
  have HZ := Lib.hid of_no17
  have HKF := Lib.hid k17_fit
  have HEF := Lib.hid ex17_fit
  have HM1 : Hid (mixF [97] = 3826002220) := Lib.hid (by decide +kernel)
  have HLN : Hid ((bytesF k17).length = 14) := Lib.hid (by decide +kernel)
  have HMB : Hid (mixF (bytesF k17) = 1664577763) := Lib.hid (by decide +kernel)
  have HH0 : Hid (hashF k17 [] = 1664577763) := Lib.hid (by decide +kernel)
  have HH1 : Hid (hashF k17 [e17] = 723432017) := Lib.hid (by decide +kernel)
  clear hput hln hof hL
  go_enter Try.func7, Try.ntmps7
  go_wp2_with (first
    | (refine wpList_value rfl (exec_buildA4 _ _ _ _ rfl 10 0 0 1 rfl rfl rfl rfl) ?_)
    | (refine wpList_value rfl (exec_build17 _ _ _ rfl rfl rfl rfl) ?_))
  refine (rput4_any ex17 HEF.out b17 w (by simp [b17])).mono ?_
  rintro e w1 ⟨rfl, hb1⟩
  rw [show (put4 ex17 b17).1 = L by rw [HP.out], show (put4 ex17 b17).2 = 0 by rw [HP.out]]
  have HW := Lib.hid hb1
  clear hb1
  go_wp2_with (refine wpList_toBytes rfl _ 9 22 5 rfl Try.underlying22 Try.underlying5 Try.underlying9 L rfl ?_ (by rw [HN.out]; decide); intro A2 c2 w2 hr2 hb2 hc2 hm2)
  rw [HN.out] at hr2 hc2 ⊢
  refine (of17_any A2 28 c2 L w2 hr2 hc2 hm2 (by omega)).mono ?_
  rintro e w3 ⟨rfl, hb3⟩
  rw [HO.out]
  replace HW := Lib.hid (bthen (bthen HW.out hb2) hb3)
  have kc := fun (w : World) (C : Array Value) (n c g : Nat) (hg : w.heap.size = g) => run_const (P := Try.prog) w 22 5 C n c Try.underlying22 Try.underlying5 g hg
  clear hb2 hb3 hr2 hc2 hm2
  go_wp2_with (first
    | (refine wpList_alloc_blk rfl 26 rfl Ky.zero.cells zeroK ?_; intro w4 hbw4 hBw4 hsw4)
    | (refine wpList_store_all rfl 26 _ _ rfl w3.heap.size k17.cells rfl rfl 26 _ hbw4 (sizeK _ HKF.out.ok) (Ky.cells_same _ _ HKF.out.ok Ky.zero_ok) (Ky.one _) ?_; intro w5 hbw5 hgw5 hsw5; have hBw5 : Below w3.heap.size w3 w5 := bgrown hBw4 hgw5 (by omega) (by omega)))
  have HB5 := Lib.hid hbw5
  replace HW := Lib.hid (bthen HW.out hBw5)
  have hs5 : w5.heap.size = w3.heap.size + 1 := hsw5.trans hsw4
  clear hbw4 hBw4 hsw4 hbw5 hgw5 hsw5 hBw5
  refine (of17_any _ 4 4 no17 _ (by rw [World.size_alloc, ← hs5]; exact row_litF w5 #[.int .u8 110, .int .u8 111, .int .u8 110, .int .u8 101] _ no17 4 rfl rfl) (by omega) (by simp [maxLen]) (by omega)).mono ?_
  rintro e w6 ⟨rfl, hb6⟩
  rw [HZ.out]
  replace HW := Lib.hid (bthen HW.out (ballocd hb6))
  have HB6 := Lib.hid (HB5.out.on (ballocd hb6))
  clear hb6 hs5
  go_wp2_with (first
    | (refine wpList_alloc_blk rfl 26 rfl Ky.zero.cells zeroK ?_; intro w7 hbw7 hBw7 hsw7)
    | (refine wpList_store_all rfl 26 _ _ rfl w6.heap.size Ky.zero.cells rfl rfl 26 _ hbw7 (sizeK _ Ky.zero_ok) (Ky.cells_same _ _ Ky.zero_ok Ky.zero_ok) (Ky.one _) ?_; intro w9 hbw9 hgw9 hsw9; have hBw9 : Below w6.heap.size w6 w9 := bgrown hBw7 hgw9 (by omega) (by omega)))
  replace HW := Lib.hid (bthen HW.out hBw9)
  have HB := Lib.hid (HB6.out.on hBw9)
  obtain ⟨gk, hgk⟩ : ∃ gk, gk = w3.heap.size := ⟨_, rfl⟩
  rw [← hgk] at HB ⊢
  clear hbw7 hBw7 hsw7 hbw9 hgw9 hsw9 hBw9 HB6 HB5 hgk
  refine wp_region_rel (FrX w9.heap.size 0 0) (FrX.refl w9.heap.size 0 0) (fun A B C h k => h.trans k) (relAt (List.cons (fun v _ => v = .int .u32 2166136261) (List.cons (fun v _ => v = .bool true) (List.cons (fun v _ => v = .bool true) (List.cons (LitR w9.heap.size [97]) (List.cons (BytR [97]) (List.cons (fun v _ => v = .int .u32 3826002220) (List.cons (fun v _ => v = .bool true) (List.cons (fun v _ => v = .bool true) (List.cons (fun v _ => v = .bool true) (List.cons (fun v _ => v = .pointer (some ⟨gk, 34, none⟩)) (List.cons (fun v _ => v = .int .i64 53) (List.cons (fun v _ => v = .bool true) (List.cons (fun v _ => v = .bool true) (List.cons (fun v _ => v = .bool true) (List.cons (fun v _ => v = .pointer (some ⟨gk, 35, none⟩)) (List.cons (fun v _ => v = .int .i64 256) (List.cons (fun v _ => v = .bool true) (List.cons (fun v _ => v = .bool true) (List.cons (fun v _ => v = .bool true) (List.cons (fun v _ => v = .bool true) (List.cons (fun v _ => v = .bool true) (List.cons (fun v _ => v = .bool true) (List.cons (fun v _ => v = .bool false) (List.cons (fun v _ => v = .bool true) (List.cons (fun v _ => v = .bool true) (List.cons (fun v _ => v = .bool true) (List.cons (fun v _ => v = .agg k17.cells.toArray) (List.cons (BytR (bytesF k17)) (List.cons (fun v _ => v = .int .i64 14) (List.cons (fun v _ => v = .bool true) (List.cons (fun v _ => v = .bool true) (List.cons (fun v _ => v = .bool true) (List.cons (fun v _ => v = .agg k17.cells.toArray) (List.cons (fun v _ => v = .int .u32 1664577763) (List.cons (fun v _ => v = .agg k17.cells.toArray) (List.cons (BytR (bytesF k17)) (List.cons (fun v _ => v = .int .u32 1664577763) (List.cons (fun v _ => v = .bool true) (List.cons (fun v _ => v = .bool true) (List.cons (fun v _ => v = .bool true) (List.cons (fun v _ => v = .agg k17.cells.toArray) (List.cons (fun v _ => v = .agg #[.int .i64 16, .int .u8 0, .bool false, .int .u8 0]) (List.cons (EntR [e17]) (List.cons (fun v _ => v = .int .u32 723432017) (List.cons (fun v _ => v = .agg k17.cells.toArray) (List.cons (fun v _ => v = .int .u32 1664577763) (List.cons (fun v _ => v = .bool true) (List.cons (fun v _ => v = .bool true) (List.cons (fun v _ => v = .bool true) ([]))))))))))))))))))))))))))))))))))))))))))))))))))) (MonoL.at_ (.cons (mono_val _) (.cons (mono_val _) (.cons (mono_val _) (.cons (frx_lit _ _ _ _) (.cons (frx_byt _ _ _ _) (.cons (mono_val _) (.cons (mono_val _) (.cons (mono_val _) (.cons (mono_val _) (.cons (mono_val _) (.cons (mono_val _) (.cons (mono_val _) (.cons (mono_val _) (.cons (mono_val _) (.cons (mono_val _) (.cons (mono_val _) (.cons (mono_val _) (.cons (mono_val _) (.cons (mono_val _) (.cons (mono_val _) (.cons (mono_val _) (.cons (mono_val _) (.cons (mono_val _) (.cons (mono_val _) (.cons (mono_val _) (.cons (mono_val _) (.cons (mono_val _) (.cons (frx_byt _ _ _ _) (.cons (mono_val _) (.cons (mono_val _) (.cons (mono_val _) (.cons (mono_val _) (.cons (mono_val _) (.cons (mono_val _) (.cons (mono_val _) (.cons (frx_byt _ _ _ _) (.cons (mono_val _) (.cons (mono_val _) (.cons (mono_val _) (.cons (mono_val _) (.cons (mono_val _) (.cons (mono_val _) (.cons (mono_ent _ _ _ _) (.cons (mono_val _) (.cons (mono_val _) (.cons (mono_val _) (.cons (mono_val _) (.cons (mono_val _) (.cons (mono_val _) .nil)))))))))))))))))))))))))))))))))))))))))))))))))) (by kernel_rfl) (by kernel_rfl) ⟨?_, ?_, ?_, ?_, ?_, ?_, ?_, ?_, ?_, ?_, ?_, ?_, ?_, ?_, ?_, ?_, ?_, ?_, ?_, ?_, ?_, ?_, ?_, ?_, ?_, ?_, ?_, ?_, ?_, ?_, ?_, ?_, ?_, ?_, ?_, ?_, ?_, ?_, ?_, ?_, ?_, ?_, ?_, ?_, ?_, ?_, ?_, ?_, ?_, trivial⟩ ?_
  · intro a vs W hX hR he hf K hK
    rw [if_pos (wanted_none rfl)]
    refine wp_enter (f := 13) (args := #[.slice none 0 0]) (by simp only [execOp]; go_simp) ((mix_any none 0 0 [] W (row_no W 1) (by omega)).mono ?_)
    rintro e w' ⟨rfl, hb⟩
    subst hb
    exact ⟨_, rfl, hK _ _ rfl (FrX.refl _ _ _ W)⟩
  · intro a vs W hX hR he hf K hK
    rw [if_pos (wanted_none rfl)]
    have e25 : a.eval (.tmp 25) = .int .u32 2166136261 := (he 0 25 (by kernel_rfl) rfl).trans (hR 0 (by kernel_rfl))
    refine wp_value (v := .bool true) ?_ (hK _ _ rfl (FrX.refl _ _ _ W))
    simp only [execOp, e25]
    try go_simp
    try (first | rfl | omega | (simp only [IntKind.wrap_i64, IntKind.wrap_u8, IntKind.wrap_u64, IntKind.wrap_u16, IntKind.wrap_u32]; omega) | (rw [Int.tmod_eq_emod_of_nonneg (by omega)]) | (rw [Int.tmod_eq_emod_of_nonneg (by omega)]; omega))
  · intro a vs W hX hR he hf K hK
    rw [if_pos (wanted_none rfl)]
    have e26 : a.eval (.tmp 26) = .bool true := (he 1 26 (by kernel_rfl) rfl).trans (hR 1 (by kernel_rfl))
    refine wp_value (v := .bool true) ?_ (hK _ _ rfl (FrX.refl _ _ _ W))
    simp only [execOp, e26]
    try go_simp
    try (first | rfl | omega | (simp only [IntKind.wrap_i64, IntKind.wrap_u8, IntKind.wrap_u64, IntKind.wrap_u16, IntKind.wrap_u32]; omega) | (rw [Int.tmod_eq_emod_of_nonneg (by omega)]) | (rw [Int.tmod_eq_emod_of_nonneg (by omega)]; omega))
  · intro a vs W hX hR he hf K hK
    have e27 : a.eval (.tmp 27) = .bool true := (he 2 27 (by kernel_rfl) rfl).trans (hR 2 (by kernel_rfl))
    refine Eq.mpr (if_pos (by exact (wanted_some rfl rfl e27).trans rfl)) ?_
    have hN : w9.heap.size ≤ W.heap.size := hX.below.size
    refine wp_value (v := .slice (some ⟨W.heap.size, 0, none⟩) 1 1) (w' := W.alloc (.cells #[.int .u8 97] 5)) ?_ (hK _ _ (lit_new W #[.int .u8 97] [97] rfl hN) (frx_alloc _ _ _ _ _))
    simp only [execOp]
    go_simp
  · intro a vs W hX hR he hf K hK
    have e27 : a.eval (.tmp 27) = .bool true := (he 2 27 (by kernel_rfl) rfl).trans (hR 2 (by kernel_rfl))
    refine Eq.mpr (if_pos (by exact (wanted_some rfl rfl e27).trans rfl)) ?_
    have e28 := he 3 28 (by kernel_rfl) rfl
    have p28 := hR 3 (by kernel_rfl)
    change (LitR w9.heap.size [97]) (vs 3) W at p28
    obtain ⟨g, hv, hN, hr, hg, hs⟩ := p28
    rw [hv] at e28
    refine wp_value (v := .slice (some ⟨g, 0, none⟩) 1 1) (w' := W.freeze ⟨g, 1, none⟩ 1) ?_ (hK _ _ ⟨_, _, _, rfl, hr.frx (FrX.freeze w9.heap.size 0 0 _ _ _ hN), rfl⟩ (FrX.freeze _ _ _ _ _ _ hN))
    unfold execOp
    simp only [e28, Sem.run_bind, List.length_cons, List.length_nil, Nat.zero_add, run_conv_lit g 1 1 1 hs, Result.andThen_ok]
    rfl
  · intro a vs W hX hR he hf K hK
    have e27 : a.eval (.tmp 27) = .bool true := (he 2 27 (by kernel_rfl) rfl).trans (hR 2 (by kernel_rfl))
    refine Eq.mpr (if_pos (by exact (wanted_some rfl rfl e27).trans rfl)) ?_
    have e29 := he 4 29 (by kernel_rfl) rfl
    have p29 := hR 4 (by kernel_rfl)
    change (BytR [97]) (vs 4) W at p29
    obtain ⟨A, n, c, hv, ho, hn⟩ := p29
    obtain rfl : n = 1 := hn
    rw [hv] at e29
    refine wp_enter (f := 13) (args := #[.slice A 1 c]) (by simp only [execOp, e29]; go_simp; simpa [Act.eval] using e29) ((mix_any A 1 c [97] W ho (by omega)).mono ?_)
    rintro e w' ⟨rfl, hb⟩
    subst hb
    exact ⟨_, rfl, hK _ _ (by rw [HM1.out]; rfl) (FrX.refl _ _ _ W)⟩
  · intro a vs W hX hR he hf K hK
    have e27 : a.eval (.tmp 27) = .bool true := (he 2 27 (by kernel_rfl) rfl).trans (hR 2 (by kernel_rfl))
    refine Eq.mpr (if_pos (by exact (wanted_some rfl rfl e27).trans rfl)) ?_
    have e30 : a.eval (.tmp 30) = .int .u32 3826002220 := (he 5 30 (by kernel_rfl) rfl).trans (hR 5 (by kernel_rfl))
    refine wp_value (v := .bool true) ?_ (hK _ _ rfl (FrX.refl _ _ _ W))
    simp only [execOp, e30]
    try go_simp
    try (first | rfl | omega | (simp only [IntKind.wrap_i64, IntKind.wrap_u8, IntKind.wrap_u64, IntKind.wrap_u16, IntKind.wrap_u32]; omega) | (rw [Int.tmod_eq_emod_of_nonneg (by omega)]) | (rw [Int.tmod_eq_emod_of_nonneg (by omega)]; omega))
  · intro a vs W hX hR he hf K hK
    rw [if_pos (wanted_none rfl)]
    have e27 : a.eval (.tmp 27) = .bool true := (he 2 27 (by kernel_rfl) rfl).trans (hR 2 (by kernel_rfl))
    have e31 : a.eval (.tmp 31) = .bool true := (he 6 31 (by kernel_rfl) rfl).trans (hR 6 (by kernel_rfl))
    refine wp_value (v := .bool true) ?_ (hK _ _ rfl (FrX.refl _ _ _ W))
    simp only [execOp, e27, e31]
    try go_simp
    try (first | rfl | omega | (simp only [IntKind.wrap_i64, IntKind.wrap_u8, IntKind.wrap_u64, IntKind.wrap_u16, IntKind.wrap_u32]; omega) | (rw [Int.tmod_eq_emod_of_nonneg (by omega)]) | (rw [Int.tmod_eq_emod_of_nonneg (by omega)]; omega))
  · intro a vs W hX hR he hf K hK
    rw [if_pos (wanted_none rfl)]
    have e32 : a.eval (.tmp 32) = .bool true := (he 7 32 (by kernel_rfl) rfl).trans (hR 7 (by kernel_rfl))
    refine wp_value (v := .bool true) ?_ (hK _ _ rfl (FrX.refl _ _ _ W))
    simp only [execOp, e32]
    try go_simp
    try (first | rfl | omega | (simp only [IntKind.wrap_i64, IntKind.wrap_u8, IntKind.wrap_u64, IntKind.wrap_u16, IntKind.wrap_u32]; omega) | (rw [Int.tmod_eq_emod_of_nonneg (by omega)]) | (rw [Int.tmod_eq_emod_of_nonneg (by omega)]; omega))
  · intro a vs W hX hR he hf K hK
    have e33 : a.eval (.tmp 33) = .bool true := (he 8 33 (by kernel_rfl) rfl).trans (hR 8 (by kernel_rfl))
    refine Eq.mpr (if_pos (by exact (wanted_some rfl rfl e33).trans rfl)) ?_
    have e3 : a.eval (.tmp 3) = .pointer (some ⟨gk, 0, none⟩) := hf 3 (by kernel_rfl)
    refine wp_value (v := .pointer (some ⟨gk, 34, none⟩)) ?_ (hK _ _ rfl (FrX.refl _ _ _ W))
    simp only [execOp, e3]
    try go_simp
    try (first | rfl | omega | (simp only [IntKind.wrap_i64, IntKind.wrap_u8, IntKind.wrap_u64, IntKind.wrap_u16, IntKind.wrap_u32]; omega) | (rw [Int.tmod_eq_emod_of_nonneg (by omega)]) | (rw [Int.tmod_eq_emod_of_nonneg (by omega)]; omega))
  · intro a vs W hX hR he hf K hK
    have e33 : a.eval (.tmp 33) = .bool true := (he 8 33 (by kernel_rfl) rfl).trans (hR 8 (by kernel_rfl))
    refine Eq.mpr (if_pos (by exact (wanted_some rfl rfl e33).trans rfl)) ?_
    have e34 : a.eval (.tmp 34) = .pointer (some ⟨gk, 34, none⟩) := (he 9 34 (by kernel_rfl) rfl).trans (hR 9 (by kernel_rfl))
    have hbW := bthen (below_drew _) (hX.base rfl)
    have hc : W.cell? ⟨gk, 34, none⟩ = some (.int .i64 53) := (HB.out.on hbW).cell 34
    refine wp_value (v := _) ?_ (hK _ _ rfl (FrX.refl _ _ _ W))
    simp only [execOp, e34]
    try go_simp
  · intro a vs W hX hR he hf K hK
    have e33 : a.eval (.tmp 33) = .bool true := (he 8 33 (by kernel_rfl) rfl).trans (hR 8 (by kernel_rfl))
    refine Eq.mpr (if_pos (by exact (wanted_some rfl rfl e33).trans rfl)) ?_
    have e35 : a.eval (.tmp 35) = .int .i64 53 := (he 10 35 (by kernel_rfl) rfl).trans (hR 10 (by kernel_rfl))
    refine wp_value (v := .bool true) ?_ (hK _ _ rfl (FrX.refl _ _ _ W))
    simp only [execOp, e35]
    try go_simp
    try (first | rfl | omega | (simp only [IntKind.wrap_i64, IntKind.wrap_u8, IntKind.wrap_u64, IntKind.wrap_u16, IntKind.wrap_u32]; omega) | (rw [Int.tmod_eq_emod_of_nonneg (by omega)]) | (rw [Int.tmod_eq_emod_of_nonneg (by omega)]; omega))
  · intro a vs W hX hR he hf K hK
    rw [if_pos (wanted_none rfl)]
    have e33 : a.eval (.tmp 33) = .bool true := (he 8 33 (by kernel_rfl) rfl).trans (hR 8 (by kernel_rfl))
    have e36 : a.eval (.tmp 36) = .bool true := (he 11 36 (by kernel_rfl) rfl).trans (hR 11 (by kernel_rfl))
    refine wp_value (v := .bool true) ?_ (hK _ _ rfl (FrX.refl _ _ _ W))
    simp only [execOp, e33, e36]
    try go_simp
    try (first | rfl | omega | (simp only [IntKind.wrap_i64, IntKind.wrap_u8, IntKind.wrap_u64, IntKind.wrap_u16, IntKind.wrap_u32]; omega) | (rw [Int.tmod_eq_emod_of_nonneg (by omega)]) | (rw [Int.tmod_eq_emod_of_nonneg (by omega)]; omega))
  · intro a vs W hX hR he hf K hK
    rw [if_pos (wanted_none rfl)]
    have e37 : a.eval (.tmp 37) = .bool true := (he 12 37 (by kernel_rfl) rfl).trans (hR 12 (by kernel_rfl))
    refine wp_value (v := .bool true) ?_ (hK _ _ rfl (FrX.refl _ _ _ W))
    simp only [execOp, e37]
    try go_simp
    try (first | rfl | omega | (simp only [IntKind.wrap_i64, IntKind.wrap_u8, IntKind.wrap_u64, IntKind.wrap_u16, IntKind.wrap_u32]; omega) | (rw [Int.tmod_eq_emod_of_nonneg (by omega)]) | (rw [Int.tmod_eq_emod_of_nonneg (by omega)]; omega))
  · intro a vs W hX hR he hf K hK
    have e38 : a.eval (.tmp 38) = .bool true := (he 13 38 (by kernel_rfl) rfl).trans (hR 13 (by kernel_rfl))
    refine Eq.mpr (if_pos (by exact (wanted_some rfl rfl e38).trans rfl)) ?_
    have e3 : a.eval (.tmp 3) = .pointer (some ⟨gk, 0, none⟩) := hf 3 (by kernel_rfl)
    refine wp_value (v := .pointer (some ⟨gk, 35, none⟩)) ?_ (hK _ _ rfl (FrX.refl _ _ _ W))
    simp only [execOp, e3]
    try go_simp
    try (first | rfl | omega | (simp only [IntKind.wrap_i64, IntKind.wrap_u8, IntKind.wrap_u64, IntKind.wrap_u16, IntKind.wrap_u32]; omega) | (rw [Int.tmod_eq_emod_of_nonneg (by omega)]) | (rw [Int.tmod_eq_emod_of_nonneg (by omega)]; omega))
  · intro a vs W hX hR he hf K hK
    have e38 : a.eval (.tmp 38) = .bool true := (he 13 38 (by kernel_rfl) rfl).trans (hR 13 (by kernel_rfl))
    refine Eq.mpr (if_pos (by exact (wanted_some rfl rfl e38).trans rfl)) ?_
    have e39 : a.eval (.tmp 39) = .pointer (some ⟨gk, 35, none⟩) := (he 14 39 (by kernel_rfl) rfl).trans (hR 14 (by kernel_rfl))
    have hbW := bthen (below_drew _) (hX.base rfl)
    have hc : W.cell? ⟨gk, 35, none⟩ = some (.int .i64 256) := (HB.out.on hbW).cell 35
    refine wp_value (v := _) ?_ (hK _ _ rfl (FrX.refl _ _ _ W))
    simp only [execOp, e39]
    try go_simp
  · intro a vs W hX hR he hf K hK
    have e38 : a.eval (.tmp 38) = .bool true := (he 13 38 (by kernel_rfl) rfl).trans (hR 13 (by kernel_rfl))
    refine Eq.mpr (if_pos (by exact (wanted_some rfl rfl e38).trans rfl)) ?_
    have e40 : a.eval (.tmp 40) = .int .i64 256 := (he 15 40 (by kernel_rfl) rfl).trans (hR 15 (by kernel_rfl))
    refine wp_value (v := .bool true) ?_ (hK _ _ rfl (FrX.refl _ _ _ W))
    simp only [execOp, e40]
    try go_simp
    try (first | rfl | omega | (simp only [IntKind.wrap_i64, IntKind.wrap_u8, IntKind.wrap_u64, IntKind.wrap_u16, IntKind.wrap_u32]; omega) | (rw [Int.tmod_eq_emod_of_nonneg (by omega)]) | (rw [Int.tmod_eq_emod_of_nonneg (by omega)]; omega))
  · intro a vs W hX hR he hf K hK
    rw [if_pos (wanted_none rfl)]
    have e38 : a.eval (.tmp 38) = .bool true := (he 13 38 (by kernel_rfl) rfl).trans (hR 13 (by kernel_rfl))
    have e41 : a.eval (.tmp 41) = .bool true := (he 16 41 (by kernel_rfl) rfl).trans (hR 16 (by kernel_rfl))
    refine wp_value (v := .bool true) ?_ (hK _ _ rfl (FrX.refl _ _ _ W))
    simp only [execOp, e38, e41]
    try go_simp
    try (first | rfl | omega | (simp only [IntKind.wrap_i64, IntKind.wrap_u8, IntKind.wrap_u64, IntKind.wrap_u16, IntKind.wrap_u32]; omega) | (rw [Int.tmod_eq_emod_of_nonneg (by omega)]) | (rw [Int.tmod_eq_emod_of_nonneg (by omega)]; omega))
  · intro a vs W hX hR he hf K hK
    rw [if_pos (wanted_none rfl)]
    have e42 : a.eval (.tmp 42) = .bool true := (he 17 42 (by kernel_rfl) rfl).trans (hR 17 (by kernel_rfl))
    refine wp_value (v := .bool true) ?_ (hK _ _ rfl (FrX.refl _ _ _ W))
    simp only [execOp, e42]
    try go_simp
    try (first | rfl | omega | (simp only [IntKind.wrap_i64, IntKind.wrap_u8, IntKind.wrap_u64, IntKind.wrap_u16, IntKind.wrap_u32]; omega) | (rw [Int.tmod_eq_emod_of_nonneg (by omega)]) | (rw [Int.tmod_eq_emod_of_nonneg (by omega)]; omega))
  · intro a vs W hX hR he hf K hK
    have e43 : a.eval (.tmp 43) = .bool true := (he 18 43 (by kernel_rfl) rfl).trans (hR 18 (by kernel_rfl))
    refine Eq.mpr (if_pos (by exact (wanted_some rfl rfl e43).trans rfl)) ?_
    have e4 : a.eval (.tmp 4) = .bool true := hf 4 (by kernel_rfl)
    refine wp_value (v := .bool true) ?_ (hK _ _ rfl (FrX.refl _ _ _ W))
    simp only [execOp, e4]
    try go_simp
    try (first | rfl | omega | (simp only [IntKind.wrap_i64, IntKind.wrap_u8, IntKind.wrap_u64, IntKind.wrap_u16, IntKind.wrap_u32]; omega) | (rw [Int.tmod_eq_emod_of_nonneg (by omega)]) | (rw [Int.tmod_eq_emod_of_nonneg (by omega)]; omega))
  · intro a vs W hX hR he hf K hK
    rw [if_pos (wanted_none rfl)]
    have e43 : a.eval (.tmp 43) = .bool true := (he 18 43 (by kernel_rfl) rfl).trans (hR 18 (by kernel_rfl))
    have e44 : a.eval (.tmp 44) = .bool true := (he 19 44 (by kernel_rfl) rfl).trans (hR 19 (by kernel_rfl))
    refine wp_value (v := .bool true) ?_ (hK _ _ rfl (FrX.refl _ _ _ W))
    simp only [execOp, e43, e44]
    try go_simp
    try (first | rfl | omega | (simp only [IntKind.wrap_i64, IntKind.wrap_u8, IntKind.wrap_u64, IntKind.wrap_u16, IntKind.wrap_u32]; omega) | (rw [Int.tmod_eq_emod_of_nonneg (by omega)]) | (rw [Int.tmod_eq_emod_of_nonneg (by omega)]; omega))
  · intro a vs W hX hR he hf K hK
    rw [if_pos (wanted_none rfl)]
    have e45 : a.eval (.tmp 45) = .bool true := (he 20 45 (by kernel_rfl) rfl).trans (hR 20 (by kernel_rfl))
    refine wp_value (v := .bool true) ?_ (hK _ _ rfl (FrX.refl _ _ _ W))
    simp only [execOp, e45]
    try go_simp
    try (first | rfl | omega | (simp only [IntKind.wrap_i64, IntKind.wrap_u8, IntKind.wrap_u64, IntKind.wrap_u16, IntKind.wrap_u32]; omega) | (rw [Int.tmod_eq_emod_of_nonneg (by omega)]) | (rw [Int.tmod_eq_emod_of_nonneg (by omega)]; omega))
  · intro a vs W hX hR he hf K hK
    have e46 : a.eval (.tmp 46) = .bool true := (he 21 46 (by kernel_rfl) rfl).trans (hR 21 (by kernel_rfl))
    refine Eq.mpr (if_pos (by exact (wanted_some rfl rfl e46).trans rfl)) ?_
    have e6 : a.eval (.tmp 6) = .bool false := hf 6 (by kernel_rfl)
    refine wp_value (v := .bool false) ?_ (hK _ _ rfl (FrX.refl _ _ _ W))
    simp only [execOp, e6]
    try go_simp
    try (first | rfl | omega | (simp only [IntKind.wrap_i64, IntKind.wrap_u8, IntKind.wrap_u64, IntKind.wrap_u16, IntKind.wrap_u32]; omega) | (rw [Int.tmod_eq_emod_of_nonneg (by omega)]) | (rw [Int.tmod_eq_emod_of_nonneg (by omega)]; omega))
  · intro a vs W hX hR he hf K hK
    have e46 : a.eval (.tmp 46) = .bool true := (he 21 46 (by kernel_rfl) rfl).trans (hR 21 (by kernel_rfl))
    refine Eq.mpr (if_pos (by exact (wanted_some rfl rfl e46).trans rfl)) ?_
    have e47 : a.eval (.tmp 47) = .bool false := (he 22 47 (by kernel_rfl) rfl).trans (hR 22 (by kernel_rfl))
    refine wp_value (v := .bool true) ?_ (hK _ _ rfl (FrX.refl _ _ _ W))
    simp only [execOp, e47]
    try go_simp
    try (first | rfl | omega | (simp only [IntKind.wrap_i64, IntKind.wrap_u8, IntKind.wrap_u64, IntKind.wrap_u16, IntKind.wrap_u32]; omega) | (rw [Int.tmod_eq_emod_of_nonneg (by omega)]) | (rw [Int.tmod_eq_emod_of_nonneg (by omega)]; omega))
  · intro a vs W hX hR he hf K hK
    rw [if_pos (wanted_none rfl)]
    have e46 : a.eval (.tmp 46) = .bool true := (he 21 46 (by kernel_rfl) rfl).trans (hR 21 (by kernel_rfl))
    have e48 : a.eval (.tmp 48) = .bool true := (he 23 48 (by kernel_rfl) rfl).trans (hR 23 (by kernel_rfl))
    refine wp_value (v := .bool true) ?_ (hK _ _ rfl (FrX.refl _ _ _ W))
    simp only [execOp, e46, e48]
    try go_simp
    try (first | rfl | omega | (simp only [IntKind.wrap_i64, IntKind.wrap_u8, IntKind.wrap_u64, IntKind.wrap_u16, IntKind.wrap_u32]; omega) | (rw [Int.tmod_eq_emod_of_nonneg (by omega)]) | (rw [Int.tmod_eq_emod_of_nonneg (by omega)]; omega))
  · intro a vs W hX hR he hf K hK
    rw [if_pos (wanted_none rfl)]
    have e49 : a.eval (.tmp 49) = .bool true := (he 24 49 (by kernel_rfl) rfl).trans (hR 24 (by kernel_rfl))
    refine wp_value (v := .bool true) ?_ (hK _ _ rfl (FrX.refl _ _ _ W))
    simp only [execOp, e49]
    try go_simp
    try (first | rfl | omega | (simp only [IntKind.wrap_i64, IntKind.wrap_u8, IntKind.wrap_u64, IntKind.wrap_u16, IntKind.wrap_u32]; omega) | (rw [Int.tmod_eq_emod_of_nonneg (by omega)]) | (rw [Int.tmod_eq_emod_of_nonneg (by omega)]; omega))
  · intro a vs W hX hR he hf K hK
    have e50 : a.eval (.tmp 50) = .bool true := (he 25 50 (by kernel_rfl) rfl).trans (hR 25 (by kernel_rfl))
    refine Eq.mpr (if_pos (by exact (wanted_some rfl rfl e50).trans rfl)) ?_
    have e3 : a.eval (.tmp 3) = .pointer (some ⟨gk, 0, none⟩) := hf 3 (by kernel_rfl)
    have hbW := bthen (below_drew _) (hX.base rfl)
    exact wp_value (exec_load 26 _ rfl gk e3 26 k17.cells _ (HB.out.on hbW) Try.underlying26 rfl (sizeK _ HKF.out.ok)) (hK _ _ rfl (FrX.refl _ _ _ W))
  · intro a vs W hX hR he hf K hK
    have e50 : a.eval (.tmp 50) = .bool true := (he 25 50 (by kernel_rfl) rfl).trans (hR 25 (by kernel_rfl))
    refine Eq.mpr (if_pos (by exact (wanted_some rfl rfl e50).trans rfl)) ?_
    have e51 : a.eval (.tmp 51) = .agg k17.cells.toArray := (he 26 51 (by kernel_rfl) rfl).trans (hR 26 (by kernel_rfl))
    refine wp_enter (f := 11) (args := #[.agg k17.cells.toArray]) (by simp only [execOp, e51]; go_simp; simpa [Act.eval] using e51) ((bytes17_any k17 HKF.out W).mono ?_)
    rintro e w' ⟨A, n, c, rfl, ho, hb⟩
    exact ⟨_, rfl, hK _ _ ⟨A, n, c, rfl, ho.row, by have := ho.len; simpa [bv_length] using this.symm⟩ (FrX.of hb)⟩
  · intro a vs W hX hR he hf K hK
    have e50 : a.eval (.tmp 50) = .bool true := (he 25 50 (by kernel_rfl) rfl).trans (hR 25 (by kernel_rfl))
    refine Eq.mpr (if_pos (by exact (wanted_some rfl rfl e50).trans rfl)) ?_
    have e52 := he 27 52 (by kernel_rfl) rfl
    have p52 := hR 27 (by kernel_rfl)
    change (BytR (bytesF k17)) (vs 27) W at p52
    have f52 := e52
    simp only [Act.eval, Array.getD_eq_getD_getElem?] at f52
    obtain ⟨A, n, c, hv, ho, hn⟩ := p52
    rw [hv] at e52
    rw [HLN.out] at hn
    subst hn
    refine wp_value (v := .int .i64 14) ?_ (hK _ _ rfl (FrX.refl _ _ _ W))
    simp only [execOp, e52]
    try go_simp
  · intro a vs W hX hR he hf K hK
    have e50 : a.eval (.tmp 50) = .bool true := (he 25 50 (by kernel_rfl) rfl).trans (hR 25 (by kernel_rfl))
    refine Eq.mpr (if_pos (by exact (wanted_some rfl rfl e50).trans rfl)) ?_
    have e53 : a.eval (.tmp 53) = .int .i64 14 := (he 28 53 (by kernel_rfl) rfl).trans (hR 28 (by kernel_rfl))
    refine wp_value (v := .bool true) ?_ (hK _ _ rfl (FrX.refl _ _ _ W))
    simp only [execOp, e53]
    try go_simp
    try (first | rfl | omega | (simp only [IntKind.wrap_i64, IntKind.wrap_u8, IntKind.wrap_u64, IntKind.wrap_u16, IntKind.wrap_u32]; omega) | (rw [Int.tmod_eq_emod_of_nonneg (by omega)]) | (rw [Int.tmod_eq_emod_of_nonneg (by omega)]; omega))
  · intro a vs W hX hR he hf K hK
    rw [if_pos (wanted_none rfl)]
    have e50 : a.eval (.tmp 50) = .bool true := (he 25 50 (by kernel_rfl) rfl).trans (hR 25 (by kernel_rfl))
    have e54 : a.eval (.tmp 54) = .bool true := (he 29 54 (by kernel_rfl) rfl).trans (hR 29 (by kernel_rfl))
    refine wp_value (v := .bool true) ?_ (hK _ _ rfl (FrX.refl _ _ _ W))
    simp only [execOp, e50, e54]
    try go_simp
    try (first | rfl | omega | (simp only [IntKind.wrap_i64, IntKind.wrap_u8, IntKind.wrap_u64, IntKind.wrap_u16, IntKind.wrap_u32]; omega) | (rw [Int.tmod_eq_emod_of_nonneg (by omega)]) | (rw [Int.tmod_eq_emod_of_nonneg (by omega)]; omega))
  · intro a vs W hX hR he hf K hK
    rw [if_pos (wanted_none rfl)]
    have e55 : a.eval (.tmp 55) = .bool true := (he 30 55 (by kernel_rfl) rfl).trans (hR 30 (by kernel_rfl))
    refine wp_value (v := .bool true) ?_ (hK _ _ rfl (FrX.refl _ _ _ W))
    simp only [execOp, e55]
    try go_simp
    try (first | rfl | omega | (simp only [IntKind.wrap_i64, IntKind.wrap_u8, IntKind.wrap_u64, IntKind.wrap_u16, IntKind.wrap_u32]; omega) | (rw [Int.tmod_eq_emod_of_nonneg (by omega)]) | (rw [Int.tmod_eq_emod_of_nonneg (by omega)]; omega))
  · intro a vs W hX hR he hf K hK
    have e56 : a.eval (.tmp 56) = .bool true := (he 31 56 (by kernel_rfl) rfl).trans (hR 31 (by kernel_rfl))
    refine Eq.mpr (if_pos (by exact (wanted_some rfl rfl e56).trans rfl)) ?_
    have e3 : a.eval (.tmp 3) = .pointer (some ⟨gk, 0, none⟩) := hf 3 (by kernel_rfl)
    have hbW := bthen (below_drew _) (hX.base rfl)
    exact wp_value (exec_load 26 _ rfl gk e3 26 k17.cells _ (HB.out.on hbW) Try.underlying26 rfl (sizeK _ HKF.out.ok)) (hK _ _ rfl (FrX.refl _ _ _ W))
  · intro a vs W hX hR he hf K hK
    have e56 : a.eval (.tmp 56) = .bool true := (he 31 56 (by kernel_rfl) rfl).trans (hR 31 (by kernel_rfl))
    refine Eq.mpr (if_pos (by exact (wanted_some rfl rfl e56).trans rfl)) ?_
    have e57 : a.eval (.tmp 57) = .agg k17.cells.toArray := (he 32 57 (by kernel_rfl) rfl).trans (hR 32 (by kernel_rfl))
    refine wp_enter (f := 15) (args := #[.agg k17.cells.toArray, .slice none 0 0]) (by simp only [execOp, e57]; go_simp; simpa [Act.eval] using e57) ((hash_any k17 HKF.out none 0 0 [] W (row_no W 4) (by simp) (by omega)).mono ?_)
    rintro e w' ⟨rfl, hb⟩
    exact ⟨_, rfl, hK _ _ (by rw [HH0.out]; rfl) (FrX.of hb)⟩
  · intro a vs W hX hR he hf K hK
    have e56 : a.eval (.tmp 56) = .bool true := (he 31 56 (by kernel_rfl) rfl).trans (hR 31 (by kernel_rfl))
    refine Eq.mpr (if_pos (by exact (wanted_some rfl rfl e56).trans rfl)) ?_
    have e3 : a.eval (.tmp 3) = .pointer (some ⟨gk, 0, none⟩) := hf 3 (by kernel_rfl)
    have hbW := bthen (below_drew _) (hX.base rfl)
    exact wp_value (exec_load 26 _ rfl gk e3 26 k17.cells _ (HB.out.on hbW) Try.underlying26 rfl (sizeK _ HKF.out.ok)) (hK _ _ rfl (FrX.refl _ _ _ W))
  · intro a vs W hX hR he hf K hK
    have e56 : a.eval (.tmp 56) = .bool true := (he 31 56 (by kernel_rfl) rfl).trans (hR 31 (by kernel_rfl))
    refine Eq.mpr (if_pos (by exact (wanted_some rfl rfl e56).trans rfl)) ?_
    have e59 : a.eval (.tmp 59) = .agg k17.cells.toArray := (he 34 59 (by kernel_rfl) rfl).trans (hR 34 (by kernel_rfl))
    refine wp_enter (f := 11) (args := #[.agg k17.cells.toArray]) (by simp only [execOp, e59]; go_simp; simpa [Act.eval] using e59) ((bytes17_any k17 HKF.out W).mono ?_)
    rintro e w' ⟨A, n, c, rfl, ho, hb⟩
    exact ⟨_, rfl, hK _ _ ⟨A, n, c, rfl, ho.row, by have := ho.len; simpa [bv_length] using this.symm⟩ (FrX.of hb)⟩
  · intro a vs W hX hR he hf K hK
    have e56 : a.eval (.tmp 56) = .bool true := (he 31 56 (by kernel_rfl) rfl).trans (hR 31 (by kernel_rfl))
    refine Eq.mpr (if_pos (by exact (wanted_some rfl rfl e56).trans rfl)) ?_
    have e60 := he 35 60 (by kernel_rfl) rfl
    have p60 := hR 35 (by kernel_rfl)
    change (BytR (bytesF k17)) (vs 35) W at p60
    obtain ⟨A, n, c, hv, ho, hn⟩ := p60
    rw [HLN.out] at hn
    obtain rfl : n = 14 := hn
    rw [hv] at e60
    refine wp_enter (f := 13) (args := #[.slice A 14 c]) (by simp only [execOp, e60]; go_simp; simpa [Act.eval] using e60) ((mix_any A 14 c (bytesF k17) W ho (by omega)).mono ?_)
    rintro e w' ⟨rfl, hb⟩
    subst hb
    exact ⟨_, rfl, hK _ _ (by rw [HMB.out]; rfl) (FrX.refl _ _ _ W)⟩
  · intro a vs W hX hR he hf K hK
    have e56 : a.eval (.tmp 56) = .bool true := (he 31 56 (by kernel_rfl) rfl).trans (hR 31 (by kernel_rfl))
    refine Eq.mpr (if_pos (by exact (wanted_some rfl rfl e56).trans rfl)) ?_
    have e58 : a.eval (.tmp 58) = .int .u32 1664577763 := (he 33 58 (by kernel_rfl) rfl).trans (hR 33 (by kernel_rfl))
    have e61 : a.eval (.tmp 61) = .int .u32 1664577763 := (he 36 61 (by kernel_rfl) rfl).trans (hR 36 (by kernel_rfl))
    refine wp_value (v := .bool true) ?_ (hK _ _ rfl (FrX.refl _ _ _ W))
    simp only [execOp, e58, e61]
    try go_simp
    try (first | rfl | omega | (simp only [IntKind.wrap_i64, IntKind.wrap_u8, IntKind.wrap_u64, IntKind.wrap_u16, IntKind.wrap_u32]; omega) | (rw [Int.tmod_eq_emod_of_nonneg (by omega)]) | (rw [Int.tmod_eq_emod_of_nonneg (by omega)]; omega))
  · intro a vs W hX hR he hf K hK
    rw [if_pos (wanted_none rfl)]
    have e56 : a.eval (.tmp 56) = .bool true := (he 31 56 (by kernel_rfl) rfl).trans (hR 31 (by kernel_rfl))
    have e62 : a.eval (.tmp 62) = .bool true := (he 37 62 (by kernel_rfl) rfl).trans (hR 37 (by kernel_rfl))
    refine wp_value (v := .bool true) ?_ (hK _ _ rfl (FrX.refl _ _ _ W))
    simp only [execOp, e56, e62]
    try go_simp
    try (first | rfl | omega | (simp only [IntKind.wrap_i64, IntKind.wrap_u8, IntKind.wrap_u64, IntKind.wrap_u16, IntKind.wrap_u32]; omega) | (rw [Int.tmod_eq_emod_of_nonneg (by omega)]) | (rw [Int.tmod_eq_emod_of_nonneg (by omega)]; omega))
  · intro a vs W hX hR he hf K hK
    rw [if_pos (wanted_none rfl)]
    have e63 : a.eval (.tmp 63) = .bool true := (he 38 63 (by kernel_rfl) rfl).trans (hR 38 (by kernel_rfl))
    refine wp_value (v := .bool true) ?_ (hK _ _ rfl (FrX.refl _ _ _ W))
    simp only [execOp, e63]
    try go_simp
    try (first | rfl | omega | (simp only [IntKind.wrap_i64, IntKind.wrap_u8, IntKind.wrap_u64, IntKind.wrap_u16, IntKind.wrap_u32]; omega) | (rw [Int.tmod_eq_emod_of_nonneg (by omega)]) | (rw [Int.tmod_eq_emod_of_nonneg (by omega)]; omega))
  · intro a vs W hX hR he hf K hK
    have e64 : a.eval (.tmp 64) = .bool true := (he 39 64 (by kernel_rfl) rfl).trans (hR 39 (by kernel_rfl))
    refine Eq.mpr (if_pos (by exact (wanted_some rfl rfl e64).trans rfl)) ?_
    have e3 : a.eval (.tmp 3) = .pointer (some ⟨gk, 0, none⟩) := hf 3 (by kernel_rfl)
    have hbW := bthen (below_drew _) (hX.base rfl)
    exact wp_value (exec_load 26 _ rfl gk e3 26 k17.cells _ (HB.out.on hbW) Try.underlying26 rfl (sizeK _ HKF.out.ok)) (hK _ _ rfl (FrX.refl _ _ _ W))
  · intro a vs W hX hR he hf K hK
    have e64 : a.eval (.tmp 64) = .bool true := (he 39 64 (by kernel_rfl) rfl).trans (hR 39 (by kernel_rfl))
    refine Eq.mpr (if_pos (by exact (wanted_some rfl rfl e64).trans rfl)) ?_
    refine wp_value (v := _) ?_ (hK _ _ rfl (FrX.refl _ _ _ W))
    simp only [execOp]
    go_simp
  · intro a vs W hX hR he hf K hK
    have e64 : a.eval (.tmp 64) = .bool true := (he 39 64 (by kernel_rfl) rfl).trans (hR 39 (by kernel_rfl))
    refine Eq.mpr (if_pos (by exact (wanted_some rfl rfl e64).trans rfl)) ?_
    have e66 : a.eval (.tmp 66) = .agg #[.int .i64 16, .int .u8 0, .bool false, .int .u8 0] := (he 41 66 (by kernel_rfl) rfl).trans (hR 41 (by kernel_rfl))
    have f66 := e66
    simp only [Act.eval, Array.getD_eq_getD_getElem?] at f66
    refine wp_value (v := .slice (some ⟨W.heap.size, 0, none⟩) 1 1) (w' := W.alloc (.cells #[.int .i64 16, .int .u8 0, .bool false, .int .u8 0] 58)) ?_ (hK _ _ ⟨_, _, _, rfl, by rw [World.size_alloc]; exact Row.new (n := 1) (sz := 4) W #[.int .i64 16, .int .u8 0, .bool false, .int .u8 0] rfl⟩ (frx_alloc _ _ _ _ _))
    simp only [execOp, f66]
    go_simp
  · intro a vs W hX hR he hf K hK
    have e64 : a.eval (.tmp 64) = .bool true := (he 39 64 (by kernel_rfl) rfl).trans (hR 39 (by kernel_rfl))
    refine Eq.mpr (if_pos (by exact (wanted_some rfl rfl e64).trans rfl)) ?_
    have e65 : a.eval (.tmp 65) = .agg k17.cells.toArray := (he 40 65 (by kernel_rfl) rfl).trans (hR 40 (by kernel_rfl))
    have e67 := he 42 67 (by kernel_rfl) rfl
    have p67 := hR 42 (by kernel_rfl)
    change (EntR [e17]) (vs 42) W at p67
    obtain ⟨A, n, c, hv, ho⟩ := p67
    rw [hv] at e67
    have hn := ent_len ho
    simp at hn
    subst hn
    refine wp_enter (f := 15) (args := #[.agg k17.cells.toArray, .slice A 1 c]) (by simp only [execOp, e65, e67]; go_simp; exact ⟨by simpa [Act.eval] using e65, by simpa [Act.eval] using e67⟩) ((hash_any k17 HKF.out A 1 c [e17] W ho (by simp [e17]) (by omega)).mono ?_)
    rintro e w' ⟨rfl, hb⟩
    exact ⟨_, rfl, hK _ _ (by rw [HH1.out]; rfl) (FrX.of hb)⟩
  · intro a vs W hX hR he hf K hK
    have e64 : a.eval (.tmp 64) = .bool true := (he 39 64 (by kernel_rfl) rfl).trans (hR 39 (by kernel_rfl))
    refine Eq.mpr (if_pos (by exact (wanted_some rfl rfl e64).trans rfl)) ?_
    have e3 : a.eval (.tmp 3) = .pointer (some ⟨gk, 0, none⟩) := hf 3 (by kernel_rfl)
    have hbW := bthen (below_drew _) (hX.base rfl)
    exact wp_value (exec_load 26 _ rfl gk e3 26 k17.cells _ (HB.out.on hbW) Try.underlying26 rfl (sizeK _ HKF.out.ok)) (hK _ _ rfl (FrX.refl _ _ _ W))
  · intro a vs W hX hR he hf K hK
    have e64 : a.eval (.tmp 64) = .bool true := (he 39 64 (by kernel_rfl) rfl).trans (hR 39 (by kernel_rfl))
    refine Eq.mpr (if_pos (by exact (wanted_some rfl rfl e64).trans rfl)) ?_
    have e69 : a.eval (.tmp 69) = .agg k17.cells.toArray := (he 44 69 (by kernel_rfl) rfl).trans (hR 44 (by kernel_rfl))
    refine wp_enter (f := 15) (args := #[.agg k17.cells.toArray, .slice none 0 0]) (by simp only [execOp, e69]; go_simp; simpa [Act.eval] using e69) ((hash_any k17 HKF.out none 0 0 [] W (row_no W 4) (by simp) (by omega)).mono ?_)
    rintro e w' ⟨rfl, hb⟩
    exact ⟨_, rfl, hK _ _ (by rw [HH0.out]; rfl) (FrX.of hb)⟩
  · intro a vs W hX hR he hf K hK
    have e64 : a.eval (.tmp 64) = .bool true := (he 39 64 (by kernel_rfl) rfl).trans (hR 39 (by kernel_rfl))
    refine Eq.mpr (if_pos (by exact (wanted_some rfl rfl e64).trans rfl)) ?_
    have e68 : a.eval (.tmp 68) = .int .u32 723432017 := (he 43 68 (by kernel_rfl) rfl).trans (hR 43 (by kernel_rfl))
    have e70 : a.eval (.tmp 70) = .int .u32 1664577763 := (he 45 70 (by kernel_rfl) rfl).trans (hR 45 (by kernel_rfl))
    refine wp_value (v := .bool true) ?_ (hK _ _ rfl (FrX.refl _ _ _ W))
    simp only [execOp, e68, e70]
    try go_simp
    try (first | rfl | omega | (simp only [IntKind.wrap_i64, IntKind.wrap_u8, IntKind.wrap_u64, IntKind.wrap_u16, IntKind.wrap_u32]; omega) | (rw [Int.tmod_eq_emod_of_nonneg (by omega)]) | (rw [Int.tmod_eq_emod_of_nonneg (by omega)]; omega))
  · intro a vs W hX hR he hf K hK
    rw [if_pos (wanted_none rfl)]
    have e64 : a.eval (.tmp 64) = .bool true := (he 39 64 (by kernel_rfl) rfl).trans (hR 39 (by kernel_rfl))
    have e71 : a.eval (.tmp 71) = .bool true := (he 46 71 (by kernel_rfl) rfl).trans (hR 46 (by kernel_rfl))
    refine wp_value (v := .bool true) ?_ (hK _ _ rfl (FrX.refl _ _ _ W))
    simp only [execOp, e64, e71]
    try go_simp
    try (first | rfl | omega | (simp only [IntKind.wrap_i64, IntKind.wrap_u8, IntKind.wrap_u64, IntKind.wrap_u16, IntKind.wrap_u32]; omega) | (rw [Int.tmod_eq_emod_of_nonneg (by omega)]) | (rw [Int.tmod_eq_emod_of_nonneg (by omega)]; omega))
  · intro a vs W hX hR he hf K hK
    rw [if_pos (wanted_none rfl)]
    have e72 : a.eval (.tmp 72) = .bool true := (he 47 72 (by kernel_rfl) rfl).trans (hR 47 (by kernel_rfl))
    refine wp_value (v := .bool true) ?_ (hK _ _ rfl (FrX.refl _ _ _ W))
    simp only [execOp, e72]
    try go_simp
    try (first | rfl | omega | (simp only [IntKind.wrap_i64, IntKind.wrap_u8, IntKind.wrap_u64, IntKind.wrap_u16, IntKind.wrap_u32]; omega) | (rw [Int.tmod_eq_emod_of_nonneg (by omega)]) | (rw [Int.tmod_eq_emod_of_nonneg (by omega)]; omega))
  · intro vs w10 hX10 hR
    have q0 := hR 0 (by decide)
    have q1 := hR 1 (by decide)
    have q2 := hR 2 (by decide)
    have q3 := hR 3 (by decide)
    have q4 := hR 4 (by decide)
    have q5 := hR 5 (by decide)
    have q6 := hR 6 (by decide)
    have q7 := hR 7 (by decide)
    have q8 := hR 8 (by decide)
    have q9 := hR 9 (by decide)
    have q10 := hR 10 (by decide)
    have q11 := hR 11 (by decide)
    have q12 := hR 12 (by decide)
    have q13 := hR 13 (by decide)
    have q14 := hR 14 (by decide)
    have q15 := hR 15 (by decide)
    have q16 := hR 16 (by decide)
    have q17 := hR 17 (by decide)
    have q18 := hR 18 (by decide)
    have q19 := hR 19 (by decide)
    have q20 := hR 20 (by decide)
    have q21 := hR 21 (by decide)
    have q22 := hR 22 (by decide)
    have q23 := hR 23 (by decide)
    have q24 := hR 24 (by decide)
    have q25 := hR 25 (by decide)
    have q26 := hR 26 (by decide)
    have q27 := hR 27 (by decide)
    have q28 := hR 28 (by decide)
    have q29 := hR 29 (by decide)
    have q30 := hR 30 (by decide)
    have q31 := hR 31 (by decide)
    have q32 := hR 32 (by decide)
    have q33 := hR 33 (by decide)
    have q34 := hR 34 (by decide)
    have q35 := hR 35 (by decide)
    have q36 := hR 36 (by decide)
    have q37 := hR 37 (by decide)
    have q38 := hR 38 (by decide)
    have q39 := hR 39 (by decide)
    have q40 := hR 40 (by decide)
    have q41 := hR 41 (by decide)
    have q42 := hR 42 (by decide)
    have q43 := hR 43 (by decide)
    have q44 := hR 44 (by decide)
    have q45 := hR 45 (by decide)
    have q46 := hR 46 (by decide)
    have q47 := hR 47 (by decide)
    have q48 := hR 48 (by decide)
    change vs 0 = .int .u32 2166136261 at q0
    change vs 1 = .bool true at q1
    change vs 2 = .bool true at q2
    change (LitR w9.heap.size [97]) (vs 3) w10 at q3
    change (BytR [97]) (vs 4) w10 at q4
    change vs 5 = .int .u32 3826002220 at q5
    change vs 6 = .bool true at q6
    change vs 7 = .bool true at q7
    change vs 8 = .bool true at q8
    change vs 9 = .pointer (some ⟨gk, 34, none⟩) at q9
    change vs 10 = .int .i64 53 at q10
    change vs 11 = .bool true at q11
    change vs 12 = .bool true at q12
    change vs 13 = .bool true at q13
    change vs 14 = .pointer (some ⟨gk, 35, none⟩) at q14
    change vs 15 = .int .i64 256 at q15
    change vs 16 = .bool true at q16
    change vs 17 = .bool true at q17
    change vs 18 = .bool true at q18
    change vs 19 = .bool true at q19
    change vs 20 = .bool true at q20
    change vs 21 = .bool true at q21
    change vs 22 = .bool false at q22
    change vs 23 = .bool true at q23
    change vs 24 = .bool true at q24
    change vs 25 = .bool true at q25
    change vs 26 = .agg k17.cells.toArray at q26
    change (BytR (bytesF k17)) (vs 27) w10 at q27
    change vs 28 = .int .i64 14 at q28
    change vs 29 = .bool true at q29
    change vs 30 = .bool true at q30
    change vs 31 = .bool true at q31
    change vs 32 = .agg k17.cells.toArray at q32
    change vs 33 = .int .u32 1664577763 at q33
    change vs 34 = .agg k17.cells.toArray at q34
    change (BytR (bytesF k17)) (vs 35) w10 at q35
    change vs 36 = .int .u32 1664577763 at q36
    change vs 37 = .bool true at q37
    change vs 38 = .bool true at q38
    change vs 39 = .bool true at q39
    change vs 40 = .agg k17.cells.toArray at q40
    change vs 41 = .agg #[.int .i64 16, .int .u8 0, .bool false, .int .u8 0] at q41
    change (EntR [e17]) (vs 42) w10 at q42
    change vs 43 = .int .u32 723432017 at q43
    change vs 44 = .agg k17.cells.toArray at q44
    change vs 45 = .int .u32 1664577763 at q45
    change vs 46 = .bool true at q46
    change vs 47 = .bool true at q47
    change vs 48 = .bool true at q48
    simp only [putAll, Act.put, List.setIfInBounds_toArray, List.set_cons_zero, List.set_cons_succ, q0, q1, q2, q5, q6, q7, q8, q9, q10, q11, q12, q13, q14, q15, q16, q17, q18, q19, q20, q21, q22, q23, q24, q25, q26, q28, q29, q30, q31, q32, q33, q34, q36, q37, q38, q39, q40, q41, q43, q44, q45, q46, q47, q48]
    clear q0 q1 q2 q5 q6 q7 q8 q9 q10 q11 q12 q13 q14 q15 q16 q17 q18 q19 q20 q21 q22 q23 q24 q25 q26 q28 q29 q30 q31 q32 q33 q34 q36 q37 q38 q39 q40 q41 q43 q44 q45 q46 q47 q48
    clear hR
    go_wp2
    go_ret
    exact ⟨rfl, bthen HW.out (bthen (below_drew _) (hX10.base rfl))⟩
end Go.Proofs.Ythjjcglheialfaa

/- awake of layer 22 (ext): the document's example. No condition. -/
import Derived.Test.YtbabkcdhihmomaaX22l
import Derived.Test.YtbabkcdhihmomaaPlain22
namespace Go.Proofs.Ytbabkcdhihmomaa
open Go.RowKit
set_option linter.unusedVariables false
set_option maxRecDepth 20000
set_option linter.unusedSimpArgs false

theorem sameEn (x : Ent) (w : World) : (Op.equalIn 10000 54 (.agg x.cells.toArray) (.agg x.cells.toArray)).run Try.prog w = .ok true w := by
  rw [run_equalIn_struct w 9999 54 _ _ Try.underlying54 (show Try.prog.stoodInHeld 54 = false by kernel_rfl)]
  refine eqF_cons (by decide) (part_one (by kernel_rfl) rfl) (part_one (by kernel_rfl) rfl) (eq_int Try.underlying3 _ _) ?_
  refine eqF_cons (by decide) (part_one (by kernel_rfl) rfl) (part_one (by kernel_rfl) rfl) (eq_int Try.underlying5 _ _) ?_
  refine eqF_cons (by decide) (part_one (by kernel_rfl) rfl) (part_one (by kernel_rfl) rfl) (eq_bool Try.underlying4 _) ?_
  refine eqF_cons (by decide) (part_one (by kernel_rfl) rfl) (part_one (by kernel_rfl) rfl) (eq_int Try.underlying5 _ _) ?_
  exact eqF_nil
theorem run_eqlEn (x : Ent) (w : World) : (binOp .eql 54 (.agg x.cells.toArray) (.agg x.cells.toArray)).run Try.prog w = .ok (.bool true) w := by
  rw [run_eql_struct, sameEn x]
  rfl
theorem exec_eqEn {w : World} {o : Oper} {a : Act} (x y : Operand) (ty : TypeId) (ho : o.op = .binOp .eql 54 x y ty) (h : Ent) (hx : a.eval x = .agg h.cells.toArray) (hy : a.eval y = .agg h.cells.toArray) : (execOp a.eval o).run Try.prog w = .ok (.value (.bool true)) w := by
  unfold execOp
  simp only [ho, hx, hy, Sem.run_bind, run_eqGuard_agg w .eql 54 x y _ _ (show Try.prog.eqGuardType Try.prog.depth 54 = false by kernel_rfl), run_eqlEn h, Result.andThen_ok]
  rfl
theorem ent_range {w : World} {B n : Nat} {A : Option Addr} {l : List Ent} (h : Row w B 4 A n (evs l)) (i : Nat) (x : Ent) (hi : l[i]? = some x) : ∃ b o, A = some ⟨b, o, none⟩ ∧ b < B ∧ w.rangeAt b (o + i * 4) x.cells := by
  have hn : 0 < n := by
    have := ent_len h
    obtain ⟨hi', _⟩ := List.getElem?_eq_some_iff.1 hi
    omega
  obtain ⟨b, o, rfl, hb, hc⟩ := h.2 hn
  refine ⟨b, o, rfl, hb, fun j v hv => ?_⟩
  rw [Nat.add_assoc]
  refine hc (i * 4 + j) v ?_
  have hj : j < 4 := by
    obtain ⟨hj, _⟩ := List.getElem?_eq_some_iff.1 hv
    exact hj
  rw [evs_cell l i x hi j hj]
  exact hv
theorem TXo.ok {N : Nat} {x : Xo} {W : World} (h : TXo N x W) : x.ok W := ⟨h.cls, h.kind, h.own.row, h.own.le, h.own.cap⟩
theorem oks22 {N : Nat} {l : List Xo} {W : World} (h : ∀ x ∈ l, TXo N x W) : ∀ x ∈ l, x.ok W := fun x hx => (h x hx).ok

def e22 : Ent := ⟨16, 0, true, 9⟩
def z22 : List UInt8 := [32, 0, 221, 236, 0, 8, 1, 1, 0, 1, 1, 9]
theorem fit22 : ∀ x ∈ [e22], x.fit := by
  intro x hx
  obtain rfl := List.mem_singleton.1 hx
  exact ⟨by decide, by decide, by decide, by decide, by decide, by decide⟩
theorem st22 : stack22 [e22] = (z22, 0) := by kernel_rfl
theorem to22 : toldG z22 = ([e22], 0) := by kernel_rfl
theorem ge22 : getG z22 = ([⟨1, 1, [0, 1, 1, 9]⟩], 0) := by kernel_rfl
theorem ex22 : ext22 [⟨1, 1, [0, 1, 1, 9]⟩] = (z22, 0) := by kernel_rfl

set_option maxRecDepth 100000 in
set_option maxHeartbeats 8000000 in
theorem awake22 (w : World) : Calls Try.prog 7 #[] w fun e w' => e = .returned (.bool true) ∧ Below w.heap.size w w' := by
  go_enter Try.func7, Try.ntmps7
  have hb0 := alloc_below w (.cells #[.int .i64 16, .int .u8 0, .bool true, .int .u8 9] 54)
  have hk0 := Blk.new w 54 e22.cells
  have hs0 : (w.alloc (.cells #[.int .i64 16, .int .u8 0, .bool true, .int .u8 9] 54)).heap.size = w.heap.size + 1 := by simp
  have HB0 := Lib.hid hb0
  have HK0 := Lib.hid hk0
  have HS0 := Lib.hid hs0
  clear hb0 hk0 hs0
  go_wp2_with fail
  refine (stack22p_any _ 1 1 [e22] _ (by have h9 := row_newE (w.alloc (.cells #[.int .i64 16, .int .u8 0, .bool true, .int .u8 9] 54)) e22; rw [World.size_alloc] at h9; rw [World.size_alloc, World.size_alloc]; exact h9) fit22 (by omega)).mono ?_
  rintro e w1 ⟨A1, c1, rfl, ho1, hb1⟩
  rw [st22] at ho1 ⊢
  change Own w1 _ 5 1 A1 12 c1 (bv z22) at ho1
  have hb01 : Below w.heap.size w w1 := bthen HB0.out (ballocd hb1)
  have hk1 : Blk w1 w.heap.size 54 e22.cells := HK0.out.on (ballocd hb1)
  have HW := Lib.hid hb01
  have HE := Lib.hid hk1
  have H1 := Lib.hid ho1
  obtain ⟨g0, hg0⟩ : ∃ g, w.heap.size = g := ⟨_, rfl⟩
  rw [hg0] at HE
  have HG0 := Lib.hid hg0
  try rw [hg0]
  clear hb01 hk1 ho1 hb1 hg0 HB0 HK0 HS0
  go_wp2_with fail
  refine (told22_any A1 12 c1 z22 w1 H1.out.row H1.out.le H1.out.cap (by omega)).mono ?_
  rintro e w2 ⟨A2, c2, rfl, ho2, hb2⟩
  rw [to22] at ho2 ⊢
  change Own w2 _ 54 4 A2 1 c2 (evs [e22]) at ho2
  replace HW := Lib.hid (bthen HW.out hb2)
  replace HE := Lib.hid (HE.out.on hb2)
  replace H1 := Lib.hid (H1.out.below hb2)
  have H2 := Lib.hid ho2
  clear ho2 hb2
  go_wp2_with fail
  refine (get22_any A1 12 c1 z22 w2 H1.out.row H1.out.le H1.out.cap (by omega)).mono ?_
  rintro e w3 ⟨l3, A3, c3, rfl, hl3, ho3, hx3, hb3⟩
  rw [ge22] at hl3 ⊢
  have hn3 : l3.length = 1 := by have := congrArg List.length hl3; simpa using this
  rw [hn3] at ho3 ⊢
  replace HW := Lib.hid (bthen HW.out hb3)
  replace HE := Lib.hid (HE.out.on hb3)
  replace H1 := Lib.hid (H1.out.below hb3)
  replace H2 := Lib.hid (H2.out.below hb3)
  have H3 := Lib.hid ho3
  have HX3 := Lib.hid hx3
  have HL3 := Lib.hid hl3
  clear ho3 hb3 hx3 hl3 hn3
  go_wp2_with fail
  refine (put22_any A3 1 c3 l3 w3 H3.out.row (oks22 HX3.out) (by omega)).mono ?_
  rintro e w4 ⟨A4, c4, rfl, ho4, hb4⟩
  rw [HL3.out, ex22] at ho4 ⊢
  change Own w4 _ 5 1 A4 12 c4 (bv z22) at ho4
  replace HW := Lib.hid (bthen HW.out hb4)
  replace HE := Lib.hid (HE.out.on hb4)
  replace H1 := Lib.hid (H1.out.below hb4)
  replace H2 := Lib.hid (H2.out.below hb4)
  have H4 := Lib.hid ho4
  obtain ⟨b1, hA1, _⟩ := H1.out.open_ (by omega)
  subst hA1
  obtain ⟨b2, o2, hA2, hb2, hr2⟩ := ent_range H2.out.row 0 e22 rfl
  subst hA2
  have HR2 := Lib.hid hr2
  have hc12 := H1.out.le
  have hc4 : ¬ c1 = 4 := by omega
  have hi8 : (8 : Int) ≤ (c1 : Int) := by omega
  have hi2 : (2 : Int) ≤ (c1 : Int) := by omega
  clear ho4 hb4 hr2
  go_wp2_with fail
  refine wp_region_rel (fun A B => A.grownBy B none) (fun A => grown_refl A _) (fun A B C h k => grown_trans h k) (relAt (List.cons (fun v _ => v = .int .i64 0) (List.cons (fun v _ => v = .bool true) (List.cons (fun v _ => v = .bool true) (List.cons (fun v _ => v = .slice (some ⟨b1, 0, none⟩) 12 c1) (List.cons (fun v _ => v = .int .i64 (12 : Int)) (List.cons (fun v _ => v = .bool true) (List.cons (fun v _ => v = .bool true) (List.cons (fun v _ => v = .bool true) (List.cons (fun v _ => v = .slice (some ⟨b1, 0, none⟩) 12 c1) (List.cons (fun v _ => v = .slice (some ⟨b1, 0, none⟩) 2 c1) (List.cons (fun v _ => v = str [32, 0]) (List.cons (fun v _ => v = .bool true) (List.cons (fun v _ => v = .bool true) (List.cons (fun v _ => v = .bool true) (List.cons (fun v _ => v = .slice (some ⟨b1, 0, none⟩) 12 c1) (List.cons (fun v _ => v = .slice (some ⟨b1, 4, none⟩) 4 (c1 - 4)) (List.cons (fun v _ => v = str [0, 8, 1, 1]) (List.cons (fun v _ => v = .bool true) (List.cons (fun v _ => v = .bool true) (List.cons (fun v _ => v = .bool true) (List.cons (fun v _ => v = .int .i64 0) (List.cons (fun v _ => v = .bool true) (List.cons (fun v _ => v = .bool true) (List.cons (fun v _ => v = .bool true) (List.cons (fun v _ => v = .slice (some ⟨b2, o2, none⟩) 1 c2) (List.cons (fun v _ => v = .int .i64 (1 : Int)) (List.cons (fun v _ => v = .bool true) (List.cons (fun v _ => v = .bool true) (List.cons (fun v _ => v = .bool true) (List.cons (fun v _ => v = .slice (some ⟨b2, o2, none⟩) 1 c2) (List.cons (fun v _ => v = .pointer (some ⟨b2, o2, none⟩)) (List.cons (fun v _ => v = .agg e22.cells.toArray) (List.cons (fun v _ => v = .agg e22.cells.toArray) (List.cons (fun v _ => v = .bool true) (List.cons (fun v _ => v = .bool true) (List.cons (fun v _ => v = .bool true) (List.cons (fun v _ => v = .int .i64 0) (List.cons (fun v _ => v = .bool true) (List.cons (fun v _ => v = .bool true) (List.cons (fun v _ => v = .bool true) (List.cons (fun v _ => v = .slice A3 1 c3) (List.cons (fun v _ => v = .int .i64 (1 : Int)) (List.cons (fun v _ => v = .bool true) (List.cons (fun v _ => v = .bool true) (List.cons (fun v _ => v = .bool true) (List.cons (fun v _ => v = .int .i64 0) (List.cons (fun v _ => v = .bool true) (List.cons (fun v _ => v = .bool true) (List.cons (fun v _ => v = .bool true) (List.cons (fun v _ => v = .slice A4 12 c4) (List.cons (fun v _ => v = str z22) (List.cons (fun v _ => v = .slice (some ⟨b1, 0, none⟩) 12 c1) (List.cons (fun v _ => v = str z22) (List.cons (fun v _ => v = .bool true) (List.cons (fun v _ => v = .bool true) (List.cons (fun v _ => v = .bool true) ([])))))))))))))))))))))))))))))))))))))))))))))))))))))))))) (MonoL.at_ (.cons (mono_val _) (.cons (mono_val _) (.cons (mono_val _) (.cons (mono_val _) (.cons (mono_val _) (.cons (mono_val _) (.cons (mono_val _) (.cons (mono_val _) (.cons (mono_val _) (.cons (mono_val _) (.cons (mono_val _) (.cons (mono_val _) (.cons (mono_val _) (.cons (mono_val _) (.cons (mono_val _) (.cons (mono_val _) (.cons (mono_val _) (.cons (mono_val _) (.cons (mono_val _) (.cons (mono_val _) (.cons (mono_val _) (.cons (mono_val _) (.cons (mono_val _) (.cons (mono_val _) (.cons (mono_val _) (.cons (mono_val _) (.cons (mono_val _) (.cons (mono_val _) (.cons (mono_val _) (.cons (mono_val _) (.cons (mono_val _) (.cons (mono_val _) (.cons (mono_val _) (.cons (mono_val _) (.cons (mono_val _) (.cons (mono_val _) (.cons (mono_val _) (.cons (mono_val _) (.cons (mono_val _) (.cons (mono_val _) (.cons (mono_val _) (.cons (mono_val _) (.cons (mono_val _) (.cons (mono_val _) (.cons (mono_val _) (.cons (mono_val _) (.cons (mono_val _) (.cons (mono_val _) (.cons (mono_val _) (.cons (mono_val _) (.cons (mono_val _) (.cons (mono_val _) (.cons (mono_val _) (.cons (mono_val _) (.cons (mono_val _) (.cons (mono_val _) .nil))))))))))))))))))))))))))))))))))))))))))))))))))))))))) (by kernel_rfl) (by kernel_rfl) ⟨?_, ?_, ?_, ?_, ?_, ?_, ?_, ?_, ?_, ?_, ?_, ?_, ?_, ?_, ?_, ?_, ?_, ?_, ?_, ?_, ?_, ?_, ?_, ?_, ?_, ?_, ?_, ?_, ?_, ?_, ?_, ?_, ?_, ?_, ?_, ?_, ?_, ?_, ?_, ?_, ?_, ?_, ?_, ?_, ?_, ?_, ?_, ?_, ?_, ?_, ?_, ?_, ?_, ?_, ?_, ?_, trivial⟩ ?_
  · intro a vs W hX hR he hf K hK
    rw [if_pos (wanted_none rfl)]
    have e3 : a.eval (.tmp 3) = .int .i64 0 := hf 3 (by kernel_rfl)
    refine wp_value (v := .int .i64 0) ?_ (hK _ _ rfl (grown_refl W _))
    simp only [execOp, e3]
    try go_simp
    try (first | rfl | omega | (simp only [IntKind.wrap_i64, IntKind.wrap_u8, IntKind.wrap_u64, IntKind.wrap_u16, IntKind.wrap_u32]; omega) | (rw [Int.tmod_eq_emod_of_nonneg (by omega)]) | (rw [Int.tmod_eq_emod_of_nonneg (by omega)]; omega))
  · intro a vs W hX hR he hf K hK
    rw [if_pos (wanted_none rfl)]
    have e32 : a.eval (.tmp 32) = .int .i64 0 := (he 0 32 (by kernel_rfl) rfl).trans (hR 0 (by kernel_rfl))
    refine wp_value (v := .bool true) ?_ (hK _ _ rfl (grown_refl W _))
    simp only [execOp, e32]
    try go_simp
    try (first | rfl | omega | (simp only [IntKind.wrap_i64, IntKind.wrap_u8, IntKind.wrap_u64, IntKind.wrap_u16, IntKind.wrap_u32]; omega) | (rw [Int.tmod_eq_emod_of_nonneg (by omega)]) | (rw [Int.tmod_eq_emod_of_nonneg (by omega)]; omega))
  · intro a vs W hX hR he hf K hK
    rw [if_pos (wanted_none rfl)]
    have e33 : a.eval (.tmp 33) = .bool true := (he 1 33 (by kernel_rfl) rfl).trans (hR 1 (by kernel_rfl))
    refine wp_value (v := .bool true) ?_ (hK _ _ rfl (grown_refl W _))
    simp only [execOp, e33]
    try go_simp
    try (first | rfl | omega | (simp only [IntKind.wrap_i64, IntKind.wrap_u8, IntKind.wrap_u64, IntKind.wrap_u16, IntKind.wrap_u32]; omega) | (rw [Int.tmod_eq_emod_of_nonneg (by omega)]) | (rw [Int.tmod_eq_emod_of_nonneg (by omega)]; omega))
  · intro a vs W hX hR he hf K hK
    have e34 : a.eval (.tmp 34) = .bool true := (he 2 34 (by kernel_rfl) rfl).trans (hR 2 (by kernel_rfl))
    refine Eq.mpr (if_pos (by exact (wanted_some rfl rfl e34).trans rfl)) ?_
    have e2 : a.eval (.tmp 2) = .slice (some ⟨b1, 0, none⟩) 12 c1 := hf 2 (by kernel_rfl)
    refine wp_value (v := .slice (some ⟨b1, 0, none⟩) 12 c1) ?_ (hK _ _ rfl (grown_refl W _))
    simp only [execOp, e2]
    try go_simp
    try (first | rfl | omega | (simp only [IntKind.wrap_i64, IntKind.wrap_u8, IntKind.wrap_u64, IntKind.wrap_u16, IntKind.wrap_u32]; omega) | (rw [Int.tmod_eq_emod_of_nonneg (by omega)]) | (rw [Int.tmod_eq_emod_of_nonneg (by omega)]; omega))
  · intro a vs W hX hR he hf K hK
    have e34 : a.eval (.tmp 34) = .bool true := (he 2 34 (by kernel_rfl) rfl).trans (hR 2 (by kernel_rfl))
    refine Eq.mpr (if_pos (by exact (wanted_some rfl rfl e34).trans rfl)) ?_
    have e35 : a.eval (.tmp 35) = .slice (some ⟨b1, 0, none⟩) 12 c1 := (he 3 35 (by kernel_rfl) rfl).trans (hR 3 (by kernel_rfl))
    have f35 := e35
    simp only [Act.eval, Array.getD_eq_getD_getElem?] at f35
    refine wp_value (v := .int .i64 (12 : Int)) ?_ (hK _ _ rfl (grown_refl W _))
    simp only [execOp, e35]
    try go_simp
    try (first | rfl | omega | (simp only [IntKind.wrap_i64, IntKind.wrap_u8, IntKind.wrap_u64, IntKind.wrap_u16, IntKind.wrap_u32]; omega) | (rw [Int.tmod_eq_emod_of_nonneg (by omega)]) | (rw [Int.tmod_eq_emod_of_nonneg (by omega)]; omega))
  · intro a vs W hX hR he hf K hK
    have e34 : a.eval (.tmp 34) = .bool true := (he 2 34 (by kernel_rfl) rfl).trans (hR 2 (by kernel_rfl))
    refine Eq.mpr (if_pos (by exact (wanted_some rfl rfl e34).trans rfl)) ?_
    have e36 : a.eval (.tmp 36) = .int .i64 (12 : Int) := (he 4 36 (by kernel_rfl) rfl).trans (hR 4 (by kernel_rfl))
    refine wp_value (v := .bool true) ?_ (hK _ _ rfl (grown_refl W _))
    simp only [execOp, e36]
    try go_simp
    try (first | rfl | omega | (simp only [IntKind.wrap_i64, IntKind.wrap_u8, IntKind.wrap_u64, IntKind.wrap_u16, IntKind.wrap_u32]; omega) | (rw [Int.tmod_eq_emod_of_nonneg (by omega)]) | (rw [Int.tmod_eq_emod_of_nonneg (by omega)]; omega))
  · intro a vs W hX hR he hf K hK
    rw [if_pos (wanted_none rfl)]
    have e34 : a.eval (.tmp 34) = .bool true := (he 2 34 (by kernel_rfl) rfl).trans (hR 2 (by kernel_rfl))
    have e37 : a.eval (.tmp 37) = .bool true := (he 5 37 (by kernel_rfl) rfl).trans (hR 5 (by kernel_rfl))
    refine wp_value (v := .bool true) ?_ (hK _ _ rfl (grown_refl W _))
    simp only [execOp, e34, e37]
    try go_simp
    try (first | rfl | omega | (simp only [IntKind.wrap_i64, IntKind.wrap_u8, IntKind.wrap_u64, IntKind.wrap_u16, IntKind.wrap_u32]; omega) | (rw [Int.tmod_eq_emod_of_nonneg (by omega)]) | (rw [Int.tmod_eq_emod_of_nonneg (by omega)]; omega))
  · intro a vs W hX hR he hf K hK
    rw [if_pos (wanted_none rfl)]
    have e38 : a.eval (.tmp 38) = .bool true := (he 6 38 (by kernel_rfl) rfl).trans (hR 6 (by kernel_rfl))
    refine wp_value (v := .bool true) ?_ (hK _ _ rfl (grown_refl W _))
    simp only [execOp, e38]
    try go_simp
    try (first | rfl | omega | (simp only [IntKind.wrap_i64, IntKind.wrap_u8, IntKind.wrap_u64, IntKind.wrap_u16, IntKind.wrap_u32]; omega) | (rw [Int.tmod_eq_emod_of_nonneg (by omega)]) | (rw [Int.tmod_eq_emod_of_nonneg (by omega)]; omega))
  · intro a vs W hX hR he hf K hK
    have e39 : a.eval (.tmp 39) = .bool true := (he 7 39 (by kernel_rfl) rfl).trans (hR 7 (by kernel_rfl))
    refine Eq.mpr (if_pos (by exact (wanted_some rfl rfl e39).trans rfl)) ?_
    have e2 : a.eval (.tmp 2) = .slice (some ⟨b1, 0, none⟩) 12 c1 := hf 2 (by kernel_rfl)
    refine wp_value (v := .slice (some ⟨b1, 0, none⟩) 12 c1) ?_ (hK _ _ rfl (grown_refl W _))
    simp only [execOp, e2]
    try go_simp
    try (first | rfl | omega | (simp only [IntKind.wrap_i64, IntKind.wrap_u8, IntKind.wrap_u64, IntKind.wrap_u16, IntKind.wrap_u32]; omega) | (rw [Int.tmod_eq_emod_of_nonneg (by omega)]) | (rw [Int.tmod_eq_emod_of_nonneg (by omega)]; omega))
  · intro a vs W hX hR he hf K hK
    have e39 : a.eval (.tmp 39) = .bool true := (he 7 39 (by kernel_rfl) rfl).trans (hR 7 (by kernel_rfl))
    refine Eq.mpr (if_pos (by exact (wanted_some rfl rfl e39).trans rfl)) ?_
    have e40 : a.eval (.tmp 40) = .slice (some ⟨b1, 0, none⟩) 12 c1 := (he 8 40 (by kernel_rfl) rfl).trans (hR 8 (by kernel_rfl))
    have f40 := e40
    simp only [Act.eval, Array.getD_eq_getD_getElem?] at f40
    refine wp_value (v := .slice (some ⟨b1, 0, none⟩) 2 c1) ?_ (hK _ _ rfl (grown_refl W _))
    simp only [execOp, e40]
    try go_simp
    try (first | rfl | omega | (simp only [IntKind.wrap_i64, IntKind.wrap_u8, IntKind.wrap_u64, IntKind.wrap_u16, IntKind.wrap_u32]; omega) | (rw [Int.tmod_eq_emod_of_nonneg (by omega)]) | (rw [Int.tmod_eq_emod_of_nonneg (by omega)]; omega))
  · intro a vs W hX hR he hf K hK
    have e39 : a.eval (.tmp 39) = .bool true := (he 7 39 (by kernel_rfl) rfl).trans (hR 7 (by kernel_rfl))
    refine Eq.mpr (if_pos (by exact (wanted_some rfl rfl e39).trans rfl)) ?_
    have e41 : a.eval (.tmp 41) = .slice (some ⟨b1, 0, none⟩) 2 c1 := (he 9 41 (by kernel_rfl) rfl).trans (hR 9 (by kernel_rfl))
    have hbW := bthen (below_drew _) (grow_below hX)
    exact wp_value (exec_str 26 9 5 _ rfl Try.underlying26 Try.underlying5 Try.underlying9 (some ⟨b1, 0, none⟩) 2 (c1) [32, 0] e41 ⟨(H1.out.below hbW).row.take (k := 2) (by omega), (by show 2 ≤ c1; omega), (by have h8 := H1.out.cap; show c1 ≤ maxLen; omega)⟩) (hK _ _ rfl (grown_refl W _))
  · intro a vs W hX hR he hf K hK
    have e39 : a.eval (.tmp 39) = .bool true := (he 7 39 (by kernel_rfl) rfl).trans (hR 7 (by kernel_rfl))
    refine Eq.mpr (if_pos (by exact (wanted_some rfl rfl e39).trans rfl)) ?_
    have e42 : a.eval (.tmp 42) = str [32, 0] := (he 10 42 (by kernel_rfl) rfl).trans (hR 10 (by kernel_rfl))
    refine wp_value (v := .bool true) ?_ (hK _ _ rfl (grown_refl W _))
    simp only [execOp, e42]
    try go_simp
    try (first | rfl | omega | (simp only [IntKind.wrap_i64, IntKind.wrap_u8, IntKind.wrap_u64, IntKind.wrap_u16, IntKind.wrap_u32]; omega) | (rw [Int.tmod_eq_emod_of_nonneg (by omega)]) | (rw [Int.tmod_eq_emod_of_nonneg (by omega)]; omega))
  · intro a vs W hX hR he hf K hK
    rw [if_pos (wanted_none rfl)]
    have e39 : a.eval (.tmp 39) = .bool true := (he 7 39 (by kernel_rfl) rfl).trans (hR 7 (by kernel_rfl))
    have e43 : a.eval (.tmp 43) = .bool true := (he 11 43 (by kernel_rfl) rfl).trans (hR 11 (by kernel_rfl))
    refine wp_value (v := .bool true) ?_ (hK _ _ rfl (grown_refl W _))
    simp only [execOp, e39, e43]
    try go_simp
    try (first | rfl | omega | (simp only [IntKind.wrap_i64, IntKind.wrap_u8, IntKind.wrap_u64, IntKind.wrap_u16, IntKind.wrap_u32]; omega) | (rw [Int.tmod_eq_emod_of_nonneg (by omega)]) | (rw [Int.tmod_eq_emod_of_nonneg (by omega)]; omega))
  · intro a vs W hX hR he hf K hK
    rw [if_pos (wanted_none rfl)]
    have e44 : a.eval (.tmp 44) = .bool true := (he 12 44 (by kernel_rfl) rfl).trans (hR 12 (by kernel_rfl))
    refine wp_value (v := .bool true) ?_ (hK _ _ rfl (grown_refl W _))
    simp only [execOp, e44]
    try go_simp
    try (first | rfl | omega | (simp only [IntKind.wrap_i64, IntKind.wrap_u8, IntKind.wrap_u64, IntKind.wrap_u16, IntKind.wrap_u32]; omega) | (rw [Int.tmod_eq_emod_of_nonneg (by omega)]) | (rw [Int.tmod_eq_emod_of_nonneg (by omega)]; omega))
  · intro a vs W hX hR he hf K hK
    have e45 : a.eval (.tmp 45) = .bool true := (he 13 45 (by kernel_rfl) rfl).trans (hR 13 (by kernel_rfl))
    refine Eq.mpr (if_pos (by exact (wanted_some rfl rfl e45).trans rfl)) ?_
    have e2 : a.eval (.tmp 2) = .slice (some ⟨b1, 0, none⟩) 12 c1 := hf 2 (by kernel_rfl)
    refine wp_value (v := .slice (some ⟨b1, 0, none⟩) 12 c1) ?_ (hK _ _ rfl (grown_refl W _))
    simp only [execOp, e2]
    try go_simp
    try (first | rfl | omega | (simp only [IntKind.wrap_i64, IntKind.wrap_u8, IntKind.wrap_u64, IntKind.wrap_u16, IntKind.wrap_u32]; omega) | (rw [Int.tmod_eq_emod_of_nonneg (by omega)]) | (rw [Int.tmod_eq_emod_of_nonneg (by omega)]; omega))
  · intro a vs W hX hR he hf K hK
    have e45 : a.eval (.tmp 45) = .bool true := (he 13 45 (by kernel_rfl) rfl).trans (hR 13 (by kernel_rfl))
    refine Eq.mpr (if_pos (by exact (wanted_some rfl rfl e45).trans rfl)) ?_
    have e46 : a.eval (.tmp 46) = .slice (some ⟨b1, 0, none⟩) 12 c1 := (he 14 46 (by kernel_rfl) rfl).trans (hR 14 (by kernel_rfl))
    have f46 := e46
    simp only [Act.eval, Array.getD_eq_getD_getElem?] at f46
    refine wp_value (v := .slice (some ⟨b1, 4, none⟩) 4 (c1 - 4)) ?_ (hK _ _ rfl (grown_refl W _))
    simp only [execOp, e46]
    try go_simp
    try (first | rfl | omega | (simp only [IntKind.wrap_i64, IntKind.wrap_u8, IntKind.wrap_u64, IntKind.wrap_u16, IntKind.wrap_u32]; omega) | (rw [Int.tmod_eq_emod_of_nonneg (by omega)]) | (rw [Int.tmod_eq_emod_of_nonneg (by omega)]; omega))
  · intro a vs W hX hR he hf K hK
    have e45 : a.eval (.tmp 45) = .bool true := (he 13 45 (by kernel_rfl) rfl).trans (hR 13 (by kernel_rfl))
    refine Eq.mpr (if_pos (by exact (wanted_some rfl rfl e45).trans rfl)) ?_
    have e47 : a.eval (.tmp 47) = .slice (some ⟨b1, 4, none⟩) 4 (c1 - 4) := (he 15 47 (by kernel_rfl) rfl).trans (hR 15 (by kernel_rfl))
    have hbW := bthen (below_drew _) (grow_below hX)
    exact wp_value (exec_str 26 9 5 _ rfl Try.underlying26 Try.underlying5 Try.underlying9 (some ⟨b1, 4, none⟩) 4 (c1 - 4) [0, 8, 1, 1] e47 ⟨(by have h9 := (H1.out.below hbW).row.sub1 (i := 4) (k := 4) (by omega); rw [addr_add1] at h9; exact h9), (by show 4 ≤ c1 - 4; omega), (by have h8 := H1.out.cap; show c1 - 4 ≤ maxLen; omega)⟩) (hK _ _ rfl (grown_refl W _))
  · intro a vs W hX hR he hf K hK
    have e45 : a.eval (.tmp 45) = .bool true := (he 13 45 (by kernel_rfl) rfl).trans (hR 13 (by kernel_rfl))
    refine Eq.mpr (if_pos (by exact (wanted_some rfl rfl e45).trans rfl)) ?_
    have e48 : a.eval (.tmp 48) = str [0, 8, 1, 1] := (he 16 48 (by kernel_rfl) rfl).trans (hR 16 (by kernel_rfl))
    refine wp_value (v := .bool true) ?_ (hK _ _ rfl (grown_refl W _))
    simp only [execOp, e48]
    try go_simp
    try (first | rfl | omega | (simp only [IntKind.wrap_i64, IntKind.wrap_u8, IntKind.wrap_u64, IntKind.wrap_u16, IntKind.wrap_u32]; omega) | (rw [Int.tmod_eq_emod_of_nonneg (by omega)]) | (rw [Int.tmod_eq_emod_of_nonneg (by omega)]; omega))
  · intro a vs W hX hR he hf K hK
    rw [if_pos (wanted_none rfl)]
    have e45 : a.eval (.tmp 45) = .bool true := (he 13 45 (by kernel_rfl) rfl).trans (hR 13 (by kernel_rfl))
    have e49 : a.eval (.tmp 49) = .bool true := (he 17 49 (by kernel_rfl) rfl).trans (hR 17 (by kernel_rfl))
    refine wp_value (v := .bool true) ?_ (hK _ _ rfl (grown_refl W _))
    simp only [execOp, e45, e49]
    try go_simp
    try (first | rfl | omega | (simp only [IntKind.wrap_i64, IntKind.wrap_u8, IntKind.wrap_u64, IntKind.wrap_u16, IntKind.wrap_u32]; omega) | (rw [Int.tmod_eq_emod_of_nonneg (by omega)]) | (rw [Int.tmod_eq_emod_of_nonneg (by omega)]; omega))
  · intro a vs W hX hR he hf K hK
    rw [if_pos (wanted_none rfl)]
    have e50 : a.eval (.tmp 50) = .bool true := (he 18 50 (by kernel_rfl) rfl).trans (hR 18 (by kernel_rfl))
    refine wp_value (v := .bool true) ?_ (hK _ _ rfl (grown_refl W _))
    simp only [execOp, e50]
    try go_simp
    try (first | rfl | omega | (simp only [IntKind.wrap_i64, IntKind.wrap_u8, IntKind.wrap_u64, IntKind.wrap_u16, IntKind.wrap_u32]; omega) | (rw [Int.tmod_eq_emod_of_nonneg (by omega)]) | (rw [Int.tmod_eq_emod_of_nonneg (by omega)]; omega))
  · intro a vs W hX hR he hf K hK
    have e51 : a.eval (.tmp 51) = .bool true := (he 19 51 (by kernel_rfl) rfl).trans (hR 19 (by kernel_rfl))
    refine Eq.mpr (if_pos (by exact (wanted_some rfl rfl e51).trans rfl)) ?_
    have e5 : a.eval (.tmp 5) = .int .i64 0 := hf 5 (by kernel_rfl)
    refine wp_value (v := .int .i64 0) ?_ (hK _ _ rfl (grown_refl W _))
    simp only [execOp, e5]
    try go_simp
    try (first | rfl | omega | (simp only [IntKind.wrap_i64, IntKind.wrap_u8, IntKind.wrap_u64, IntKind.wrap_u16, IntKind.wrap_u32]; omega) | (rw [Int.tmod_eq_emod_of_nonneg (by omega)]) | (rw [Int.tmod_eq_emod_of_nonneg (by omega)]; omega))
  · intro a vs W hX hR he hf K hK
    have e51 : a.eval (.tmp 51) = .bool true := (he 19 51 (by kernel_rfl) rfl).trans (hR 19 (by kernel_rfl))
    refine Eq.mpr (if_pos (by exact (wanted_some rfl rfl e51).trans rfl)) ?_
    have e52 : a.eval (.tmp 52) = .int .i64 0 := (he 20 52 (by kernel_rfl) rfl).trans (hR 20 (by kernel_rfl))
    refine wp_value (v := .bool true) ?_ (hK _ _ rfl (grown_refl W _))
    simp only [execOp, e52]
    try go_simp
    try (first | rfl | omega | (simp only [IntKind.wrap_i64, IntKind.wrap_u8, IntKind.wrap_u64, IntKind.wrap_u16, IntKind.wrap_u32]; omega) | (rw [Int.tmod_eq_emod_of_nonneg (by omega)]) | (rw [Int.tmod_eq_emod_of_nonneg (by omega)]; omega))
  · intro a vs W hX hR he hf K hK
    rw [if_pos (wanted_none rfl)]
    have e51 : a.eval (.tmp 51) = .bool true := (he 19 51 (by kernel_rfl) rfl).trans (hR 19 (by kernel_rfl))
    have e53 : a.eval (.tmp 53) = .bool true := (he 21 53 (by kernel_rfl) rfl).trans (hR 21 (by kernel_rfl))
    refine wp_value (v := .bool true) ?_ (hK _ _ rfl (grown_refl W _))
    simp only [execOp, e51, e53]
    try go_simp
    try (first | rfl | omega | (simp only [IntKind.wrap_i64, IntKind.wrap_u8, IntKind.wrap_u64, IntKind.wrap_u16, IntKind.wrap_u32]; omega) | (rw [Int.tmod_eq_emod_of_nonneg (by omega)]) | (rw [Int.tmod_eq_emod_of_nonneg (by omega)]; omega))
  · intro a vs W hX hR he hf K hK
    rw [if_pos (wanted_none rfl)]
    have e54 : a.eval (.tmp 54) = .bool true := (he 22 54 (by kernel_rfl) rfl).trans (hR 22 (by kernel_rfl))
    refine wp_value (v := .bool true) ?_ (hK _ _ rfl (grown_refl W _))
    simp only [execOp, e54]
    try go_simp
    try (first | rfl | omega | (simp only [IntKind.wrap_i64, IntKind.wrap_u8, IntKind.wrap_u64, IntKind.wrap_u16, IntKind.wrap_u32]; omega) | (rw [Int.tmod_eq_emod_of_nonneg (by omega)]) | (rw [Int.tmod_eq_emod_of_nonneg (by omega)]; omega))
  · intro a vs W hX hR he hf K hK
    have e55 : a.eval (.tmp 55) = .bool true := (he 23 55 (by kernel_rfl) rfl).trans (hR 23 (by kernel_rfl))
    refine Eq.mpr (if_pos (by exact (wanted_some rfl rfl e55).trans rfl)) ?_
    have e4 : a.eval (.tmp 4) = .slice (some ⟨b2, o2, none⟩) 1 c2 := hf 4 (by kernel_rfl)
    refine wp_value (v := .slice (some ⟨b2, o2, none⟩) 1 c2) ?_ (hK _ _ rfl (grown_refl W _))
    simp only [execOp, e4]
    try go_simp
    try (first | rfl | omega | (simp only [IntKind.wrap_i64, IntKind.wrap_u8, IntKind.wrap_u64, IntKind.wrap_u16, IntKind.wrap_u32]; omega) | (rw [Int.tmod_eq_emod_of_nonneg (by omega)]) | (rw [Int.tmod_eq_emod_of_nonneg (by omega)]; omega))
  · intro a vs W hX hR he hf K hK
    have e55 : a.eval (.tmp 55) = .bool true := (he 23 55 (by kernel_rfl) rfl).trans (hR 23 (by kernel_rfl))
    refine Eq.mpr (if_pos (by exact (wanted_some rfl rfl e55).trans rfl)) ?_
    have e56 : a.eval (.tmp 56) = .slice (some ⟨b2, o2, none⟩) 1 c2 := (he 24 56 (by kernel_rfl) rfl).trans (hR 24 (by kernel_rfl))
    have f56 := e56
    simp only [Act.eval, Array.getD_eq_getD_getElem?] at f56
    refine wp_value (v := .int .i64 (1 : Int)) ?_ (hK _ _ rfl (grown_refl W _))
    simp only [execOp, e56]
    try go_simp
    try (first | rfl | omega | (simp only [IntKind.wrap_i64, IntKind.wrap_u8, IntKind.wrap_u64, IntKind.wrap_u16, IntKind.wrap_u32]; omega) | (rw [Int.tmod_eq_emod_of_nonneg (by omega)]) | (rw [Int.tmod_eq_emod_of_nonneg (by omega)]; omega))
  · intro a vs W hX hR he hf K hK
    have e55 : a.eval (.tmp 55) = .bool true := (he 23 55 (by kernel_rfl) rfl).trans (hR 23 (by kernel_rfl))
    refine Eq.mpr (if_pos (by exact (wanted_some rfl rfl e55).trans rfl)) ?_
    have e57 : a.eval (.tmp 57) = .int .i64 (1 : Int) := (he 25 57 (by kernel_rfl) rfl).trans (hR 25 (by kernel_rfl))
    refine wp_value (v := .bool true) ?_ (hK _ _ rfl (grown_refl W _))
    simp only [execOp, e57]
    try go_simp
    try (first | rfl | omega | (simp only [IntKind.wrap_i64, IntKind.wrap_u8, IntKind.wrap_u64, IntKind.wrap_u16, IntKind.wrap_u32]; omega) | (rw [Int.tmod_eq_emod_of_nonneg (by omega)]) | (rw [Int.tmod_eq_emod_of_nonneg (by omega)]; omega))
  · intro a vs W hX hR he hf K hK
    rw [if_pos (wanted_none rfl)]
    have e55 : a.eval (.tmp 55) = .bool true := (he 23 55 (by kernel_rfl) rfl).trans (hR 23 (by kernel_rfl))
    have e58 : a.eval (.tmp 58) = .bool true := (he 26 58 (by kernel_rfl) rfl).trans (hR 26 (by kernel_rfl))
    refine wp_value (v := .bool true) ?_ (hK _ _ rfl (grown_refl W _))
    simp only [execOp, e55, e58]
    try go_simp
    try (first | rfl | omega | (simp only [IntKind.wrap_i64, IntKind.wrap_u8, IntKind.wrap_u64, IntKind.wrap_u16, IntKind.wrap_u32]; omega) | (rw [Int.tmod_eq_emod_of_nonneg (by omega)]) | (rw [Int.tmod_eq_emod_of_nonneg (by omega)]; omega))
  · intro a vs W hX hR he hf K hK
    rw [if_pos (wanted_none rfl)]
    have e59 : a.eval (.tmp 59) = .bool true := (he 27 59 (by kernel_rfl) rfl).trans (hR 27 (by kernel_rfl))
    refine wp_value (v := .bool true) ?_ (hK _ _ rfl (grown_refl W _))
    simp only [execOp, e59]
    try go_simp
    try (first | rfl | omega | (simp only [IntKind.wrap_i64, IntKind.wrap_u8, IntKind.wrap_u64, IntKind.wrap_u16, IntKind.wrap_u32]; omega) | (rw [Int.tmod_eq_emod_of_nonneg (by omega)]) | (rw [Int.tmod_eq_emod_of_nonneg (by omega)]; omega))
  · intro a vs W hX hR he hf K hK
    have e60 : a.eval (.tmp 60) = .bool true := (he 28 60 (by kernel_rfl) rfl).trans (hR 28 (by kernel_rfl))
    refine Eq.mpr (if_pos (by exact (wanted_some rfl rfl e60).trans rfl)) ?_
    have e4 : a.eval (.tmp 4) = .slice (some ⟨b2, o2, none⟩) 1 c2 := hf 4 (by kernel_rfl)
    refine wp_value (v := .slice (some ⟨b2, o2, none⟩) 1 c2) ?_ (hK _ _ rfl (grown_refl W _))
    simp only [execOp, e4]
    try go_simp
    try (first | rfl | omega | (simp only [IntKind.wrap_i64, IntKind.wrap_u8, IntKind.wrap_u64, IntKind.wrap_u16, IntKind.wrap_u32]; omega) | (rw [Int.tmod_eq_emod_of_nonneg (by omega)]) | (rw [Int.tmod_eq_emod_of_nonneg (by omega)]; omega))
  · intro a vs W hX hR he hf K hK
    have e60 : a.eval (.tmp 60) = .bool true := (he 28 60 (by kernel_rfl) rfl).trans (hR 28 (by kernel_rfl))
    refine Eq.mpr (if_pos (by exact (wanted_some rfl rfl e60).trans rfl)) ?_
    have e61 : a.eval (.tmp 61) = .slice (some ⟨b2, o2, none⟩) 1 c2 := (he 29 61 (by kernel_rfl) rfl).trans (hR 29 (by kernel_rfl))
    refine wp_value (v := .pointer (some ⟨b2, o2, none⟩)) ?_ (hK _ _ rfl (grown_refl W _))
    simp only [execOp, e61]
    try go_simp
    try (first | rfl | omega | (simp only [IntKind.wrap_i64, IntKind.wrap_u8, IntKind.wrap_u64, IntKind.wrap_u16, IntKind.wrap_u32]; omega) | (rw [Int.tmod_eq_emod_of_nonneg (by omega)]) | (rw [Int.tmod_eq_emod_of_nonneg (by omega)]; omega))
  · intro a vs W hX hR he hf K hK
    have e60 : a.eval (.tmp 60) = .bool true := (he 28 60 (by kernel_rfl) rfl).trans (hR 28 (by kernel_rfl))
    refine Eq.mpr (if_pos (by exact (wanted_some rfl rfl e60).trans rfl)) ?_
    have e62 : a.eval (.tmp 62) = .pointer (some ⟨b2, o2, none⟩) := (he 30 62 (by kernel_rfl) rfl).trans (hR 30 (by kernel_rfl))
    have hbW := bthen (below_drew _) (grow_below hX)
    exact wp_value (exec_load_mid _ _ rfl b2 o2 e62 e22.cells _ (fun j v hv => (hbW.cell (p := ⟨b2, _, none⟩) hb2).trans (by have h9 := HR2.out j v hv; simpa using h9)) Try.underlying54 rfl (by kernel_rfl)) (hK _ _ rfl (grown_refl W _))
  · intro a vs W hX hR he hf K hK
    have e60 : a.eval (.tmp 60) = .bool true := (he 28 60 (by kernel_rfl) rfl).trans (hR 28 (by kernel_rfl))
    refine Eq.mpr (if_pos (by exact (wanted_some rfl rfl e60).trans rfl)) ?_
    have e1 : a.eval (.tmp 1) = .pointer (some ⟨g0, 0, none⟩) := hf 1 (by kernel_rfl)
    have hbW := bthen (below_drew _) (grow_below hX)
    exact wp_value (exec_load _ _ rfl g0 e1 54 e22.cells _ (HE.out.on hbW) Try.underlying54 rfl (by kernel_rfl)) (hK _ _ rfl (grown_refl W _))
  · intro a vs W hX hR he hf K hK
    have e60 : a.eval (.tmp 60) = .bool true := (he 28 60 (by kernel_rfl) rfl).trans (hR 28 (by kernel_rfl))
    refine Eq.mpr (if_pos (by exact (wanted_some rfl rfl e60).trans rfl)) ?_
    have e63 : a.eval (.tmp 63) = .agg e22.cells.toArray := (he 31 63 (by kernel_rfl) rfl).trans (hR 31 (by kernel_rfl))
    have e64 : a.eval (.tmp 64) = .agg e22.cells.toArray := (he 32 64 (by kernel_rfl) rfl).trans (hR 32 (by kernel_rfl))
    exact wp_value (exec_eqEn _ _ _ rfl e22 e63 e64) (hK _ _ rfl (grown_refl W _))
  · intro a vs W hX hR he hf K hK
    rw [if_pos (wanted_none rfl)]
    have e60 : a.eval (.tmp 60) = .bool true := (he 28 60 (by kernel_rfl) rfl).trans (hR 28 (by kernel_rfl))
    have e65 : a.eval (.tmp 65) = .bool true := (he 33 65 (by kernel_rfl) rfl).trans (hR 33 (by kernel_rfl))
    refine wp_value (v := .bool true) ?_ (hK _ _ rfl (grown_refl W _))
    simp only [execOp, e60, e65]
    try go_simp
    try (first | rfl | omega | (simp only [IntKind.wrap_i64, IntKind.wrap_u8, IntKind.wrap_u64, IntKind.wrap_u16, IntKind.wrap_u32]; omega) | (rw [Int.tmod_eq_emod_of_nonneg (by omega)]) | (rw [Int.tmod_eq_emod_of_nonneg (by omega)]; omega))
  · intro a vs W hX hR he hf K hK
    rw [if_pos (wanted_none rfl)]
    have e66 : a.eval (.tmp 66) = .bool true := (he 34 66 (by kernel_rfl) rfl).trans (hR 34 (by kernel_rfl))
    refine wp_value (v := .bool true) ?_ (hK _ _ rfl (grown_refl W _))
    simp only [execOp, e66]
    try go_simp
    try (first | rfl | omega | (simp only [IntKind.wrap_i64, IntKind.wrap_u8, IntKind.wrap_u64, IntKind.wrap_u16, IntKind.wrap_u32]; omega) | (rw [Int.tmod_eq_emod_of_nonneg (by omega)]) | (rw [Int.tmod_eq_emod_of_nonneg (by omega)]; omega))
  · intro a vs W hX hR he hf K hK
    have e67 : a.eval (.tmp 67) = .bool true := (he 35 67 (by kernel_rfl) rfl).trans (hR 35 (by kernel_rfl))
    refine Eq.mpr (if_pos (by exact (wanted_some rfl rfl e67).trans rfl)) ?_
    have e7 : a.eval (.tmp 7) = .int .i64 0 := hf 7 (by kernel_rfl)
    refine wp_value (v := .int .i64 0) ?_ (hK _ _ rfl (grown_refl W _))
    simp only [execOp, e7]
    try go_simp
    try (first | rfl | omega | (simp only [IntKind.wrap_i64, IntKind.wrap_u8, IntKind.wrap_u64, IntKind.wrap_u16, IntKind.wrap_u32]; omega) | (rw [Int.tmod_eq_emod_of_nonneg (by omega)]) | (rw [Int.tmod_eq_emod_of_nonneg (by omega)]; omega))
  · intro a vs W hX hR he hf K hK
    have e67 : a.eval (.tmp 67) = .bool true := (he 35 67 (by kernel_rfl) rfl).trans (hR 35 (by kernel_rfl))
    refine Eq.mpr (if_pos (by exact (wanted_some rfl rfl e67).trans rfl)) ?_
    have e68 : a.eval (.tmp 68) = .int .i64 0 := (he 36 68 (by kernel_rfl) rfl).trans (hR 36 (by kernel_rfl))
    refine wp_value (v := .bool true) ?_ (hK _ _ rfl (grown_refl W _))
    simp only [execOp, e68]
    try go_simp
    try (first | rfl | omega | (simp only [IntKind.wrap_i64, IntKind.wrap_u8, IntKind.wrap_u64, IntKind.wrap_u16, IntKind.wrap_u32]; omega) | (rw [Int.tmod_eq_emod_of_nonneg (by omega)]) | (rw [Int.tmod_eq_emod_of_nonneg (by omega)]; omega))
  · intro a vs W hX hR he hf K hK
    rw [if_pos (wanted_none rfl)]
    have e67 : a.eval (.tmp 67) = .bool true := (he 35 67 (by kernel_rfl) rfl).trans (hR 35 (by kernel_rfl))
    have e69 : a.eval (.tmp 69) = .bool true := (he 37 69 (by kernel_rfl) rfl).trans (hR 37 (by kernel_rfl))
    refine wp_value (v := .bool true) ?_ (hK _ _ rfl (grown_refl W _))
    simp only [execOp, e67, e69]
    try go_simp
    try (first | rfl | omega | (simp only [IntKind.wrap_i64, IntKind.wrap_u8, IntKind.wrap_u64, IntKind.wrap_u16, IntKind.wrap_u32]; omega) | (rw [Int.tmod_eq_emod_of_nonneg (by omega)]) | (rw [Int.tmod_eq_emod_of_nonneg (by omega)]; omega))
  · intro a vs W hX hR he hf K hK
    rw [if_pos (wanted_none rfl)]
    have e70 : a.eval (.tmp 70) = .bool true := (he 38 70 (by kernel_rfl) rfl).trans (hR 38 (by kernel_rfl))
    refine wp_value (v := .bool true) ?_ (hK _ _ rfl (grown_refl W _))
    simp only [execOp, e70]
    try go_simp
    try (first | rfl | omega | (simp only [IntKind.wrap_i64, IntKind.wrap_u8, IntKind.wrap_u64, IntKind.wrap_u16, IntKind.wrap_u32]; omega) | (rw [Int.tmod_eq_emod_of_nonneg (by omega)]) | (rw [Int.tmod_eq_emod_of_nonneg (by omega)]; omega))
  · intro a vs W hX hR he hf K hK
    have e71 : a.eval (.tmp 71) = .bool true := (he 39 71 (by kernel_rfl) rfl).trans (hR 39 (by kernel_rfl))
    refine Eq.mpr (if_pos (by exact (wanted_some rfl rfl e71).trans rfl)) ?_
    have e6 : a.eval (.tmp 6) = .slice A3 1 c3 := hf 6 (by kernel_rfl)
    refine wp_value (v := .slice A3 1 c3) ?_ (hK _ _ rfl (grown_refl W _))
    simp only [execOp, e6]
    try go_simp
    try (first | rfl | omega | (simp only [IntKind.wrap_i64, IntKind.wrap_u8, IntKind.wrap_u64, IntKind.wrap_u16, IntKind.wrap_u32]; omega) | (rw [Int.tmod_eq_emod_of_nonneg (by omega)]) | (rw [Int.tmod_eq_emod_of_nonneg (by omega)]; omega))
  · intro a vs W hX hR he hf K hK
    have e71 : a.eval (.tmp 71) = .bool true := (he 39 71 (by kernel_rfl) rfl).trans (hR 39 (by kernel_rfl))
    refine Eq.mpr (if_pos (by exact (wanted_some rfl rfl e71).trans rfl)) ?_
    have e72 : a.eval (.tmp 72) = .slice A3 1 c3 := (he 40 72 (by kernel_rfl) rfl).trans (hR 40 (by kernel_rfl))
    have f72 := e72
    simp only [Act.eval, Array.getD_eq_getD_getElem?] at f72
    refine wp_value (v := .int .i64 (1 : Int)) ?_ (hK _ _ rfl (grown_refl W _))
    simp only [execOp, e72]
    try go_simp
    try (first | rfl | omega | (simp only [IntKind.wrap_i64, IntKind.wrap_u8, IntKind.wrap_u64, IntKind.wrap_u16, IntKind.wrap_u32]; omega) | (rw [Int.tmod_eq_emod_of_nonneg (by omega)]) | (rw [Int.tmod_eq_emod_of_nonneg (by omega)]; omega))
  · intro a vs W hX hR he hf K hK
    have e71 : a.eval (.tmp 71) = .bool true := (he 39 71 (by kernel_rfl) rfl).trans (hR 39 (by kernel_rfl))
    refine Eq.mpr (if_pos (by exact (wanted_some rfl rfl e71).trans rfl)) ?_
    have e73 : a.eval (.tmp 73) = .int .i64 (1 : Int) := (he 41 73 (by kernel_rfl) rfl).trans (hR 41 (by kernel_rfl))
    refine wp_value (v := .bool true) ?_ (hK _ _ rfl (grown_refl W _))
    simp only [execOp, e73]
    try go_simp
    try (first | rfl | omega | (simp only [IntKind.wrap_i64, IntKind.wrap_u8, IntKind.wrap_u64, IntKind.wrap_u16, IntKind.wrap_u32]; omega) | (rw [Int.tmod_eq_emod_of_nonneg (by omega)]) | (rw [Int.tmod_eq_emod_of_nonneg (by omega)]; omega))
  · intro a vs W hX hR he hf K hK
    rw [if_pos (wanted_none rfl)]
    have e71 : a.eval (.tmp 71) = .bool true := (he 39 71 (by kernel_rfl) rfl).trans (hR 39 (by kernel_rfl))
    have e74 : a.eval (.tmp 74) = .bool true := (he 42 74 (by kernel_rfl) rfl).trans (hR 42 (by kernel_rfl))
    refine wp_value (v := .bool true) ?_ (hK _ _ rfl (grown_refl W _))
    simp only [execOp, e71, e74]
    try go_simp
    try (first | rfl | omega | (simp only [IntKind.wrap_i64, IntKind.wrap_u8, IntKind.wrap_u64, IntKind.wrap_u16, IntKind.wrap_u32]; omega) | (rw [Int.tmod_eq_emod_of_nonneg (by omega)]) | (rw [Int.tmod_eq_emod_of_nonneg (by omega)]; omega))
  · intro a vs W hX hR he hf K hK
    rw [if_pos (wanted_none rfl)]
    have e75 : a.eval (.tmp 75) = .bool true := (he 43 75 (by kernel_rfl) rfl).trans (hR 43 (by kernel_rfl))
    refine wp_value (v := .bool true) ?_ (hK _ _ rfl (grown_refl W _))
    simp only [execOp, e75]
    try go_simp
    try (first | rfl | omega | (simp only [IntKind.wrap_i64, IntKind.wrap_u8, IntKind.wrap_u64, IntKind.wrap_u16, IntKind.wrap_u32]; omega) | (rw [Int.tmod_eq_emod_of_nonneg (by omega)]) | (rw [Int.tmod_eq_emod_of_nonneg (by omega)]; omega))
  · intro a vs W hX hR he hf K hK
    have e76 : a.eval (.tmp 76) = .bool true := (he 44 76 (by kernel_rfl) rfl).trans (hR 44 (by kernel_rfl))
    refine Eq.mpr (if_pos (by exact (wanted_some rfl rfl e76).trans rfl)) ?_
    have e9 : a.eval (.tmp 9) = .int .i64 0 := hf 9 (by kernel_rfl)
    refine wp_value (v := .int .i64 0) ?_ (hK _ _ rfl (grown_refl W _))
    simp only [execOp, e9]
    try go_simp
    try (first | rfl | omega | (simp only [IntKind.wrap_i64, IntKind.wrap_u8, IntKind.wrap_u64, IntKind.wrap_u16, IntKind.wrap_u32]; omega) | (rw [Int.tmod_eq_emod_of_nonneg (by omega)]) | (rw [Int.tmod_eq_emod_of_nonneg (by omega)]; omega))
  · intro a vs W hX hR he hf K hK
    have e76 : a.eval (.tmp 76) = .bool true := (he 44 76 (by kernel_rfl) rfl).trans (hR 44 (by kernel_rfl))
    refine Eq.mpr (if_pos (by exact (wanted_some rfl rfl e76).trans rfl)) ?_
    have e77 : a.eval (.tmp 77) = .int .i64 0 := (he 45 77 (by kernel_rfl) rfl).trans (hR 45 (by kernel_rfl))
    refine wp_value (v := .bool true) ?_ (hK _ _ rfl (grown_refl W _))
    simp only [execOp, e77]
    try go_simp
    try (first | rfl | omega | (simp only [IntKind.wrap_i64, IntKind.wrap_u8, IntKind.wrap_u64, IntKind.wrap_u16, IntKind.wrap_u32]; omega) | (rw [Int.tmod_eq_emod_of_nonneg (by omega)]) | (rw [Int.tmod_eq_emod_of_nonneg (by omega)]; omega))
  · intro a vs W hX hR he hf K hK
    rw [if_pos (wanted_none rfl)]
    have e76 : a.eval (.tmp 76) = .bool true := (he 44 76 (by kernel_rfl) rfl).trans (hR 44 (by kernel_rfl))
    have e78 : a.eval (.tmp 78) = .bool true := (he 46 78 (by kernel_rfl) rfl).trans (hR 46 (by kernel_rfl))
    refine wp_value (v := .bool true) ?_ (hK _ _ rfl (grown_refl W _))
    simp only [execOp, e76, e78]
    try go_simp
    try (first | rfl | omega | (simp only [IntKind.wrap_i64, IntKind.wrap_u8, IntKind.wrap_u64, IntKind.wrap_u16, IntKind.wrap_u32]; omega) | (rw [Int.tmod_eq_emod_of_nonneg (by omega)]) | (rw [Int.tmod_eq_emod_of_nonneg (by omega)]; omega))
  · intro a vs W hX hR he hf K hK
    rw [if_pos (wanted_none rfl)]
    have e79 : a.eval (.tmp 79) = .bool true := (he 47 79 (by kernel_rfl) rfl).trans (hR 47 (by kernel_rfl))
    refine wp_value (v := .bool true) ?_ (hK _ _ rfl (grown_refl W _))
    simp only [execOp, e79]
    try go_simp
    try (first | rfl | omega | (simp only [IntKind.wrap_i64, IntKind.wrap_u8, IntKind.wrap_u64, IntKind.wrap_u16, IntKind.wrap_u32]; omega) | (rw [Int.tmod_eq_emod_of_nonneg (by omega)]) | (rw [Int.tmod_eq_emod_of_nonneg (by omega)]; omega))
  · intro a vs W hX hR he hf K hK
    have e80 : a.eval (.tmp 80) = .bool true := (he 48 80 (by kernel_rfl) rfl).trans (hR 48 (by kernel_rfl))
    refine Eq.mpr (if_pos (by exact (wanted_some rfl rfl e80).trans rfl)) ?_
    have e8 : a.eval (.tmp 8) = .slice A4 12 c4 := hf 8 (by kernel_rfl)
    refine wp_value (v := .slice A4 12 c4) ?_ (hK _ _ rfl (grown_refl W _))
    simp only [execOp, e8]
    try go_simp
    try (first | rfl | omega | (simp only [IntKind.wrap_i64, IntKind.wrap_u8, IntKind.wrap_u64, IntKind.wrap_u16, IntKind.wrap_u32]; omega) | (rw [Int.tmod_eq_emod_of_nonneg (by omega)]) | (rw [Int.tmod_eq_emod_of_nonneg (by omega)]; omega))
  · intro a vs W hX hR he hf K hK
    have e80 : a.eval (.tmp 80) = .bool true := (he 48 80 (by kernel_rfl) rfl).trans (hR 48 (by kernel_rfl))
    refine Eq.mpr (if_pos (by exact (wanted_some rfl rfl e80).trans rfl)) ?_
    have e81 : a.eval (.tmp 81) = .slice A4 12 c4 := (he 49 81 (by kernel_rfl) rfl).trans (hR 49 (by kernel_rfl))
    have hbW := bthen (below_drew _) (grow_below hX)
    exact wp_value (exec_str 26 9 5 _ rfl Try.underlying26 Try.underlying5 Try.underlying9 A4 12 c4 z22 e81 ⟨(H4.out.below hbW).row, H4.out.le, H4.out.cap⟩) (hK _ _ rfl (grown_refl W _))
  · intro a vs W hX hR he hf K hK
    have e80 : a.eval (.tmp 80) = .bool true := (he 48 80 (by kernel_rfl) rfl).trans (hR 48 (by kernel_rfl))
    refine Eq.mpr (if_pos (by exact (wanted_some rfl rfl e80).trans rfl)) ?_
    have e2 : a.eval (.tmp 2) = .slice (some ⟨b1, 0, none⟩) 12 c1 := hf 2 (by kernel_rfl)
    refine wp_value (v := .slice (some ⟨b1, 0, none⟩) 12 c1) ?_ (hK _ _ rfl (grown_refl W _))
    simp only [execOp, e2]
    try go_simp
    try (first | rfl | omega | (simp only [IntKind.wrap_i64, IntKind.wrap_u8, IntKind.wrap_u64, IntKind.wrap_u16, IntKind.wrap_u32]; omega) | (rw [Int.tmod_eq_emod_of_nonneg (by omega)]) | (rw [Int.tmod_eq_emod_of_nonneg (by omega)]; omega))
  · intro a vs W hX hR he hf K hK
    have e80 : a.eval (.tmp 80) = .bool true := (he 48 80 (by kernel_rfl) rfl).trans (hR 48 (by kernel_rfl))
    refine Eq.mpr (if_pos (by exact (wanted_some rfl rfl e80).trans rfl)) ?_
    have e83 : a.eval (.tmp 83) = .slice (some ⟨b1, 0, none⟩) 12 c1 := (he 51 83 (by kernel_rfl) rfl).trans (hR 51 (by kernel_rfl))
    have hbW := bthen (below_drew _) (grow_below hX)
    exact wp_value (exec_str 26 9 5 _ rfl Try.underlying26 Try.underlying5 Try.underlying9 (some ⟨b1, 0, none⟩) 12 c1 z22 e83 ⟨(H1.out.below hbW).row, H1.out.le, H1.out.cap⟩) (hK _ _ rfl (grown_refl W _))
  · intro a vs W hX hR he hf K hK
    have e80 : a.eval (.tmp 80) = .bool true := (he 48 80 (by kernel_rfl) rfl).trans (hR 48 (by kernel_rfl))
    refine Eq.mpr (if_pos (by exact (wanted_some rfl rfl e80).trans rfl)) ?_
    have e82 : a.eval (.tmp 82) = str z22 := (he 50 82 (by kernel_rfl) rfl).trans (hR 50 (by kernel_rfl))
    have e84 : a.eval (.tmp 84) = str z22 := (he 52 84 (by kernel_rfl) rfl).trans (hR 52 (by kernel_rfl))
    refine wp_value (v := .bool true) ?_ (hK _ _ rfl (grown_refl W _))
    simp only [execOp, e82, e84]
    try go_simp
    try (first | rfl | omega | (simp only [IntKind.wrap_i64, IntKind.wrap_u8, IntKind.wrap_u64, IntKind.wrap_u16, IntKind.wrap_u32]; omega) | (rw [Int.tmod_eq_emod_of_nonneg (by omega)]) | (rw [Int.tmod_eq_emod_of_nonneg (by omega)]; omega))
  · intro a vs W hX hR he hf K hK
    rw [if_pos (wanted_none rfl)]
    have e80 : a.eval (.tmp 80) = .bool true := (he 48 80 (by kernel_rfl) rfl).trans (hR 48 (by kernel_rfl))
    have e85 : a.eval (.tmp 85) = .bool true := (he 53 85 (by kernel_rfl) rfl).trans (hR 53 (by kernel_rfl))
    refine wp_value (v := .bool true) ?_ (hK _ _ rfl (grown_refl W _))
    simp only [execOp, e80, e85]
    try go_simp
    try (first | rfl | omega | (simp only [IntKind.wrap_i64, IntKind.wrap_u8, IntKind.wrap_u64, IntKind.wrap_u16, IntKind.wrap_u32]; omega) | (rw [Int.tmod_eq_emod_of_nonneg (by omega)]) | (rw [Int.tmod_eq_emod_of_nonneg (by omega)]; omega))
  · intro a vs W hX hR he hf K hK
    rw [if_pos (wanted_none rfl)]
    have e86 : a.eval (.tmp 86) = .bool true := (he 54 86 (by kernel_rfl) rfl).trans (hR 54 (by kernel_rfl))
    refine wp_value (v := .bool true) ?_ (hK _ _ rfl (grown_refl W _))
    simp only [execOp, e86]
    try go_simp
    try (first | rfl | omega | (simp only [IntKind.wrap_i64, IntKind.wrap_u8, IntKind.wrap_u64, IntKind.wrap_u16, IntKind.wrap_u32]; omega) | (rw [Int.tmod_eq_emod_of_nonneg (by omega)]) | (rw [Int.tmod_eq_emod_of_nonneg (by omega)]; omega))
  · intro vs W2 hX2 hR
    have q0 := hR 0 (by decide)
    have q1 := hR 1 (by decide)
    have q2 := hR 2 (by decide)
    have q3 := hR 3 (by decide)
    have q4 := hR 4 (by decide)
    have q5 := hR 5 (by decide)
    have q6 := hR 6 (by decide)
    have q7 := hR 7 (by decide)
    have q8 := hR 8 (by decide)
    have q9 := hR 9 (by decide)
    have q10 := hR 10 (by decide)
    have q11 := hR 11 (by decide)
    have q12 := hR 12 (by decide)
    have q13 := hR 13 (by decide)
    have q14 := hR 14 (by decide)
    have q15 := hR 15 (by decide)
    have q16 := hR 16 (by decide)
    have q17 := hR 17 (by decide)
    have q18 := hR 18 (by decide)
    have q19 := hR 19 (by decide)
    have q20 := hR 20 (by decide)
    have q21 := hR 21 (by decide)
    have q22 := hR 22 (by decide)
    have q23 := hR 23 (by decide)
    have q24 := hR 24 (by decide)
    have q25 := hR 25 (by decide)
    have q26 := hR 26 (by decide)
    have q27 := hR 27 (by decide)
    have q28 := hR 28 (by decide)
    have q29 := hR 29 (by decide)
    have q30 := hR 30 (by decide)
    have q31 := hR 31 (by decide)
    have q32 := hR 32 (by decide)
    have q33 := hR 33 (by decide)
    have q34 := hR 34 (by decide)
    have q35 := hR 35 (by decide)
    have q36 := hR 36 (by decide)
    have q37 := hR 37 (by decide)
    have q38 := hR 38 (by decide)
    have q39 := hR 39 (by decide)
    have q40 := hR 40 (by decide)
    have q41 := hR 41 (by decide)
    have q42 := hR 42 (by decide)
    have q43 := hR 43 (by decide)
    have q44 := hR 44 (by decide)
    have q45 := hR 45 (by decide)
    have q46 := hR 46 (by decide)
    have q47 := hR 47 (by decide)
    have q48 := hR 48 (by decide)
    have q49 := hR 49 (by decide)
    have q50 := hR 50 (by decide)
    have q51 := hR 51 (by decide)
    have q52 := hR 52 (by decide)
    have q53 := hR 53 (by decide)
    have q54 := hR 54 (by decide)
    have q55 := hR 55 (by decide)
    change vs 0 = .int .i64 0 at q0
    change vs 1 = .bool true at q1
    change vs 2 = .bool true at q2
    change vs 3 = .slice (some ⟨b1, 0, none⟩) 12 c1 at q3
    change vs 4 = .int .i64 (12 : Int) at q4
    change vs 5 = .bool true at q5
    change vs 6 = .bool true at q6
    change vs 7 = .bool true at q7
    change vs 8 = .slice (some ⟨b1, 0, none⟩) 12 c1 at q8
    change vs 9 = .slice (some ⟨b1, 0, none⟩) 2 c1 at q9
    change vs 10 = str [32, 0] at q10
    change vs 11 = .bool true at q11
    change vs 12 = .bool true at q12
    change vs 13 = .bool true at q13
    change vs 14 = .slice (some ⟨b1, 0, none⟩) 12 c1 at q14
    change vs 15 = .slice (some ⟨b1, 4, none⟩) 4 (c1 - 4) at q15
    change vs 16 = str [0, 8, 1, 1] at q16
    change vs 17 = .bool true at q17
    change vs 18 = .bool true at q18
    change vs 19 = .bool true at q19
    change vs 20 = .int .i64 0 at q20
    change vs 21 = .bool true at q21
    change vs 22 = .bool true at q22
    change vs 23 = .bool true at q23
    change vs 24 = .slice (some ⟨b2, o2, none⟩) 1 c2 at q24
    change vs 25 = .int .i64 (1 : Int) at q25
    change vs 26 = .bool true at q26
    change vs 27 = .bool true at q27
    change vs 28 = .bool true at q28
    change vs 29 = .slice (some ⟨b2, o2, none⟩) 1 c2 at q29
    change vs 30 = .pointer (some ⟨b2, o2, none⟩) at q30
    change vs 31 = .agg e22.cells.toArray at q31
    change vs 32 = .agg e22.cells.toArray at q32
    change vs 33 = .bool true at q33
    change vs 34 = .bool true at q34
    change vs 35 = .bool true at q35
    change vs 36 = .int .i64 0 at q36
    change vs 37 = .bool true at q37
    change vs 38 = .bool true at q38
    change vs 39 = .bool true at q39
    change vs 40 = .slice A3 1 c3 at q40
    change vs 41 = .int .i64 (1 : Int) at q41
    change vs 42 = .bool true at q42
    change vs 43 = .bool true at q43
    change vs 44 = .bool true at q44
    change vs 45 = .int .i64 0 at q45
    change vs 46 = .bool true at q46
    change vs 47 = .bool true at q47
    change vs 48 = .bool true at q48
    change vs 49 = .slice A4 12 c4 at q49
    change vs 50 = str z22 at q50
    change vs 51 = .slice (some ⟨b1, 0, none⟩) 12 c1 at q51
    change vs 52 = str z22 at q52
    change vs 53 = .bool true at q53
    change vs 54 = .bool true at q54
    change vs 55 = .bool true at q55
    simp only [putAll, Act.put, List.setIfInBounds_toArray, List.set_cons_zero, List.set_cons_succ, q0, q1, q2, q3, q4, q5, q6, q7, q8, q9, q10, q11, q12, q13, q14, q15, q16, q17, q18, q19, q20, q21, q22, q23, q24, q25, q26, q27, q28, q29, q30, q31, q32, q33, q34, q35, q36, q37, q38, q39, q40, q41, q42, q43, q44, q45, q46, q47, q48, q49, q50, q51, q52, q53, q54, q55]
    clear q0 q1 q2 q3 q4 q5 q6 q7 q8 q9 q10 q11 q12 q13 q14 q15 q16 q17 q18 q19 q20 q21 q22 q23 q24 q25 q26 q27 q28 q29 q30 q31 q32 q33 q34 q35 q36 q37 q38 q39 q40 q41 q42 q43 q44 q45 q46 q47 q48 q49 q50 q51 q52 q53 q54 q55
    clear hR
    have hbW := bthen (below_drew _) (grow_below hX2)
    have HB2 := Lib.hid (bthen HW.out hbW)
    clear hbW hX2
    go_wp2_with fail
    go_ret
    exact ⟨rfl, HB2.out⟩
end Go.Proofs.Ytbabkcdhihmomaa

/- awake of layer 20 (rewrite): the document's example. No condition. -/
import Derived.Test.YtmpaockaeoknmaaRw10
import Derived.Test.YtmpaockaeoknmaaRw5
namespace Go.Proofs.Ytmpaockaeoknmaa
open Go.RowKit Go.Maps
set_option linter.unusedVariables false
set_option maxRecDepth 20000
set_option linter.unusedSimpArgs false

theorem sameL (z : Bool × Int × Int) (w : World) : (Op.equalIn 10000 28 (.agg (leftC z).toArray) (.agg (leftC z).toArray)).run Try.prog w = .ok true w := by
  rw [run_equalIn_struct w 9999 28 _ _ Try.underlying28 (show Try.prog.stoodInHeld 28 = false by kernel_rfl)]
  refine eqF_cons (by decide) (part_one (by kernel_rfl) rfl) (part_one (by kernel_rfl) rfl) (eq_bool Try.underlying4 _) ?_
  refine eqF_cons (by decide) (part_one (by kernel_rfl) rfl) (part_one (by kernel_rfl) rfl) (eq_int Try.underlying5 _ _) ?_
  refine eqF_cons (by decide) (part_one (by kernel_rfl) rfl) (part_one (by kernel_rfl) rfl) (eq_int Try.underlying5 _ _) ?_
  exact eqF_nil
theorem run_eqlL (z : Bool × Int × Int) (w : World) : (binOp .eql 28 (.agg (leftC z).toArray) (.agg (leftC z).toArray)).run Try.prog w = .ok (.bool true) w := by
  rw [run_eql_struct, sameL z]
  rfl
theorem exec_eqL {w : World} {o : Oper} {a : Act} (x y : Operand) (ty : TypeId) (ho : o.op = .binOp .eql 28 x y ty) (z : Bool × Int × Int) (hx : a.eval x = .agg (leftC z).toArray) (hy : a.eval y = .agg (leftC z).toArray) : (execOp a.eval o).run Try.prog w = .ok (.value (.bool true)) w := by
  unfold execOp
  simp only [ho, hx, hy, Sem.run_bind, run_eqGuard_agg w .eql 28 x y _ _ (show Try.prog.eqGuardType Try.prog.depth 28 = false by kernel_rfl), run_eqlL z, Result.andThen_ok]
  rfl

def l20 : List Ent := [⟨17, 5, false, 9⟩, ⟨18, 0, true, 64⟩]
theorem fit20 : ∀ x ∈ l20, x.fitR := by
  intro x hx
  simp only [l20, List.mem_cons, List.not_mem_nil, or_false] at hx
  rcases hx with rfl | rfl <;> exact ⟨by decide, by decide, by decide⟩
theorem hp_lit (w : World) (op bk : Int) (A : Option Addr) (n c : Nat) (l : List Int) (h : Row w w.heap.size 1 A n (nv .i64 l)) (hc : n ≤ c) (hcm : c ≤ maxLen) (hl : ∀ x ∈ l, 0 ≤ x ∧ x ≤ 1048575) (ho : 0 ≤ op ∧ op ≤ 3) (hb : bk = -1) :
    (Hp.mk op A n c l 0 bk none 0 0 [] false).ok w :=
  ⟨by dsimp only; omega, by dsimp only; omega, by dsimp only; omega, h, hc, hcm, Row.nil _ _ _ _, Nat.le_refl _, by show 0 ≤ maxLen; omega, fun x hx => by have := hl x hx; omega, fun x hx => absurd hx (by simp)⟩

set_option maxHeartbeats 4000000 in
theorem awake20 (w : World) : Calls Try.prog 7 #[] w fun e w' => e = .returned (.bool true) ∧ Below w.heap.size w w' := by
  go_enter Try.func7, Try.ntmps7
  go_upto_region 2 with fail
  have hR := Row.new (n := 2) (sz := 4) (e := 46) w #[.int .i64 17, .int .u8 5, .bool false, .int .u8 9, .int .i64 18, .int .u8 0, .bool true, .int .u8 64] rfl
  have hb1 := alloc_below w (.cells #[.int .i64 17, .int .u8 5, .bool false, .int .u8 9, .int .i64 18, .int .u8 0, .bool true, .int .u8 64] 46)
  have hs1 : (w.alloc (.cells #[.int .i64 17, .int .u8 5, .bool false, .int .u8 9, .int .i64 18, .int .u8 0, .bool true, .int .u8 64] 46)).heap.size = w.heap.size + 1 := by simp
  obtain ⟨w1, hw1⟩ : ∃ q, q = w.alloc (.cells #[.int .i64 17, .int .u8 5, .bool false, .int .u8 9, .int .i64 18, .int .u8 0, .bool true, .int .u8 64] 46) := ⟨_, rfl⟩
  rw [← hw1] at hR hb1 hs1 ⊢
  rw [← hs1] at hR
  obtain ⟨g0, hg0⟩ : ∃ g, g = w.heap.size := ⟨_, rfl⟩
  rw [← hg0] at hR ⊢
  have HR := Lib.hid (show Row w1 w1.heap.size 4 (some ⟨g0, 0, none⟩) 2 (evs l20) from hR)
  have HW := Lib.hid hb1
  clear hR hb1 hs1 hw1 hg0
  have P : Calls Try.prog 8 #[.slice (some ⟨g0, 0, none⟩) 2 2, .agg #[.int .i64 1, .slice (some ⟨w1.heap.size, 0, none⟩) 2 2, .int .i64 0, .int .i64 (-1), .slice none 0 0, .bool false]] (w1.alloc (.cells #[.int .i64 20, .int .i64 21] 3)) fun e w' => ∃ A' c', e = .returned (.tuple #[.slice A' 3 c', .agg (leftC (false, 0, 0)).toArray, .int .i64 0]) ∧ Own w' (World.heap (w1.alloc (.cells #[.int .i64 20, .int .i64 21] 3))).size 46 4 A' 3 c' (evs [⟨21, 5, false, 8⟩, ⟨20, 5, false, 8⟩, ⟨18, 0, true, 64⟩]) ∧ Below (World.heap (w1.alloc (.cells #[.int .i64 20, .int .i64 21] 3))).size (w1.alloc (.cells #[.int .i64 20, .int .i64 21] 3)) w' := by
    have hal := alloc_below w1 (.cells #[.int .i64 20, .int .i64 21] 3)
    have P := do_any (some ⟨g0, 0, none⟩) 2 2 l20 ⟨1, some ⟨w1.heap.size, 0, none⟩, 2, 2, [20, 21], 0, -1, none, 0, 0, [], false⟩ (w1.alloc (.cells #[.int .i64 20, .int .i64 21] 3)) ((HR.out.below hal).more hal.size) (by omega) (by simp only [maxLen]; omega) (by omega) fit20 (hp_lit _ 1 (-1) _ 2 2 [20, 21] (row_valsR w1 #[.int .i64 20, .int .i64 21] 2 _ rfl rfl) (by omega) (by simp only [maxLen]; omega) (by decide) (by omega) rfl)
    rw [show doF l20 ⟨1, some ⟨w1.heap.size, 0, none⟩, 2, 2, [20, 21], 0, -1, none, 0, 0, [], false⟩ = ([⟨21, 5, false, 8⟩, ⟨20, 5, false, 8⟩, ⟨18, 0, true, 64⟩], (false, 0, 0), 0) from by kernel_rfl] at P
    exact P
  have HP := Lib.hid P
  clear P
  go_wp2_with fail
  refine HP.out.mono ?_
  rintro e wa ⟨A1, c1, rfl, hown, hb⟩
  have hba : Below w1.heap.size w1 wa := (alloc_below w1 _).trans (hb.mono (by simp))
  replace HR := Lib.hid ((HR.out.below hba).more hba.size)
  replace HW := Lib.hid (bthen HW.out hba)
  clear HP hb
  have HO1 := Lib.hid hown
  clear hown hba
  go_upto_region 3 with (first
    | (refine wpList_alloc_blk (by rfl) 28 rfl (leftC (false, 0, 0)) zeroLeft ?_; intro wb hbb hBb hsb)
    | (refine wpList_store_all (by rfl) 28 _ _ rfl wa.heap.size (leftC (false, 0, 0)) rfl rfl 28 _ hbb (sizeLeft _) rfl (oneLeft _) ?_; intro w2 hbc hgc hsc))
  have hbd : Below wa.heap.size wa w2 := bgrown hBb hgc hBb.size (Nat.le_refl _)
  replace HR := Lib.hid ((HR.out.below hbd).more hbd.size)
  replace HW := Lib.hid (bthen HW.out hbd)
  replace HO1 := Lib.hid (HO1.out.below hbd)
  obtain ⟨gl1, hgl⟩ : ∃ g, wa.heap.size = g := ⟨_, rfl⟩
  rw [hgl] at hbc ⊢
  have HL1 := Lib.hid hbc
  clear hbb hBb hsb hbc hgc hsc hbd hgl
  have P : Calls Try.prog 8 #[.slice (some ⟨g0, 0, none⟩) 2 2, .agg #[.int .i64 2, .slice none 0 0, .int .i64 0, .int .i64 (-1), .slice none 0 0, .bool false]] w2 fun e w' => ∃ A' c', e = .returned (.tuple #[.slice A' 1 c', .agg (leftC (false, 0, 0)).toArray, .int .i64 0]) ∧ Own w' (World.heap w2).size 46 4 A' 1 c' (evs [⟨18, 5, true, 8⟩]) ∧ Below (World.heap w2).size w2 w' := by
    skip
    have P := do_any (some ⟨g0, 0, none⟩) 2 2 l20 ⟨2, none, 0, 0, [], 0, -1, none, 0, 0, [], false⟩ w2 HR.out (by omega) (by simp only [maxLen]; omega) (by omega) fit20 (hp_lit _ 2 (-1) none 0 0 [] (Row.nil _ _ _ _) (by omega) (by omega) (by simp) (by omega) rfl)
    rw [show doF l20 ⟨2, none, 0, 0, [], 0, -1, none, 0, 0, [], false⟩ = ([⟨18, 5, true, 8⟩], (false, 0, 0), 0) from by kernel_rfl] at P
    exact P
  have HP := Lib.hid P
  clear P
  go_wp2_with fail
  refine HP.out.mono ?_
  rintro e wa ⟨A2, c2, rfl, hown, hb⟩
  have hba : Below w2.heap.size w2 wa := hb
  replace HR := Lib.hid ((HR.out.below hba).more hba.size)
  replace HW := Lib.hid (bthen HW.out hba)
  replace HO1 := Lib.hid (HO1.out.below hba)
  replace HL1 := Lib.hid (HL1.out.on hba)
  clear HP hb
  have HO2 := Lib.hid hown
  clear hown hba
  go_upto_region 4 with (first
    | (refine wpList_alloc_blk (by rfl) 28 rfl (leftC (false, 0, 0)) zeroLeft ?_; intro wb hbb hBb hsb)
    | (refine wpList_store_all (by rfl) 28 _ _ rfl wa.heap.size (leftC (false, 0, 0)) rfl rfl 28 _ hbb (sizeLeft _) rfl (oneLeft _) ?_; intro w3 hbc hgc hsc))
  have hbd : Below wa.heap.size wa w3 := bgrown hBb hgc hBb.size (Nat.le_refl _)
  replace HR := Lib.hid ((HR.out.below hbd).more hbd.size)
  replace HW := Lib.hid (bthen HW.out hbd)
  replace HO1 := Lib.hid (HO1.out.below hbd)
  replace HL1 := Lib.hid (HL1.out.on hbd)
  replace HO2 := Lib.hid (HO2.out.below hbd)
  obtain ⟨gl2, hgl⟩ : ∃ g, wa.heap.size = g := ⟨_, rfl⟩
  rw [hgl] at hbc ⊢
  have HL2 := Lib.hid hbc
  clear hbb hBb hsb hbc hgc hsc hbd hgl
  have P : Calls Try.prog 8 #[.slice (some ⟨g0, 4, none⟩) 1 1, .agg #[.int .i64 2, .slice none 0 0, .int .i64 0, .int .i64 (-1), .slice none 0 0, .bool false]] w3 fun e w' => ∃ A' c', e = .returned (.tuple #[.slice A' 0 c', .agg (leftC (true, 64, 0)).toArray, .int .i64 0]) ∧ Own w' (World.heap w3).size 46 4 A' 0 c' (evs []) ∧ Below (World.heap w3).size w3 w' := by
    have hcut := HR.out.cut (k := 1) (cap := 2) (by omega) (by omega)
    rw [if_neg (by omega), addr_addR] at hcut
    have P := do_any (some ⟨g0, 4, none⟩) 1 1 [⟨18, 0, true, 64⟩] ⟨2, none, 0, 0, [], 0, -1, none, 0, 0, [], false⟩ w3 (show Row w3 w3.heap.size 4 (some ⟨g0, 0 + 1 * 4, none⟩) (2 - 1) (evs [⟨18, 0, true, 64⟩]) from hcut) (by omega) (by simp only [maxLen]; omega) (by omega) (fun x hx => fit20 x (by simp only [List.mem_singleton] at hx; subst hx; simp [l20])) (hp_lit _ 2 (-1) none 0 0 [] (Row.nil _ _ _ _) (by omega) (by omega) (by simp) (by omega) rfl)
    rw [show doF [⟨18, 0, true, 64⟩] ⟨2, none, 0, 0, [], 0, -1, none, 0, 0, [], false⟩ = ([], (true, 64, 0), 0) from by kernel_rfl] at P
    exact P
  have HP := Lib.hid P
  clear P
  go_wp2_with fail
  refine HP.out.mono ?_
  rintro e wa ⟨A3, c3, rfl, hown, hb⟩
  have hba : Below w3.heap.size w3 wa := hb
  replace HR := Lib.hid ((HR.out.below hba).more hba.size)
  replace HW := Lib.hid (bthen HW.out hba)
  replace HO1 := Lib.hid (HO1.out.below hba)
  replace HL1 := Lib.hid (HL1.out.on hba)
  replace HO2 := Lib.hid (HO2.out.below hba)
  replace HL2 := Lib.hid (HL2.out.on hba)
  clear HP hb
  have HO3 := Lib.hid hown
  clear hown hba
  go_upto_region 5 with (first
    | (refine wpList_alloc_blk (by rfl) 28 rfl (leftC (false, 0, 0)) zeroLeft ?_; intro wb hbb hBb hsb)
    | (refine wpList_store_all (by rfl) 28 _ _ rfl wa.heap.size (leftC (true, 64, 0)) rfl rfl 28 _ hbb (sizeLeft _) rfl (oneLeft _) ?_; intro w4 hbc hgc hsc))
  have hbd : Below wa.heap.size wa w4 := bgrown hBb hgc hBb.size (Nat.le_refl _)
  replace HR := Lib.hid ((HR.out.below hbd).more hbd.size)
  replace HW := Lib.hid (bthen HW.out hbd)
  replace HO1 := Lib.hid (HO1.out.below hbd)
  replace HL1 := Lib.hid (HL1.out.on hbd)
  replace HO2 := Lib.hid (HO2.out.below hbd)
  replace HL2 := Lib.hid (HL2.out.on hbd)
  replace HO3 := Lib.hid (HO3.out.below hbd)
  obtain ⟨gl3, hgl⟩ : ∃ g, wa.heap.size = g := ⟨_, rfl⟩
  rw [hgl] at hbc ⊢
  have HL3 := Lib.hid hbc
  clear hbb hBb hsb hbc hgc hsc hbd hgl
  have P : Calls Try.prog 13 #[.agg #[.int .i64 0, .slice (some ⟨w4.heap.size, 0, none⟩) 1 1, .int .i64 0, .int .i64 (-1), .slice none 0 0, .bool false], .int .u8 96, .int .u8 5] (w4.alloc (.cells #[.int .i64 16] 3)) fun e w' => ∃ A' c', e = .returned (.tuple #[.slice A' 1 c', .int .i64 0]) ∧ Own w' (World.heap (w4.alloc (.cells #[.int .i64 16] 3))).size 46 4 A' 1 c' (evs [⟨16, 3, false, 4⟩]) ∧ Below (World.heap (w4.alloc (.cells #[.int .i64 16] 3))).size (w4.alloc (.cells #[.int .i64 16] 3)) w' := by
    skip
    have P := lay_any ⟨0, some ⟨w4.heap.size, 0, none⟩, 1, 1, [16], 0, -1, none, 0, 0, [], false⟩ 96 5 (w4.alloc (.cells #[.int .i64 16] 3)) (hp_lit _ 0 (-1) _ 1 1 [16] (row_valsR w4 #[.int .i64 16] 1 _ rfl rfl) (by omega) (by simp only [maxLen]; omega) (by decide) (by omega) rfl) (by omega) (by omega)
    rw [show layF ⟨0, some ⟨w4.heap.size, 0, none⟩, 1, 1, [16], 0, -1, none, 0, 0, [], false⟩ 96 5 = ([⟨16, 3, false, 4⟩], 0) from by kernel_rfl] at P
    exact P
  have HP := Lib.hid P
  clear P
  go_wp2_with fail
  refine HP.out.mono ?_
  rintro e wa ⟨A4, c4, rfl, hown, hb⟩
  have hba : Below w4.heap.size w4 wa := (alloc_below w4 _).trans (hb.mono (by simp))
  replace HR := Lib.hid ((HR.out.below hba).more hba.size)
  replace HW := Lib.hid (bthen HW.out hba)
  replace HO1 := Lib.hid (HO1.out.below hba)
  replace HL1 := Lib.hid (HL1.out.on hba)
  replace HO2 := Lib.hid (HO2.out.below hba)
  replace HL2 := Lib.hid (HL2.out.on hba)
  replace HO3 := Lib.hid (HO3.out.below hba)
  replace HL3 := Lib.hid (HL3.out.on hba)
  clear HP hb
  obtain ⟨k4, rfl, _, _, _, _⟩ := hown.open_ (by omega)
  have HO4 := Lib.hid hown
  clear hown hba
  go_upto_region 6 with fail
  obtain ⟨w5, hwq⟩ : ∃ q, q = wa := ⟨_, rfl⟩
  subst hwq
  have P : Calls Try.prog 15 #[.slice (some ⟨k4, 0, none⟩) 1 c4, .slice (some ⟨w5.heap.size, 0, none⟩) 1 1, .int .u8 0, .int .u8 0] (w5.alloc (.cells #[.int .i64 30] 3)) fun e w' => ∃ A' c', e = .returned (.tuple #[.slice A' 2 c', .int .i64 0]) ∧ Own w' (World.heap (w5.alloc (.cells #[.int .i64 30] 3))).size 46 4 A' 2 c' (evs [⟨30, 3, false, 4⟩, ⟨16, 3, false, 4⟩]) ∧ Below (World.heap (w5.alloc (.cells #[.int .i64 30] 3))).size (w5.alloc (.cells #[.int .i64 30] 3)) w' := by
    have hal := alloc_below w5 (.cells #[.int .i64 30] 3)
    have ho4 := HO4.out.below hal
    have P := mend_any (some ⟨k4, 0, none⟩) 1 c4 [⟨16, 3, false, 4⟩] (some ⟨w5.heap.size, 0, none⟩) 1 1 [30] 0 0 (w5.alloc (.cells #[.int .i64 30] 3)) (ho4.row) HO4.out.le HO4.out.cap (by omega) (fun x hx => by simp only [List.mem_singleton] at hx; subst hx; exact ⟨by decide, by decide, by decide⟩) (row_valsR w5 #[.int .i64 30] 1 _ rfl rfl) (by omega) (by omega) (by omega)
    rw [show mendF [⟨16, 3, false, 4⟩] [30] 0 0 = ([⟨30, 3, false, 4⟩, ⟨16, 3, false, 4⟩], 0) from by kernel_rfl] at P
    exact P
  have HP := Lib.hid P
  clear P
  go_wp2_with fail
  refine HP.out.mono ?_
  rintro e wa ⟨A5, c5, rfl, hown, hb⟩
  have hba : Below w5.heap.size w5 wa := (alloc_below w5 _).trans (hb.mono (by simp))
  replace HR := Lib.hid ((HR.out.below hba).more hba.size)
  replace HW := Lib.hid (bthen HW.out hba)
  replace HO1 := Lib.hid (HO1.out.below hba)
  replace HL1 := Lib.hid (HL1.out.on hba)
  replace HO2 := Lib.hid (HO2.out.below hba)
  replace HL2 := Lib.hid (HL2.out.on hba)
  replace HO3 := Lib.hid (HO3.out.below hba)
  replace HL3 := Lib.hid (HL3.out.on hba)
  replace HO4 := Lib.hid (HO4.out.below hba)
  clear HP hb
  obtain ⟨k5, rfl, _, _, _, _⟩ := hown.open_ (by omega)
  have HO5 := Lib.hid hown
  clear hown hba
  go_upto_region 7 with fail
  obtain ⟨w6, hwq⟩ : ∃ q, q = wa := ⟨_, rfl⟩
  subst hwq
  have P : Calls Try.prog 10 #[.slice (some ⟨g0, 0, none⟩) 2 2, .bool true] w6 fun e w' => ∃ A' c', e = .returned (.tuple #[.slice A' 1 c', .bool true]) ∧ Own w' (World.heap w6).size 46 4 A' 1 c' (evs [⟨18, 0, true, 63⟩]) ∧ Below (World.heap w6).size w6 w' := by
    skip
    have P := below_any (some ⟨g0, 0, none⟩) 2 2 l20 true w6 HR.out (by omega) (by simp only [maxLen]; omega) (by omega) fit20
    rw [show belowF l20 true = ([⟨18, 0, true, 63⟩], true) from by kernel_rfl] at P
    exact P
  have HP := Lib.hid P
  clear P
  go_wp2_with fail
  refine HP.out.mono ?_
  rintro e wa ⟨A6, c6, rfl, hown, hb⟩
  have hba : Below w6.heap.size w6 wa := hb
  replace HR := Lib.hid ((HR.out.below hba).more hba.size)
  replace HW := Lib.hid (bthen HW.out hba)
  replace HO1 := Lib.hid (HO1.out.below hba)
  replace HL1 := Lib.hid (HL1.out.on hba)
  replace HO2 := Lib.hid (HO2.out.below hba)
  replace HL2 := Lib.hid (HL2.out.on hba)
  replace HO3 := Lib.hid (HO3.out.below hba)
  replace HL3 := Lib.hid (HL3.out.on hba)
  replace HO4 := Lib.hid (HO4.out.below hba)
  replace HO5 := Lib.hid (HO5.out.below hba)
  clear HP hb
  obtain ⟨k6, rfl, _, _, _, _⟩ := hown.open_ (by omega)
  have HO6 := Lib.hid hown
  clear hown hba
  obtain ⟨w7, hwq⟩ : ∃ q, q = wa := ⟨_, rfl⟩
  subst hwq
  go_wp2_with fail
  have hal := alloc_below w7 (.cells #[.int .i64 21, .int .u8 5, .bool false, .int .u8 8, .int .i64 20, .int .u8 5, .bool false, .int .u8 8, .int .i64 18, .int .u8 0, .bool true, .int .u8 64] 46)
  refine (exact_same A1 (some ⟨w7.heap.size, 0, none⟩) 3 c1 3 [⟨21, 5, false, 8⟩, ⟨20, 5, false, 8⟩, ⟨18, 0, true, 64⟩] _ _ ((HO1.out.below hal).row) (by rw [World.size_alloc]; exact Row.new (n := 3) (sz := 4) w7 #[.int .i64 21, .int .u8 5, .bool false, .int .u8 8, .int .i64 20, .int .u8 5, .bool false, .int .u8 8, .int .i64 18, .int .u8 0, .bool true, .int .u8 64] rfl) (by omega)).mono ?_
  rintro e w8 ⟨rfl, hb⟩
  have hb8 : Below w7.heap.size w7 w8 := hal.trans (hb.mono (by simp))
  replace HR := Lib.hid ((HR.out.below hb8).more hb8.size)
  replace HW := Lib.hid (bthen HW.out hb8)
  replace HO1 := Lib.hid (HO1.out.below hb8)
  replace HL1 := Lib.hid (HL1.out.on hb8)
  replace HO2 := Lib.hid (HO2.out.below hb8)
  replace HL2 := Lib.hid (HL2.out.on hb8)
  replace HO3 := Lib.hid (HO3.out.below hb8)
  replace HL3 := Lib.hid (HL3.out.on hb8)
  replace HO4 := Lib.hid (HO4.out.below hb8)
  replace HO5 := Lib.hid (HO5.out.below hb8)
  replace HO6 := Lib.hid (HO6.out.below hb8)
  clear hb hb8 hal
  go_wp2_with fail
  have hal := alloc_below w8 (.cells #[.int .i64 18, .int .u8 5, .bool true, .int .u8 8] 46)
  refine (exact_same A2 (some ⟨w8.heap.size, 0, none⟩) 1 c2 1 [⟨18, 5, true, 8⟩] _ _ ((HO2.out.below hal).row) (by rw [World.size_alloc]; exact Row.new (n := 1) (sz := 4) w8 #[.int .i64 18, .int .u8 5, .bool true, .int .u8 8] rfl) (by omega)).mono ?_
  rintro e w9 ⟨rfl, hb⟩
  have hb9 : Below w8.heap.size w8 w9 := hal.trans (hb.mono (by simp))
  replace HR := Lib.hid ((HR.out.below hb9).more hb9.size)
  replace HW := Lib.hid (bthen HW.out hb9)
  replace HO1 := Lib.hid (HO1.out.below hb9)
  replace HL1 := Lib.hid (HL1.out.on hb9)
  replace HO2 := Lib.hid (HO2.out.below hb9)
  replace HL2 := Lib.hid (HL2.out.on hb9)
  replace HO3 := Lib.hid (HO3.out.below hb9)
  replace HL3 := Lib.hid (HL3.out.on hb9)
  replace HO4 := Lib.hid (HO4.out.below hb9)
  replace HO5 := Lib.hid (HO5.out.below hb9)
  replace HO6 := Lib.hid (HO6.out.below hb9)
  clear hb hb9 hal
  obtain ⟨_, hk4, _, _, o4, _⟩ := HO4.out.open_ (by omega)
  injection hk4 with hk4
  injection hk4 with hk4
  subst hk4
  obtain ⟨_, hk5, _, _, o5, _⟩ := HO5.out.open_ (by omega)
  injection hk5 with hk5
  injection hk5 with hk5
  subst hk5
  obtain ⟨_, hk6, _, _, o6, _⟩ := HO6.out.open_ (by omega)
  injection hk6 with hk6
  injection hk6 with hk6
  subst hk6
  have x1 : w9.cell? ⟨k4, 1, none⟩ = some (.int .u8 3) := o4 1 _ rfl
  have x2 : w9.cell? ⟨k4, 3, none⟩ = some (.int .u8 4) := o4 3 _ rfl
  have x3 : w9.cell? ⟨k5, 3, none⟩ = some (.int .u8 4) := o5 3 _ rfl
  have x4 : w9.cell? ⟨k6, 3, none⟩ = some (.int .u8 63) := o6 3 _ rfl
  have y0 : w9.cell? ⟨gl3, 0, none⟩ = some (.bool true) := HL3.out.cell 0
  have y1 : w9.cell? ⟨gl3, 1, none⟩ = some (.int .u8 64) := HL3.out.cell 1
  have y2 : w9.cell? ⟨gl3, 2, none⟩ = some (.int .u8 0) := HL3.out.cell 2
  have heq : ∀ W, (binOp .eql 28 (.agg #[.bool true, .int .u8 64, .int .u8 0]) (.agg #[.bool true, .int .u8 64, .int .u8 0])).run Try.prog W = .ok (.bool true) W := run_eqlL (true, 64, 0)
  clear o4 o5 o6
  go_wp2_with (refine wpList_value (by rfl) (exec_eqL _ _ _ (by rfl) (true, 64, 0) (by rfl) (by rfl)) ?_)
  go_ret
  exact ⟨rfl, HW.out⟩
end Go.Proofs.Ytmpaockaeoknmaa

/- What the small functions on addresses compute (dotted, colon, and the references'). No condition. -/
import Derived.Test.YtimkgkokidhhpaaHead4
import Derived.Test.YtimkgkokidhhpaaHead6
import Derived.Test.YtimkgkokidhhpaaRel
namespace Go.Proofs.Ytimkgkokidhhpaa
open Go.RowKit
set_option linter.unusedVariables false
set_option maxRecDepth 20000
set_option linter.unusedSimpArgs false

def b0 (l : List UInt8) : Int := ((l.getD 0 0).toNat : Int)
def plA (l : List UInt8) : Bool := !(b0 l == 0) && (!(b0 l == 127) && decide (b0 l < 224))
def f4 : List UInt8 := [255, 255, 255, 255]
def muA (l : List UInt8) : Bool := (decide (224 ≤ b0 l) && decide (b0 l ≤ 239)) || (l == f4)
def mu6 (l : List UInt8) : Bool := b0 l == 255
def one16 : List UInt8 := [0, 0, 0, 0, 0, 0, 0, 0, 0, 0, 0, 0, 0, 0, 0, 1]
def pl6 (l : List UInt8) : Bool := !(b0 l == 255) && (!(l == z16) && !(l == one16))
theorem list_hd (l : List UInt8) (n : Nat) (h : l.length = n + 1) : ∃ u t, l = u :: t := by
  cases l with
  | nil => simp at h
  | cons u t => exact ⟨u, t, rfl⟩
theorem run_buildF4 (w : World) : (Instr.build 37 #[(0, .int .u8 255), (1, .int .u8 255), (2, .int .u8 255), (3, .int .u8 255)]).run Try.prog w = .ok (.agg (bv f4).toArray) w := by kernel_rfl
theorem exec_buildF4 {w : World} {o : Oper} {c : Act} (ho : o.op = .build 37 #[(0, .const (.int .u8 255)), (1, .const (.int .u8 255)), (2, .const (.int .u8 255)), (3, .const (.int .u8 255))]) : (execOp c.eval o).run Try.prog w = .ok (.value (.agg (bv f4).toArray)) w := by
  have h := run_buildF4 w
  unfold execOp
  simp only [ho, List.map_toArray, List.map_cons, List.map_nil, Act.eval, Sem.run_bind, h, Result.andThen_ok]
  rfl

theorem exec_buildZ16 {w : World} {o : Oper} {c : Act} (ho : o.op = .build 33 #[]) : (execOp c.eval o).run Try.prog w = .ok (.value (.agg (bv z16).toArray)) w := by
  have h : (Instr.build 33 #[]).run Try.prog w = .ok (.agg (bv z16).toArray) w := by kernel_rfl
  unfold execOp
  simp only [ho, List.map_toArray, List.map_cons, List.map_nil, Act.eval, Sem.run_bind, h, Result.andThen_ok]
  rfl

theorem exec_buildO16 {w : World} {o : Oper} {c : Act} (ho : o.op = .build 33 #[(15, .const (.int .u8 1))]) : (execOp c.eval o).run Try.prog w = .ok (.value (.agg (bv one16).toArray)) w := by
  have h : (Instr.build 33 #[(15, .int .u8 1)]).run Try.prog w = .ok (.agg (bv one16).toArray) w := by kernel_rfl
  unfold execOp
  simp only [ho, List.map_toArray, List.map_cons, List.map_nil, Act.eval, Sem.run_bind, h, Result.andThen_ok]
  rfl

theorem exec_buildR16 {w : World} {o : Oper} {c : Act} (ho : o.op = .build 33 #[(0, .const (.int .u8 0)), (1, .const (.int .u8 0)), (2, .const (.int .u8 0)), (3, .const (.int .u8 0)), (4, .const (.int .u8 0)), (5, .const (.int .u8 0)), (6, .const (.int .u8 0)), (7, .const (.int .u8 0)), (8, .const (.int .u8 0)), (9, .const (.int .u8 0)), (10, .const (.int .u8 0)), (11, .const (.int .u8 0)), (12, .const (.int .u8 0)), (13, .const (.int .u8 0)), (14, .const (.int .u8 0)), (15, .const (.int .u8 1))]) : (execOp c.eval o).run Try.prog w = .ok (.value (.agg (bv one16).toArray)) w := by
  have h : (Instr.build 33 #[(0, .int .u8 0), (1, .int .u8 0), (2, .int .u8 0), (3, .int .u8 0), (4, .int .u8 0), (5, .int .u8 0), (6, .int .u8 0), (7, .int .u8 0), (8, .int .u8 0), (9, .int .u8 0), (10, .int .u8 0), (11, .int .u8 0), (12, .int .u8 0), (13, .int .u8 0), (14, .int .u8 0), (15, .int .u8 1)]).run Try.prog w = .ok (.agg (bv one16).toArray) w := by kernel_rfl
  unfold execOp
  simp only [ho, List.map_toArray, List.map_cons, List.map_nil, Act.eval, Sem.run_bind, h, Result.andThen_ok]
  rfl

theorem exec_eqQ4 {w : World} {o : Oper} {c : Act} (x y : Operand) (ty : TypeId) (ho : o.op = .binOp .eql 37 x y ty) (s t : List UInt8) (hs : s.length = 4) (ht : t.length = 4) (r : Bool) (hr : (s == t) = r) (hx : c.eval x = .agg (bv s).toArray) (hy : c.eval y = .agg (bv t).toArray) : (execOp c.eval o).run Try.prog w = .ok (.value (.bool r)) w := by
  have h1 := run_equalIn_bytes (P := Try.prog) w 9998 37 5 4 Try.underlying37 Try.underlying5 (fun w => by kernel_rfl) s t hs ht
  have h2 : (Op.equalIn 10000 37 (.agg (bv s).toArray) (.agg (bv t).toArray)).run Try.prog w = .ok r w := by rw [← hr]; exact h1
  unfold execOp
  simp only [ho, hx, hy, Sem.run_bind, run_eqGuard_agg w .eql 37 x y _ _ (show Try.prog.eqGuardType Try.prog.depth 37 = false by kernel_rfl), run_eql_struct, h2, Result.andThen_ok]
  rfl

theorem exec_neQ16 {w : World} {o : Oper} {c : Act} (x y : Operand) (ty : TypeId) (ho : o.op = .binOp .neq 33 x y ty) (s t : List UInt8) (hs : s.length = 16) (ht : t.length = 16) (r : Bool) (hr : (s == t) = r) (hx : c.eval x = .agg (bv s).toArray) (hy : c.eval y = .agg (bv t).toArray) : (execOp c.eval o).run Try.prog w = .ok (.value (.bool (!r))) w := by
  have h1 := run_equalIn_bytes (P := Try.prog) w 9998 33 5 16 Try.underlying33 Try.underlying5 (fun w => by kernel_rfl) s t hs ht
  have h2 : (Op.equalIn 10000 33 (.agg (bv s).toArray) (.agg (bv t).toArray)).run Try.prog w = .ok r w := by rw [← hr]; exact h1
  unfold execOp
  simp only [ho, hx, hy, Sem.run_bind, run_eqGuard_agg w .neq 33 x y _ _ (show Try.prog.eqGuardType Try.prog.depth 33 = false by kernel_rfl), run_neq_struct, h2, Result.andThen_ok]
  rfl

set_option maxHeartbeats 1000000 in
theorem plainA_any (l : List UInt8) (hl : l.length = 4) (w : World) :
    Calls Try.prog 25 #[.agg (bv l).toArray] w fun e w' => e = .returned (.bool (plA l)) ∧ Below w.heap.size w w' := by
  obtain ⟨u, t, rfl⟩ := list_hd l 3 hl
  obtain ⟨x, hx⟩ : ∃ x : Int, x = (u.toNat : Int) := ⟨_, rfl⟩
  have hd : plA (u :: t) = (!(x == 0) && (!(x == 127) && decide (x < 224))) := by rw [hx]; rfl
  have HX := Lib.hid hx
  have HD := Lib.hid hd
  clear hx hd hl
  rcases (show x = 0 ∨ ((x == 0) = false ∧ x = 127) ∨ ((x == 0) = false ∧ (x == 127) = false ∧ ¬ x < 224) ∨ ((x == 0) = false ∧ (x == 127) = false ∧ x < 224) by simp only [beq_eq_false_iff_ne]; omega) with h1 | ⟨h1, h2⟩ | ⟨h1, h2, h3⟩ | ⟨h1, h2, h3⟩
  all_goals
    try have g1 : (x != 0) = true := by simp only [bne, h1]; rfl
    try have g2 : (x != 127) = true := by simp only [bne, h2]; rfl
    go_enter Try.func25, Try.ntmps25
    go_wp2_with (refine wpList_box_blk rfl 37 _ rfl (bv (u :: t)) rfl ?_; intro w1 hb1 hB1 hs1; have c0 : w1.cell? ⟨w.heap.size, 0, none⟩ = some (.int .u8 x) := (hb1.cell 0).trans (by rw [HX.out]; rfl))
    go_ret
    exact ⟨by rw [HD.out]; simp_all, hB1⟩

set_option maxHeartbeats 1000000 in
theorem rplainA_any (l : List UInt8) (hl : l.length = 4) (w : World) :
    Calls Try.prog 31 #[.agg (bv l).toArray] w fun e w' => e = .returned (.bool (plA l)) ∧ Below w.heap.size w w' := by
  obtain ⟨u, t, rfl⟩ := list_hd l 3 hl
  obtain ⟨x, hx⟩ : ∃ x : Int, x = (u.toNat : Int) := ⟨_, rfl⟩
  have hd : plA (u :: t) = (!(x == 0) && (!(x == 127) && decide (x ≤ 223))) := by
    have : plA (u :: t) = (!(x == 0) && (!(x == 127) && decide (x < 224))) := by rw [hx]; rfl
    rw [this, show decide (x < 224) = decide (x ≤ 223) by simp only [decide_eq_decide]; omega]
  have HX := Lib.hid hx
  have HD := Lib.hid hd
  clear hx hd hl
  rcases (show x = 0 ∨ ((x == 0) = false ∧ x = 127) ∨ ((x == 0) = false ∧ (x == 127) = false ∧ ¬ x ≤ 223) ∨ ((x == 0) = false ∧ (x == 127) = false ∧ x ≤ 223) by simp only [beq_eq_false_iff_ne]; omega) with h1 | ⟨h1, h2⟩ | ⟨h1, h2, h3⟩ | ⟨h1, h2, h3⟩
  all_goals
    try have g1 : (x != 0) = true := by simp only [bne, h1]; rfl
    try have g2 : (x != 127) = true := by simp only [bne, h2]; rfl
    go_enter Try.func31, Try.ntmps31
    go_wp2_with (refine wpList_box_blk rfl 37 _ rfl (bv (u :: t)) rfl ?_; intro w1 hb1 hB1 hs1; have c0 : w1.cell? ⟨w.heap.size, 0, none⟩ = some (.int .u8 x) := (hb1.cell 0).trans (by rw [HX.out]; rfl))
    go_ret
    exact ⟨by rw [HD.out]; simp_all, hB1⟩

set_option maxHeartbeats 1000000 in
theorem multiA_any (l : List UInt8) (hl : l.length = 4) (w : World) :
    Calls Try.prog 27 #[.agg (bv l).toArray] w fun e w' => e = .returned (.bool (muA l)) ∧ Below w.heap.size w w' := by
  obtain ⟨u, t, rfl⟩ := list_hd l 3 hl
  obtain ⟨x, hx⟩ : ∃ x : Int, x = (u.toNat : Int) := ⟨_, rfl⟩
  have hx0 : 0 ≤ x := by omega
  have hx1 : x ≤ 255 := by have := u.toNat_lt; omega
  obtain ⟨r, hr⟩ : ∃ r, ((u :: t) == f4) = r := ⟨_, rfl⟩
  have hd : muA (u :: t) = ((decide (224 ≤ x) && decide (x ≤ 239)) || r) := by rw [hx, ← hr]; rfl
  have HX := Lib.hid hx
  have HD := Lib.hid hd
  have HR := Lib.hid hr
  clear hx hd hr
  have hy : (x / 16 == 14) = (decide (224 ≤ x) && decide (x ≤ 239)) := by
    rw [Bool.eq_iff_iff]
    simp
    omega
  rw [← hy] at HD
  obtain ⟨y, hyy⟩ : ∃ y, (x / 16 == 14) = y := ⟨_, rfl⟩
  rw [hyy] at HD
  clear hy
  cases y
  all_goals
    go_enter Try.func27, Try.ntmps27
    go_wp2_with (first
      | (refine wpList_box_blk rfl 37 _ rfl (bv (u :: t)) rfl ?_; intro w1 hb1 hB1 hs1; have c0 : w1.cell? ⟨w.heap.size, 0, none⟩ = some (.int .u8 x) := (hb1.cell 0).trans (by rw [HX.out]; rfl))
      | (refine wpList_load_blk rfl 37 _ rfl w.heap.size rfl 37 _ _ hb1 Try.underlying37 rfl (sizeA4 _ hl) ?_)
      | (refine wpList_value rfl (exec_buildF4 rfl) ?_)
      | (refine wpList_value (by rfl) (exec_eqQ4 _ _ _ rfl (u :: t) f4 hl rfl _ HR.out rfl rfl) ?_))
    go_ret
    exact ⟨by rw [HD.out]; simp, hB1⟩

set_option maxHeartbeats 1000000 in
theorem rmultiA_any (l : List UInt8) (hl : l.length = 4) (w : World) :
    Calls Try.prog 32 #[.agg (bv l).toArray] w fun e w' => e = .returned (.bool (muA l)) ∧ Below w.heap.size w w' := by
  obtain ⟨u, t, rfl⟩ := list_hd l 3 hl
  obtain ⟨x, hx⟩ : ∃ x : Int, x = (u.toNat : Int) := ⟨_, rfl⟩
  obtain ⟨r, hr⟩ : ∃ r, ((u :: t) == f4) = r := ⟨_, rfl⟩
  have hd : muA (u :: t) = ((decide (224 ≤ x) && decide (x ≤ 239)) || r) := by rw [hx, ← hr]; rfl
  have HX := Lib.hid hx
  have HD := Lib.hid hd
  have HR := Lib.hid hr
  clear hx hd hr
  rcases (show (¬ 224 ≤ x) ∨ (224 ≤ x ∧ ¬ x ≤ 239) ∨ (224 ≤ x ∧ x ≤ 239) by omega) with h1 | ⟨h1, h2⟩ | ⟨h1, h2⟩
  all_goals
    have hd2 := HD.out
    try rw [decide_eq_false h1] at hd2
    try rw [decide_eq_true h1] at hd2
    try rw [decide_eq_false h2] at hd2
    try rw [decide_eq_true h2] at hd2
    replace HD := Lib.hid hd2
    clear hd2
    go_enter Try.func32, Try.ntmps32
    go_wp2_with (first
      | (refine wpList_box_blk rfl 37 _ rfl (bv (u :: t)) rfl ?_; intro w1 hb1 hB1 hs1; have c0 : w1.cell? ⟨w.heap.size, 0, none⟩ = some (.int .u8 x) := (hb1.cell 0).trans (by rw [HX.out]; rfl))
      | (refine wpList_load_blk rfl 37 _ rfl w.heap.size rfl 37 _ _ hb1 Try.underlying37 rfl (sizeA4 _ hl) ?_)
      | (refine wpList_value rfl (exec_buildF4 rfl) ?_)
      | (refine wpList_value (by rfl) (exec_eqQ4 _ _ _ rfl (u :: t) f4 hl rfl _ HR.out rfl rfl) ?_))
    go_ret
    exact ⟨by rw [HD.out]; simp, hB1⟩

set_option maxHeartbeats 1000000 in
theorem multi6_any (l : List UInt8) (hl : l.length = 16) (w : World) :
    Calls Try.prog 38 #[.agg (bv l).toArray] w fun e w' => e = .returned (.bool (mu6 l)) ∧ Below w.heap.size w w' := by
  obtain ⟨u, t, rfl⟩ := list_hd l 15 hl
  have c1 : mu6 (u :: t) = ((u.toNat : Int) == 255) := rfl
  have HD := Lib.hid c1
  clear c1
  go_enter Try.func38, Try.ntmps38
  go_wp2_with (refine wpList_box_blk rfl 33 _ rfl (bv (u :: t)) rfl ?_; intro w1 hb1 hB1 hs1; have c0 : w1.cell? ⟨w.heap.size, 0, none⟩ = some (.int .u8 (u.toNat : Int)) := hb1.cell 0)
  go_ret
  exact ⟨by rw [HD.out]; rfl, hB1⟩

set_option maxHeartbeats 1000000 in
theorem rmulti6_any (l : List UInt8) (hl : l.length = 16) (w : World) :
    Calls Try.prog 42 #[.agg (bv l).toArray] w fun e w' => e = .returned (.bool (mu6 l)) ∧ Below w.heap.size w w' := by
  obtain ⟨u, t, rfl⟩ := list_hd l 15 hl
  have c1 : mu6 (u :: t) = ((u.toNat : Int) == 255) := rfl
  have HD := Lib.hid c1
  clear c1
  go_enter Try.func42, Try.ntmps42
  go_wp2_with (refine wpList_box_blk rfl 33 _ rfl (bv (u :: t)) rfl ?_; intro w1 hb1 hB1 hs1; have c0 : w1.cell? ⟨w.heap.size, 0, none⟩ = some (.int .u8 (u.toNat : Int)) := hb1.cell 0)
  go_ret
  exact ⟨by rw [HD.out]; rfl, hB1⟩

set_option maxHeartbeats 2000000 in
theorem plain6_any (l : List UInt8) (hl : l.length = 16) (w : World) :
    Calls Try.prog 36 #[.agg (bv l).toArray] w fun e w' => e = .returned (.bool (pl6 l)) ∧ Below w.heap.size w w' := by
  obtain ⟨b1, hb1⟩ : ∃ b, mu6 l = b := ⟨_, rfl⟩
  obtain ⟨b2, hb2⟩ : ∃ b, (l == z16) = b := ⟨_, rfl⟩
  obtain ⟨b3, hb3⟩ : ∃ b, (l == one16) = b := ⟨_, rfl⟩
  have hd : pl6 l = (!b1 && (!b2 && !b3)) := by rw [← hb1, ← hb2, ← hb3]; rfl
  have HD := Lib.hid hd
  have H1 := Lib.hid hb1
  have H2 := Lib.hid hb2
  have H3 := Lib.hid hb3
  clear hd hb1 hb2 hb3
  cases b1 <;> cases b2
  all_goals
    go_enter Try.func36, Try.ntmps36
    go_wp2_with (first
      | (refine wpList_box_blk rfl 33 _ rfl (bv l) rfl ?_; intro w1 hk1 hB1 hs1)
      | (refine wpList_load_blk rfl 33 _ rfl w.heap.size rfl 33 _ _ hk1 Try.underlying33 rfl (size24 _ hl) ?_))
    refine (multi6_any l hl w1).mono ?_
    rintro e w2 ⟨rfl, hb2⟩
    rw [H1.out]
    have hk2 := hk1.on hb2
    have hB2 := bthen hB1 hb2
    clear hk1 hB1 hb2
    go_wp2_with (first
      | (refine wpList_load_blk rfl 33 _ rfl w.heap.size rfl 33 _ _ hk2 Try.underlying33 rfl (size24 _ hl) ?_)
      | (refine wpList_value rfl (exec_buildZ16 rfl) ?_)
      | (refine wpList_value rfl (exec_buildO16 rfl) ?_)
      | (refine wpList_value (by rfl) (exec_neQ16 _ _ _ rfl l z16 hl rfl _ H2.out rfl rfl) ?_)
      | (refine wpList_value (by rfl) (exec_neQ16 _ _ _ rfl l one16 hl rfl _ H3.out rfl rfl) ?_))
    go_ret
    exact ⟨by rw [HD.out]; simp, hB2⟩

set_option maxHeartbeats 2000000 in
theorem rplain6_any (l : List UInt8) (hl : l.length = 16) (w : World) :
    Calls Try.prog 41 #[.agg (bv l).toArray] w fun e w' => e = .returned (.bool (pl6 l)) ∧ Below w.heap.size w w' := by
  obtain ⟨u, t, rfl⟩ := list_hd l 15 hl
  obtain ⟨x, hx⟩ : ∃ x : Int, x = (u.toNat : Int) := ⟨_, rfl⟩
  obtain ⟨b2, hb2⟩ : ∃ b, ((u :: t) == z16) = b := ⟨_, rfl⟩
  obtain ⟨b3, hb3⟩ : ∃ b, ((u :: t) == one16) = b := ⟨_, rfl⟩
  have hd : pl6 (u :: t) = (!(x == 255) && (!b2 && !b3)) := by rw [hx, ← hb2, ← hb3]; rfl
  have HX := Lib.hid hx
  have HD := Lib.hid hd
  have H2 := Lib.hid hb2
  have H3 := Lib.hid hb3
  clear hd hx hb2 hb3
  obtain ⟨b1, hb1⟩ : ∃ b, (x == 255) = b := ⟨_, rfl⟩
  rw [hb1] at HD
  cases b1 <;> cases b2
  all_goals
    have g1 := (show (x != 255) = !(x == 255) from rfl).trans (congrArg (!·) hb1)
    simp only [Bool.not_true, Bool.not_false] at g1
    go_enter Try.func41, Try.ntmps41
    go_wp2_with (first
      | (refine wpList_box_blk rfl 33 _ rfl (bv (u :: t)) rfl ?_; intro w1 hk1 hB1 hs1; have c0 : w1.cell? ⟨w.heap.size, 0, none⟩ = some (.int .u8 x) := (hk1.cell 0).trans (by rw [HX.out]; rfl))
      | (refine wpList_load_blk rfl 33 _ rfl w.heap.size rfl 33 _ _ hk1 Try.underlying33 rfl (size24 _ hl) ?_)
      | (refine wpList_value rfl (exec_buildZ16 rfl) ?_)
      | (refine wpList_value rfl (exec_buildR16 rfl) ?_)
      | (refine wpList_value (by rfl) (exec_neQ16 _ _ _ rfl (u :: t) z16 hl rfl _ H2.out rfl rfl) ?_)
      | (refine wpList_value (by rfl) (exec_neQ16 _ _ _ rfl (u :: t) one16 hl rfl _ H3.out rfl rfl) ?_))
    go_ret
    exact ⟨by rw [HD.out]; simp, hB1⟩
end Go.Proofs.Ytimkgkokidhhpaa

/- Keys of flows as cells: made, compared; copies into a known block. No condition. -/
import Derived.Test.YthjjcglheialfaaHead4
import Derived.Test.YthjjcglheialfaaHead6
import Derived.Test.YthjjcglheialfaaCopy
import Derived.Test.YthjjcglheialfaaRel2
import Derived.Test.YthjjcglheialfaaRel3
namespace Go.Proofs.Ythjjcglheialfaa
open Go.RowKit
set_option linter.unusedVariables false
set_option maxRecDepth 20000
set_option linter.unusedSimpArgs false

/-- copy of bytes into the midst of a known block -/
theorem wp_copy_Blk {P : Program} {w : World} {o : Oper} {a : Act} {K : Act → World → Prop} {Q : Exit → Act → World → Prop} (d s : Operand) (dT sT : TypeId) (ho : o.op = .call { callee := .builtin .copy, args := #[d, s], argTypes := #[dT, sT] })
    {g B m n dc sc : Nat} {e t : TypeId} {cs ys : List Value} {X : Option Addr} (hu : P.underlying dT = some (.slice e)) (hs : (P.info? e).map (·.size) = some 1)
    (k : Nat) (hd : a.eval d = .slice (some ⟨g, k, none⟩) n dc) (hsv : a.eval s = .slice X m sc) (hb : Blk w g t cs) (hm : 0 < m) (hmn : m ≤ n) (hk : k + m ≤ cs.length) (hr : Row w B 1 X m ys) (h1 : ∀ v ∈ ys, v.oneCell' = true)
    (h : ∀ w', Blk w' g t (cs.take k ++ ys ++ cs.drop (k + m)) → w.grownBy w' (some g) → w'.heap.size = w.heap.size → K (a.put o.dst (goInt m)) w') : o.wp P a w K Q := by
  have hym : ys.length = m := by have := hr.1; omega
  obtain ⟨b, o', rfl, hbB, hcell⟩ := hr.2 hm
  have hrun := run_copy_row (P := P) w dT sT o.type e g k n dc ⟨b, o', none⟩ m sc cs.toArray t ys hu hs hb (by rw [hym]; exact (Nat.min_eq_left hmn).symm) (fun j v hv => by
    have := hcell j v hv
    unfold Addr.add
    split
    · rename_i h0; subst h0; simpa using this
    · exact this) (by rw [hym]; simpa using hk) h1
  rw [hym] at hrun
  refine Lib.wp_copy_run w d s dT sT ho _ _ hd hsv hrun (h _ ?_ ?_ ?_)
  · exact setRow_heap w g cs.toArray _ t _ hb
  · exact ⟨rfl, rfl, rfl, by simp [World.setRow], fun i _ hne => setRow_other w g i _ (fun e => hne (by rw [e]))⟩
  · simp [World.setRow]

/-- a key -/
structure Ky where
  six : Bool
  src : List UInt8
  dst : List UInt8
  pro : Int
  fr : Int
  to : Int
def Ky.cells (k : Ky) : List Value := .bool k.six :: (bv k.src ++ (bv k.dst ++ [.int .u8 k.pro, .int .i64 k.fr, .int .i64 k.to]))
def Ky.zero : Ky := ⟨false, z16, z16, 0, 0, 0⟩
structure Ky.ok (k : Ky) : Prop where
  src : k.src.length = 16
  dst : k.dst.length = 16
theorem Ky.zero_ok : Ky.zero.ok := ⟨rfl, rfl⟩
theorem Ky.cells_length (k : Ky) (ho : k.ok) : k.cells.length = 36 := by simp [Ky.cells, bv_length, ho.src, ho.dst]
theorem Ky.cells_same (h k : Ky) (ho : h.ok) (ko : k.ok) : h.cells.length = k.cells.length := by rw [h.cells_length ho, k.cells_length ko]
theorem Ky.one (h : Ky) : ∀ v ∈ h.cells, v.oneCell' = true := by
  intro v hv
  simp only [Ky.cells, List.mem_cons, List.mem_append, List.not_mem_nil, or_false] at hv
  rcases hv with rfl | hv | hv | rfl | rfl | rfl
  · rfl
  · exact bv_one _ v hv
  · exact bv_one _ v hv
  · rfl
  · rfl
  · rfl
theorem Ky.drop_src (h : Ky) (ho : h.ok) : (h.cells.drop 1).take 16 = bv h.src := by
  simp only [Ky.cells, List.drop_succ_cons, List.drop_zero]
  exact List.take_left' (by rw [bv_length, ho.src])
theorem Ky.drop_dst (h : Ky) (ho : h.ok) : (h.cells.drop 17).take 16 = bv h.dst := by
  simp only [Ky.cells, List.drop_succ_cons]
  rw [List.drop_left' (by rw [bv_length, ho.src])]
  exact List.take_left' (by rw [bv_length, ho.dst])
theorem Ky.get_tail (h : Ky) (ho : h.ok) (j : Nat) : h.cells[33 + j]? = [Value.int .u8 h.pro, .int .i64 h.fr, .int .i64 h.to][j]? := by
  rw [show 33 + j = (32 + j) + 1 by omega]
  simp only [Ky.cells, List.getElem?_cons_succ]
  rw [List.getElem?_append_right (by rw [bv_length, ho.src]; omega), List.getElem?_append_right (by rw [bv_length, bv_length, ho.src, ho.dst]; omega)]
  congr 1
  rw [bv_length, bv_length, ho.src, ho.dst]
  omega
theorem Ky.put_src (h : Ky) (ho : h.ok) (l : List UInt8) (hl : l.length = 4) : h.cells.take 1 ++ bv l ++ h.cells.drop (1 + 4) = { h with src := l ++ h.src.drop 4 }.cells := by
  simp only [Ky.cells, List.take_succ_cons, List.take_zero, List.drop_succ_cons, List.cons_append, List.nil_append, bv_append, List.append_assoc]
  congr 2
  rw [List.drop_append_of_le_length (by rw [bv_length, ho.src]; omega), ← bv_drop]
theorem Ky.put_dst (h : Ky) (ho : h.ok) (l : List UInt8) (hl : l.length = 4) : h.cells.take 17 ++ bv l ++ h.cells.drop (17 + 4) = { h with dst := l ++ h.dst.drop 4 }.cells := by
  simp only [Ky.cells, List.take_succ_cons, List.drop_succ_cons, List.cons_append, List.append_assoc, bv_append]
  rw [List.take_left' (by rw [bv_length, ho.src]), show (17 + 3 : Nat) = 16 + 4 from rfl, ← List.drop_drop, List.drop_left' (by rw [bv_length, ho.src]), List.drop_append_of_le_length (by rw [bv_length, ho.dst]; omega), ← bv_drop]
theorem Ky.set34 (h : Ky) (ho : h.ok) (x : Int) : h.cells.set 34 (.int .i64 x) = { h with fr := x }.cells := by
  simp only [Ky.cells, List.set_cons_succ]
  rw [List.set_append_right _ _ (by rw [bv_length, ho.src]; omega), List.set_append_right _ _ (by rw [bv_length, bv_length, ho.src, ho.dst]; omega)]
  simp only [bv_length, ho.src, ho.dst]
  rfl
theorem Ky.set35 (h : Ky) (ho : h.ok) (x : Int) : h.cells.set 35 (.int .i64 x) = { h with to := x }.cells := by
  simp only [Ky.cells, List.set_cons_succ]
  rw [List.set_append_right _ _ (by rw [bv_length, ho.src]; omega), List.set_append_right _ _ (by rw [bv_length, bv_length, ho.src, ho.dst]; omega)]
  simp only [bv_length, ho.src, ho.dst]
  rfl

theorem zeroK (w : World) : (zeroValue 26).run Try.prog w = .ok (.agg Ky.zero.cells.toArray) w := by kernel_rfl
theorem sizeK (h : Ky) (ho : h.ok) : (Try.prog.info? 26).map (·.size) = some h.cells.length := by rw [h.cells_length ho]; kernel_rfl
theorem zeroR (w : World) : (zeroValue 29).run Try.prog w = .ok (.agg Ky.zero.cells.toArray) w := by kernel_rfl
theorem sizeR (h : Ky) (ho : h.ok) : (Try.prog.info? 29).map (·.size) = some h.cells.length := by rw [h.cells_length ho]; kernel_rfl

theorem run_buildKz (w : World) : (Instr.build 26 #[]).run Try.prog w = .ok (.agg Ky.zero.cells.toArray) w := by kernel_rfl
theorem run_buildRz (w : World) : (Instr.build 29 #[]).run Try.prog w = .ok (.agg Ky.zero.cells.toArray) w := by kernel_rfl
theorem run_buildKp (p : Int) (w : World) : (Instr.build 26 #[(3, .int .u8 p)]).run Try.prog w = .ok (.agg (Ky.cells ⟨false, z16, z16, p, 0, 0⟩).toArray) w := by kernel_rfl
theorem run_buildK6 (p : Int) (s0 s1 s2 s3 s4 s5 s6 s7 s8 s9 s10 s11 s12 s13 s14 s15 : UInt8) (t0 t1 t2 t3 t4 t5 t6 t7 t8 t9 t10 t11 t12 t13 t14 t15 : UInt8) (w : World) :
    (Instr.build 26 #[(0, .bool true), (1, .agg (bv [s0, s1, s2, s3, s4, s5, s6, s7, s8, s9, s10, s11, s12, s13, s14, s15]).toArray), (2, .agg (bv [t0, t1, t2, t3, t4, t5, t6, t7, t8, t9, t10, t11, t12, t13, t14, t15]).toArray), (3, .int .u8 p)]).run Try.prog w = .ok (.agg (Ky.cells ⟨true, [s0, s1, s2, s3, s4, s5, s6, s7, s8, s9, s10, s11, s12, s13, s14, s15], [t0, t1, t2, t3, t4, t5, t6, t7, t8, t9, t10, t11, t12, t13, t14, t15], p, 0, 0⟩).toArray) w := by kernel_rfl
theorem run_buildR6 (p : Int) (s0 s1 s2 s3 s4 s5 s6 s7 s8 s9 s10 s11 s12 s13 s14 s15 : UInt8) (t0 t1 t2 t3 t4 t5 t6 t7 t8 t9 t10 t11 t12 t13 t14 t15 : UInt8) (w : World) :
    (Instr.build 29 #[(0, .bool true), (1, .agg (bv [s0, s1, s2, s3, s4, s5, s6, s7, s8, s9, s10, s11, s12, s13, s14, s15]).toArray), (2, .agg (bv [t0, t1, t2, t3, t4, t5, t6, t7, t8, t9, t10, t11, t12, t13, t14, t15]).toArray), (3, .int .u8 p)]).run Try.prog w = .ok (.agg (Ky.cells ⟨true, [s0, s1, s2, s3, s4, s5, s6, s7, s8, s9, s10, s11, s12, s13, s14, s15], [t0, t1, t2, t3, t4, t5, t6, t7, t8, t9, t10, t11, t12, t13, t14, t15], p, 0, 0⟩).toArray) w := by kernel_rfl
theorem run_buildR4 (p : Int) (s0 s1 s2 s3 s4 s5 s6 s7 s8 s9 s10 s11 s12 s13 s14 s15 : UInt8) (t0 t1 t2 t3 t4 t5 t6 t7 t8 t9 t10 t11 t12 t13 t14 t15 : UInt8) (w : World) :
    (Instr.build 29 #[(1, .agg (bv [s0, s1, s2, s3, s4, s5, s6, s7, s8, s9, s10, s11, s12, s13, s14, s15]).toArray), (2, .agg (bv [t0, t1, t2, t3, t4, t5, t6, t7, t8, t9, t10, t11, t12, t13, t14, t15]).toArray), (3, .int .u8 p)]).run Try.prog w = .ok (.agg (Ky.cells ⟨false, [s0, s1, s2, s3, s4, s5, s6, s7, s8, s9, s10, s11, s12, s13, s14, s15], [t0, t1, t2, t3, t4, t5, t6, t7, t8, t9, t10, t11, t12, t13, t14, t15], p, 0, 0⟩).toArray) w := by kernel_rfl
theorem run_buildRf (x : Bool) (p f g : Int) (s0 s1 s2 s3 s4 s5 s6 s7 s8 s9 s10 s11 s12 s13 s14 s15 : UInt8) (t0 t1 t2 t3 t4 t5 t6 t7 t8 t9 t10 t11 t12 t13 t14 t15 : UInt8) (w : World) :
    (Instr.build 29 #[(0, .bool x), (1, .agg (bv [s0, s1, s2, s3, s4, s5, s6, s7, s8, s9, s10, s11, s12, s13, s14, s15]).toArray), (2, .agg (bv [t0, t1, t2, t3, t4, t5, t6, t7, t8, t9, t10, t11, t12, t13, t14, t15]).toArray), (3, .int .u8 p), (4, .int .i64 f), (5, .int .i64 g)]).run Try.prog w = .ok (.agg (Ky.cells ⟨x, [s0, s1, s2, s3, s4, s5, s6, s7, s8, s9, s10, s11, s12, s13, s14, s15], [t0, t1, t2, t3, t4, t5, t6, t7, t8, t9, t10, t11, t12, t13, t14, t15], p, f, g⟩).toArray) w := by kernel_rfl

theorem exec_buildKz {w : World} {o : Oper} {a : Act} (ho : o.op = .build 26 #[]) : (execOp a.eval o).run Try.prog w = .ok (.value (.agg Ky.zero.cells.toArray)) w := by
  unfold execOp
  simp only [ho, List.map_toArray, List.map_nil, Sem.run_bind, run_buildKz, Result.andThen_ok]
  rfl
theorem exec_buildRz {w : World} {o : Oper} {a : Act} (ho : o.op = .build 29 #[]) : (execOp a.eval o).run Try.prog w = .ok (.value (.agg Ky.zero.cells.toArray)) w := by
  unfold execOp
  simp only [ho, List.map_toArray, List.map_nil, Sem.run_bind, run_buildRz, Result.andThen_ok]
  rfl
theorem exec_buildKp {w : World} {o : Oper} {a : Act} (x3 : Operand) (ho : o.op = .build 26 #[(3, x3)]) (p : Int) (h3 : a.eval x3 = .int .u8 p) : (execOp a.eval o).run Try.prog w = .ok (.value (.agg (Ky.cells ⟨false, z16, z16, p, 0, 0⟩).toArray)) w := by
  unfold execOp
  simp only [ho, List.map_toArray, List.map_cons, List.map_nil, h3, Sem.run_bind, run_buildKp, Result.andThen_ok]
  rfl
theorem exec_buildK6 {w : World} {o : Oper} {a : Act} (x0 x1 x2 x3 : Operand) (ho : o.op = .build 26 #[(0, x0), (1, x1), (2, x2), (3, x3)]) (s t : List UInt8) (p : Int) (hs : s.length = 16) (ht : t.length = 16)
    (h0 : a.eval x0 = .bool true) (h1 : a.eval x1 = .agg (bv s).toArray) (h2 : a.eval x2 = .agg (bv t).toArray) (h3 : a.eval x3 = .int .u8 p) : (execOp a.eval o).run Try.prog w = .ok (.value (.agg (Ky.cells ⟨true, s, t, p, 0, 0⟩).toArray)) w := by
  obtain ⟨s0, s1, s2, s3, s4, s5, s6, s7, s8, s9, s10, s11, s12, s13, s14, s15, rfl⟩ := list16 s hs
  obtain ⟨t0, t1, t2, t3, t4, t5, t6, t7, t8, t9, t10, t11, t12, t13, t14, t15, rfl⟩ := list16 t ht
  unfold execOp
  simp only [ho, List.map_toArray, List.map_cons, List.map_nil, h0, h1, h2, h3, Sem.run_bind, run_buildK6, Result.andThen_ok]
  rfl
theorem exec_buildR6 {w : World} {o : Oper} {a : Act} (x0 x1 x2 x3 : Operand) (ho : o.op = .build 29 #[(0, x0), (1, x1), (2, x2), (3, x3)]) (s t : List UInt8) (p : Int) (hs : s.length = 16) (ht : t.length = 16)
    (h0 : a.eval x0 = .bool true) (h1 : a.eval x1 = .agg (bv s).toArray) (h2 : a.eval x2 = .agg (bv t).toArray) (h3 : a.eval x3 = .int .u8 p) : (execOp a.eval o).run Try.prog w = .ok (.value (.agg (Ky.cells ⟨true, s, t, p, 0, 0⟩).toArray)) w := by
  obtain ⟨s0, s1, s2, s3, s4, s5, s6, s7, s8, s9, s10, s11, s12, s13, s14, s15, rfl⟩ := list16 s hs
  obtain ⟨t0, t1, t2, t3, t4, t5, t6, t7, t8, t9, t10, t11, t12, t13, t14, t15, rfl⟩ := list16 t ht
  unfold execOp
  simp only [ho, List.map_toArray, List.map_cons, List.map_nil, h0, h1, h2, h3, Sem.run_bind, run_buildR6, Result.andThen_ok]
  rfl
theorem exec_buildR4 {w : World} {o : Oper} {a : Act} (x1 x2 x3 : Operand) (ho : o.op = .build 29 #[(1, x1), (2, x2), (3, x3)]) (s t : List UInt8) (p : Int) (hs : s.length = 16) (ht : t.length = 16)
    (h1 : a.eval x1 = .agg (bv s).toArray) (h2 : a.eval x2 = .agg (bv t).toArray) (h3 : a.eval x3 = .int .u8 p) : (execOp a.eval o).run Try.prog w = .ok (.value (.agg (Ky.cells ⟨false, s, t, p, 0, 0⟩).toArray)) w := by
  obtain ⟨s0, s1, s2, s3, s4, s5, s6, s7, s8, s9, s10, s11, s12, s13, s14, s15, rfl⟩ := list16 s hs
  obtain ⟨t0, t1, t2, t3, t4, t5, t6, t7, t8, t9, t10, t11, t12, t13, t14, t15, rfl⟩ := list16 t ht
  unfold execOp
  simp only [ho, List.map_toArray, List.map_cons, List.map_nil, h1, h2, h3, Sem.run_bind, run_buildR4, Result.andThen_ok]
  rfl
theorem exec_buildRf {w : World} {o : Oper} {a : Act} (x0 x1 x2 x3 x4 x5 : Operand) (ho : o.op = .build 29 #[(0, x0), (1, x1), (2, x2), (3, x3), (4, x4), (5, x5)]) (k : Ky) (hk : k.ok)
    (h0 : a.eval x0 = .bool k.six) (h1 : a.eval x1 = .agg (bv k.src).toArray) (h2 : a.eval x2 = .agg (bv k.dst).toArray) (h3 : a.eval x3 = .int .u8 k.pro) (h4 : a.eval x4 = .int .i64 k.fr) (h5 : a.eval x5 = .int .i64 k.to) : (execOp a.eval o).run Try.prog w = .ok (.value (.agg k.cells.toArray)) w := by
  obtain ⟨x, s, t, p, f, g⟩ := k
  obtain ⟨s0, s1, s2, s3, s4, s5, s6, s7, s8, s9, s10, s11, s12, s13, s14, s15, rfl⟩ := list16 s hk.src
  obtain ⟨t0, t1, t2, t3, t4, t5, t6, t7, t8, t9, t10, t11, t12, t13, t14, t15, rfl⟩ := list16 t hk.dst
  unfold execOp
  simp only [ho, List.map_toArray, List.map_cons, List.map_nil, h0, h1, h2, h3, h4, h5, Sem.run_bind, run_buildRf, Result.andThen_ok]
  rfl

set_option maxRecDepth 100000 in
theorem sameK (h : Ky) (ho : h.ok) (w : World) : (Op.equalIn 10000 26 (.agg h.cells.toArray) (.agg h.cells.toArray)).run Try.prog w = .ok true w := by
  rw [run_equalIn_struct w 9999 26 _ _ Try.underlying26 (show Try.prog.stoodInHeld 26 = false by kernel_rfl)]
  have hd := h.drop_src ho
  have hd2 := h.drop_dst ho
  refine eqF_cons (by decide) (part_one (by kernel_rfl) rfl) (part_one (by kernel_rfl) rfl) (eq_bool Try.underlying4 _) ?_
  refine eqF_cons (by decide) (part_arr (n := 16) (by kernel_rfl) (by kernel_rfl)) (part_arr (n := 16) (by kernel_rfl) (by kernel_rfl)) (by rw [hd]; exact eq_bytes Try.underlying24 Try.underlying5 (fun _ => by kernel_rfl) _ ho.src) ?_
  refine eqF_cons (by decide) (part_arr (n := 16) (by kernel_rfl) (by kernel_rfl)) (part_arr (n := 16) (by kernel_rfl) (by kernel_rfl)) (by rw [hd2]; exact eq_bytes Try.underlying24 Try.underlying5 (fun _ => by kernel_rfl) _ ho.dst) ?_
  refine eqF_cons (by decide) (part_one (by kernel_rfl) (h.get_tail ho 0)) (part_one (by kernel_rfl) (h.get_tail ho 0)) (eq_int Try.underlying5 _ _) ?_
  refine eqF_cons (by decide) (part_one (by kernel_rfl) (h.get_tail ho 1)) (part_one (by kernel_rfl) (h.get_tail ho 1)) (eq_int Try.underlying3 _ _) ?_
  refine eqF_cons (by decide) (part_one (by kernel_rfl) (h.get_tail ho 2)) (part_one (by kernel_rfl) (h.get_tail ho 2)) (eq_int Try.underlying3 _ _) ?_
  exact eqF_nil
set_option maxRecDepth 100000 in
theorem sameR (h : Ky) (ho : h.ok) (w : World) : (Op.equalIn 10000 29 (.agg h.cells.toArray) (.agg h.cells.toArray)).run Try.prog w = .ok true w := by
  rw [run_equalIn_struct w 9999 29 _ _ Try.underlying29 (show Try.prog.stoodInHeld 29 = false by kernel_rfl)]
  have hd := h.drop_src ho
  have hd2 := h.drop_dst ho
  refine eqF_cons (by decide) (part_one (by kernel_rfl) rfl) (part_one (by kernel_rfl) rfl) (eq_bool Try.underlying4 _) ?_
  refine eqF_cons (by decide) (part_arr (n := 16) (by kernel_rfl) (by kernel_rfl)) (part_arr (n := 16) (by kernel_rfl) (by kernel_rfl)) (by rw [hd]; exact eq_bytes Try.underlying24 Try.underlying5 (fun _ => by kernel_rfl) _ ho.src) ?_
  refine eqF_cons (by decide) (part_arr (n := 16) (by kernel_rfl) (by kernel_rfl)) (part_arr (n := 16) (by kernel_rfl) (by kernel_rfl)) (by rw [hd2]; exact eq_bytes Try.underlying24 Try.underlying5 (fun _ => by kernel_rfl) _ ho.dst) ?_
  refine eqF_cons (by decide) (part_one (by kernel_rfl) (h.get_tail ho 0)) (part_one (by kernel_rfl) (h.get_tail ho 0)) (eq_int Try.underlying5 _ _) ?_
  refine eqF_cons (by decide) (part_one (by kernel_rfl) (h.get_tail ho 1)) (part_one (by kernel_rfl) (h.get_tail ho 1)) (eq_int Try.underlying3 _ _) ?_
  refine eqF_cons (by decide) (part_one (by kernel_rfl) (h.get_tail ho 2)) (part_one (by kernel_rfl) (h.get_tail ho 2)) (eq_int Try.underlying3 _ _) ?_
  exact eqF_nil
theorem exec_eqK {w : World} {o : Oper} {a : Act} (x y : Operand) (ty : TypeId) (ho : o.op = .binOp .eql 26 x y ty) (h : Ky) (hk : h.ok) (hx : a.eval x = .agg h.cells.toArray) (hy : a.eval y = .agg h.cells.toArray) : (execOp a.eval o).run Try.prog w = .ok (.value (.bool true)) w := by
  unfold execOp
  simp only [ho, hx, hy, Sem.run_bind, run_eqGuard_agg w .eql 26 x y _ _ (show Try.prog.eqGuardType Try.prog.depth 26 = false by kernel_rfl), run_eql_struct, sameK h hk, Result.andThen_ok]
  rfl
theorem exec_eqR {w : World} {o : Oper} {a : Act} (x y : Operand) (ty : TypeId) (ho : o.op = .binOp .eql 29 x y ty) (h : Ky) (hk : h.ok) (hx : a.eval x = .agg h.cells.toArray) (hy : a.eval y = .agg h.cells.toArray) : (execOp a.eval o).run Try.prog w = .ok (.value (.bool true)) w := by
  unfold execOp
  simp only [ho, hx, hy, Sem.run_bind, run_eqGuard_agg w .eql 29 x y _ _ (show Try.prog.eqGuardType Try.prog.depth 29 = false by kernel_rfl), run_eql_struct, sameR h hk, Result.andThen_ok]
  rfl
end Go.Proofs.Ythjjcglheialfaa

/- Headers of IPv4 as cells: made, compared. No condition. -/
import Derived.Test.YtimkgkokidhhpaaCom
namespace Go.Proofs.Ytimkgkokidhhpaa
open Go.RowKit
set_option linter.unusedVariables false
set_option maxRecDepth 20000
set_option linter.unusedSimpArgs false

/-- a header -/
structure H4 where
  tos : Int
  len : Int
  id : Int
  keep : Bool
  more : Bool
  off : Int
  ttl : Int
  pro : Int
  src : List UInt8
  dst : List UInt8
  opt : List UInt8
def H4.cells (h : H4) : List Value := .int .u8 h.tos :: .int .i64 h.len :: .int .u16 h.id :: .bool h.keep :: .bool h.more :: .int .i64 h.off :: .int .u8 h.ttl :: .int .u8 h.pro :: (bv h.src ++ (bv h.dst ++ [str h.opt]))
def z4 : List UInt8 := [0, 0, 0, 0]
def H4.zero : H4 := ⟨0, 0, 0, false, false, 0, 0, 0, z4, z4, []⟩
structure H4.ok (h : H4) : Prop where
  src : h.src.length = 4
  dst : h.dst.length = 4
theorem H4.zero_ok : H4.zero.ok := ⟨rfl, rfl⟩
theorem H4.cells_length (h : H4) (ho : h.ok) : h.cells.length = 17 := by simp [H4.cells, bv_length, ho.src, ho.dst]
theorem H4.cells_same (h k : H4) (ho : h.ok) (ko : k.ok) : h.cells.length = k.cells.length := by rw [h.cells_length ho, k.cells_length ko]
theorem H4.one (h : H4) : ∀ v ∈ h.cells, v.oneCell' = true := by
  intro v hv
  simp only [H4.cells, List.mem_cons, List.mem_append, List.not_mem_nil, or_false] at hv
  rcases hv with rfl | rfl | rfl | rfl | rfl | rfl | rfl | rfl | hv | hv | rfl
  · rfl
  · rfl
  · rfl
  · rfl
  · rfl
  · rfl
  · rfl
  · rfl
  · exact bv_one _ v hv
  · exact bv_one _ v hv
  · rfl
theorem H4.drop_src (h : H4) (ho : h.ok) : (h.cells.drop 8).take 4 = bv h.src := by
  simp only [H4.cells, List.drop_succ_cons, List.drop_zero]
  exact List.take_left' (by rw [bv_length, ho.src])
theorem H4.drop_dst (h : H4) (ho : h.ok) : (h.cells.drop 12).take 4 = bv h.dst := by
  simp only [H4.cells, List.drop_succ_cons]
  rw [List.drop_left' (by rw [bv_length, ho.src])]
  exact List.take_left' (by rw [bv_length, ho.dst])
theorem H4.get_opt (h : H4) (ho : h.ok) : h.cells[16]? = some (str h.opt) := by
  simp only [H4.cells, List.getElem?_cons_succ]
  rw [List.getElem?_append_right (by rw [bv_length, ho.src]; omega), List.getElem?_append_right (by rw [bv_length, bv_length, ho.src, ho.dst]; omega)]
  simp [bv_length, ho.src, ho.dst]
theorem H4.put_src (h : H4) (ho : h.ok) (l : List UInt8) (hl : l.length = 4) : h.cells.take 8 ++ bv l ++ h.cells.drop (8 + (bv l).length) = { h with src := l }.cells := by
  rw [bv_length, hl]
  simp only [H4.cells, List.take_succ_cons, List.take_zero, List.drop_succ_cons, List.cons_append, List.nil_append]
  rw [List.drop_left' (by rw [bv_length, ho.src])]
theorem H4.put_dst (h : H4) (ho : h.ok) (l : List UInt8) (hl : l.length = 4) : h.cells.take 12 ++ bv l ++ h.cells.drop (12 + (bv l).length) = { h with dst := l }.cells := by
  rw [bv_length, hl]
  simp only [H4.cells, List.take_succ_cons, List.drop_succ_cons, List.cons_append, List.append_assoc]
  rw [List.take_left' (by rw [bv_length, ho.src]), show (8 : Nat) = 4 + 4 from rfl, ← List.drop_drop, List.drop_left' (by rw [bv_length, ho.src]), List.drop_left' (by rw [bv_length, ho.dst])]

theorem zero4 (w : World) : (zeroValue 42).run Try.prog w = .ok (.agg H4.zero.cells.toArray) w := by kernel_rfl
theorem size4 (h : H4) (ho : h.ok) : (Try.prog.info? 42).map (·.size) = some h.cells.length := by rw [h.cells_length ho]; kernel_rfl
theorem sizeA4 (l : List UInt8) (hl : l.length = 4) : (Try.prog.info? 37).map (·.size) = some (bv l).length := by rw [bv_length, hl]; kernel_rfl
theorem list4 (l : List UInt8) (h : l.length = 4) : ∃ s0 s1 s2 s3, l = [s0, s1, s2, s3] := by
  match l, h with
  | [s0, s1, s2, s3], _ => exact ⟨s0, s1, s2, s3, rfl⟩

set_option maxRecDepth 100000 in
theorem same4 (h : H4) (ho : h.ok) (w : World) : (Op.equalIn 10000 42 (.agg h.cells.toArray) (.agg h.cells.toArray)).run Try.prog w = .ok true w := by
  rw [run_equalIn_struct w 9999 42 _ _ Try.underlying42 (show Try.prog.stoodInHeld 42 = false by kernel_rfl)]
  have hd := h.drop_src ho
  have hd2 := h.drop_dst ho
  have ho3 := h.get_opt ho
  refine eqF_cons (by decide) (part_one (by kernel_rfl) rfl) (part_one (by kernel_rfl) rfl) (eq_int Try.underlying5 _ _) ?_
  refine eqF_cons (by decide) (part_one (by kernel_rfl) rfl) (part_one (by kernel_rfl) rfl) (eq_int Try.underlying3 _ _) ?_
  refine eqF_cons (by decide) (part_one (by kernel_rfl) rfl) (part_one (by kernel_rfl) rfl) (eq_int Try.underlying40 _ _) ?_
  refine eqF_cons (by decide) (part_one (by kernel_rfl) rfl) (part_one (by kernel_rfl) rfl) (eq_bool Try.underlying4 _) ?_
  refine eqF_cons (by decide) (part_one (by kernel_rfl) rfl) (part_one (by kernel_rfl) rfl) (eq_bool Try.underlying4 _) ?_
  refine eqF_cons (by decide) (part_one (by kernel_rfl) rfl) (part_one (by kernel_rfl) rfl) (eq_int Try.underlying3 _ _) ?_
  refine eqF_cons (by decide) (part_one (by kernel_rfl) rfl) (part_one (by kernel_rfl) rfl) (eq_int Try.underlying5 _ _) ?_
  refine eqF_cons (by decide) (part_one (by kernel_rfl) rfl) (part_one (by kernel_rfl) rfl) (eq_int Try.underlying5 _ _) ?_
  refine eqF_cons (by decide) (part_arr (n := 4) (by kernel_rfl) (by kernel_rfl)) (part_arr (n := 4) (by kernel_rfl) (by kernel_rfl)) (by rw [hd]; exact eq_bytes Try.underlying37 Try.underlying5 (fun _ => by kernel_rfl) _ ho.src) ?_
  refine eqF_cons (by decide) (part_arr (n := 4) (by kernel_rfl) (by kernel_rfl)) (part_arr (n := 4) (by kernel_rfl) (by kernel_rfl)) (by rw [hd2]; exact eq_bytes Try.underlying37 Try.underlying5 (fun _ => by kernel_rfl) _ ho.dst) ?_
  refine eqF_cons (by decide) (part_one (by kernel_rfl) ho3) (part_one (by kernel_rfl) ho3) (eq_str Try.underlying9 _) ?_
  exact eqF_nil
theorem run_eql4 (h : H4) (ho : h.ok) (w : World) : (binOp .eql 42 (.agg h.cells.toArray) (.agg h.cells.toArray)).run Try.prog w = .ok (.bool true) w := by
  rw [run_eql_struct, same4 h ho]
  rfl
theorem run_neq4 (h : H4) (ho : h.ok) (w : World) : (binOp .neq 42 (.agg h.cells.toArray) (.agg h.cells.toArray)).run Try.prog w = .ok (.bool false) w := by
  rw [run_neq_struct, same4 h ho]
  rfl
theorem exec_eq4 {w : World} {o : Oper} {a : Act} (x y : Operand) (ty : TypeId) (ho : o.op = .binOp .eql 42 x y ty) (h : H4) (hk : h.ok) (hx : a.eval x = .agg h.cells.toArray) (hy : a.eval y = .agg h.cells.toArray) : (execOp a.eval o).run Try.prog w = .ok (.value (.bool true)) w := by
  unfold execOp
  simp only [ho, hx, hy, Sem.run_bind, run_eqGuard_agg w .eql 42 x y _ _ (show Try.prog.eqGuardType Try.prog.depth 42 = false by kernel_rfl), run_eql4 h hk, Result.andThen_ok]
  rfl
theorem exec_neq4 {w : World} {o : Oper} {a : Act} (x y : Operand) (ty : TypeId) (ho : o.op = .binOp .neq 42 x y ty) (h : H4) (hk : h.ok) (hx : a.eval x = .agg h.cells.toArray) (hy : a.eval y = .agg h.cells.toArray) : (execOp a.eval o).run Try.prog w = .ok (.value (.bool false)) w := by
  unfold execOp
  simp only [ho, hx, hy, Sem.run_bind, run_eqGuard_agg w .neq 42 x y _ _ (show Try.prog.eqGuardType Try.prog.depth 42 = false by kernel_rfl), run_neq4 h hk, Result.andThen_ok]
  rfl
end Go.Proofs.Ytimkgkokidhhpaa

/- Headers of IPv6 as cells: made, compared, and the reference's and the program's reading of bytes as one. No condition. -/
import Derived.Test.YtimkgkokidhhpaaCom
namespace Go.Proofs.Ytimkgkokidhhpaa
open Go.RowKit
set_option linter.unusedVariables false
set_option maxRecDepth 20000

/-- a header -/
structure H6 where
  cls : Int
  flow : Int
  len : Int
  next : Int
  ttl : Int
  src : List UInt8
  dst : List UInt8
def H6.cells (h : H6) : List Value := .int .u8 h.cls :: .int .i64 h.flow :: .int .i64 h.len :: .int .u8 h.next :: .int .u8 h.ttl :: (bv h.src ++ bv h.dst)
def z16 : List UInt8 := [0, 0, 0, 0, 0, 0, 0, 0, 0, 0, 0, 0, 0, 0, 0, 0]
def H6.zero : H6 := ⟨0, 0, 0, 0, 0, z16, z16⟩
structure H6.ok (h : H6) : Prop where
  src : h.src.length = 16
  dst : h.dst.length = 16
theorem H6.zero_ok : H6.zero.ok := ⟨rfl, rfl⟩
theorem H6.cells_length (h : H6) (ho : h.ok) : h.cells.length = 37 := by simp [H6.cells, bv_length, ho.src, ho.dst]
theorem H6.cells_same (h k : H6) (ho : h.ok) (ko : k.ok) : h.cells.length = k.cells.length := by rw [h.cells_length ho, k.cells_length ko]
theorem H6.one (h : H6) : ∀ v ∈ h.cells, v.oneCell' = true := by
  intro v hv
  simp only [H6.cells, List.mem_cons, List.mem_append] at hv
  rcases hv with rfl | rfl | rfl | rfl | rfl | hv | hv
  · rfl
  · rfl
  · rfl
  · rfl
  · rfl
  · exact bv_one _ v hv
  · exact bv_one _ v hv
theorem H6.drop_src (h : H6) (ho : h.ok) : (h.cells.drop 5).take 16 = bv h.src := by
  simp only [H6.cells, List.drop_succ_cons, List.drop_zero]
  exact List.take_left' (by rw [bv_length, ho.src])
theorem H6.drop_dst (h : H6) (ho : h.ok) : (h.cells.drop 21).take 16 = bv h.dst := by
  simp only [H6.cells, List.drop_succ_cons]
  rw [List.drop_left' (by rw [bv_length, ho.src])]
  exact List.take_of_length_le (by rw [bv_length, ho.dst]; omega)
theorem H6.put_src (h : H6) (ho : h.ok) (l : List UInt8) (hl : l.length = 16) : h.cells.take 5 ++ bv l ++ h.cells.drop (5 + (bv l).length) = { h with src := l }.cells := by
  rw [bv_length, hl]
  simp only [H6.cells, List.take_succ_cons, List.take_zero, List.drop_succ_cons, List.cons_append, List.nil_append]
  rw [List.drop_left' (by rw [bv_length, ho.src])]
theorem H6.put_dst (h : H6) (ho : h.ok) (l : List UInt8) (hl : l.length = 16) : h.cells.take 21 ++ bv l ++ h.cells.drop (21 + (bv l).length) = { h with dst := l }.cells := by
  rw [List.drop_of_length_le (by rw [h.cells_length ho, bv_length, hl]; omega)]
  simp only [H6.cells, List.take_succ_cons, List.cons_append, List.append_nil]
  rw [List.take_left' (by rw [bv_length, ho.src])]

theorem zero6 (w : World) : (zeroValue 44).run Try.prog w = .ok (.agg H6.zero.cells.toArray) w := by kernel_rfl
theorem size6 (h : H6) (ho : h.ok) : (Try.prog.info? 44).map (·.size) = some h.cells.length := by rw [h.cells_length ho]; kernel_rfl
theorem size24 (l : List UInt8) (hl : l.length = 16) : (Try.prog.info? 33).map (·.size) = some (bv l).length := by rw [bv_length, hl]; kernel_rfl

theorem run_build6 (a b c d e : Int) (w : World) : (Instr.build 44 #[(0, .int .u8 a), (1, .int .i64 b), (2, .int .i64 c), (3, .int .u8 d), (4, .int .u8 e)]).run Try.prog w = .ok (.agg (H6.cells ⟨a, b, c, d, e, z16, z16⟩).toArray) w := by kernel_rfl
theorem run_build6z (w : World) : (Instr.build 44 #[]).run Try.prog w = .ok (.agg H6.zero.cells.toArray) w := by kernel_rfl
theorem run_build6x (a b c d e : Int) (s0 s1 s2 s3 s4 s5 s6 s7 s8 s9 s10 s11 s12 s13 s14 s15 : UInt8) (t0 t1 t2 t3 t4 t5 t6 t7 t8 t9 t10 t11 t12 t13 t14 t15 : UInt8) (w : World) :
    (Instr.build 44 #[(0, .int .u8 a), (1, .int .i64 b), (2, .int .i64 c), (3, .int .u8 d), (4, .int .u8 e), (5, .agg (bv [s0, s1, s2, s3, s4, s5, s6, s7, s8, s9, s10, s11, s12, s13, s14, s15]).toArray), (6, .agg (bv [t0, t1, t2, t3, t4, t5, t6, t7, t8, t9, t10, t11, t12, t13, t14, t15]).toArray)]).run Try.prog w = .ok (.agg (H6.cells ⟨a, b, c, d, e, [s0, s1, s2, s3, s4, s5, s6, s7, s8, s9, s10, s11, s12, s13, s14, s15], [t0, t1, t2, t3, t4, t5, t6, t7, t8, t9, t10, t11, t12, t13, t14, t15]⟩).toArray) w := by kernel_rfl
theorem list16 (l : List UInt8) (h : l.length = 16) : ∃ s0 s1 s2 s3 s4 s5 s6 s7 s8 s9 s10 s11 s12 s13 s14 s15, l = [s0, s1, s2, s3, s4, s5, s6, s7, s8, s9, s10, s11, s12, s13, s14, s15] := by
  match l, h with
  | [s0, s1, s2, s3, s4, s5, s6, s7, s8, s9, s10, s11, s12, s13, s14, s15], _ => exact ⟨s0, s1, s2, s3, s4, s5, s6, s7, s8, s9, s10, s11, s12, s13, s14, s15, rfl⟩
theorem run_build6f (a b c d e : Int) (s t : List UInt8) (hs : s.length = 16) (ht : t.length = 16) (w : World) :
    (Instr.build 44 #[(0, .int .u8 a), (1, .int .i64 b), (2, .int .i64 c), (3, .int .u8 d), (4, .int .u8 e), (5, .agg (bv s).toArray), (6, .agg (bv t).toArray)]).run Try.prog w = .ok (.agg (H6.cells ⟨a, b, c, d, e, s, t⟩).toArray) w := by
  obtain ⟨s0, s1, s2, s3, s4, s5, s6, s7, s8, s9, s10, s11, s12, s13, s14, s15, rfl⟩ := list16 s hs
  obtain ⟨t0, t1, t2, t3, t4, t5, t6, t7, t8, t9, t10, t11, t12, t13, t14, t15, rfl⟩ := list16 t ht
  exact run_build6x ..

set_option maxRecDepth 100000 in
theorem same6 (h : H6) (ho : h.ok) (w : World) : (Op.equalIn 10000 44 (.agg h.cells.toArray) (.agg h.cells.toArray)).run Try.prog w = .ok true w := by
  rw [run_equalIn_struct w 9999 44 _ _ Try.underlying44 (show Try.prog.stoodInHeld 44 = false by kernel_rfl)]
  have hd := h.drop_src ho
  have hd2 := h.drop_dst ho
  refine eqF_cons (by decide) (part_one (by kernel_rfl) rfl) (part_one (by kernel_rfl) rfl) (eq_int Try.underlying5 _ _) ?_
  refine eqF_cons (by decide) (part_one (by kernel_rfl) rfl) (part_one (by kernel_rfl) rfl) (eq_int Try.underlying3 _ _) ?_
  refine eqF_cons (by decide) (part_one (by kernel_rfl) rfl) (part_one (by kernel_rfl) rfl) (eq_int Try.underlying3 _ _) ?_
  refine eqF_cons (by decide) (part_one (by kernel_rfl) rfl) (part_one (by kernel_rfl) rfl) (eq_int Try.underlying5 _ _) ?_
  refine eqF_cons (by decide) (part_one (by kernel_rfl) rfl) (part_one (by kernel_rfl) rfl) (eq_int Try.underlying5 _ _) ?_
  refine eqF_cons (by decide) (part_arr (n := 16) (by kernel_rfl) (by kernel_rfl)) (part_arr (n := 16) (by kernel_rfl) (by kernel_rfl)) (by rw [hd]; exact eq_bytes Try.underlying33 Try.underlying5 (fun _ => by kernel_rfl) _ ho.src) ?_
  refine eqF_cons (by decide) (part_arr (n := 16) (by kernel_rfl) (by kernel_rfl)) (part_arr (n := 16) (by kernel_rfl) (by kernel_rfl)) (by rw [hd2]; exact eq_bytes Try.underlying33 Try.underlying5 (fun _ => by kernel_rfl) _ ho.dst) ?_
  exact eqF_nil
theorem run_eql6 (h : H6) (ho : h.ok) (w : World) : (binOp .eql 44 (.agg h.cells.toArray) (.agg h.cells.toArray)).run Try.prog w = .ok (.bool true) w := by
  rw [run_eql_struct, same6 h ho]
  rfl
theorem run_neq6 (h : H6) (ho : h.ok) (w : World) : (binOp .neq 44 (.agg h.cells.toArray) (.agg h.cells.toArray)).run Try.prog w = .ok (.bool false) w := by
  rw [run_neq_struct, same6 h ho]
  rfl
end Go.Proofs.Ytimkgkokidhhpaa

/- Headers of IPv6 as cells: made, compared, and the reference's and the program's reading of bytes as one. No condition. -/
import Derived.Test.YtaakcecjdmdhbaaBlk
import Derived.Test.YtaakcecjdmdhbaaOctet
import Derived.Stop.BytesEq
namespace Go.Proofs.Ytaakcecjdmdhbaa
open Go.RowKit
set_option linter.unusedVariables false

section
variable {P : Program} {w : World}
theorem eqF_cons {f : Field} {fs : List Field} {xs ys : Array Value} {d : Nat} {x y : Value} (hn : f.name ≠ "_") (hx : (part f.type xs f.offset).run P w = .ok x w) (hy : (part f.type ys f.offset).run P w = .ok y w)
    (he : (Op.equalIn d f.type x y).run P w = .ok true w) (h : (Op.eqFields d xs ys fs).run P w = .ok true w) : (Op.eqFields d xs ys (f :: fs)).run P w = .ok true w := by
  rw [Op.eqFields, if_pos hn]
  simp only [Sem.run_bind, hx, hy, he, Result.andThen_ok, Bool.not_true, Bool.false_eq_true, if_false, h]
theorem eqF_nil {xs ys : Array Value} {d : Nat} : (Op.eqFields d xs ys []).run P w = .ok true w := rfl
theorem part_one {t : TypeId} {cs : List Value} {off : Nat} {v : Value} (ha : (isAgg t).run P w = .ok false w) (h : cs[off]? = some v) : (part t cs.toArray off).run P w = .ok v w := by
  unfold part
  simp only [Sem.run_bind, ha, Result.andThen_ok, Bool.false_eq_true, if_false, List.getElem?_toArray, h, Sem.run_pure]
theorem part_arr {t : TypeId} {cs : List Value} {off n : Nat} (ha : (isAgg t).run P w = .ok true w) (hs : (sizeOf t).run P w = .ok n w) : (part t cs.toArray off).run P w = .ok (.agg ((cs.drop off).take n).toArray) w := by
  unfold part
  simp only [Sem.run_bind, ha, Result.andThen_ok, if_true, hs, Sem.run_pure]
  congr 2
  apply Array.ext'
  simp [List.extract_eq_take_drop]
theorem eq_int {t : TypeId} {k : IntKind} {d : Nat} (h : P.underlying t = some (.int k)) (q : IntKind) (a : Int) : (Op.equalIn (d + 1) t (.int q a) (.int q a)).run P w = .ok true w := by
  rw [run_equalIn_int w d t q k a a h]
  simp
theorem eq_bool {t : TypeId} {d : Nat} (h : P.underlying t = some .bool) (a : Bool) : (Op.equalIn (d + 1) t (.bool a) (.bool a)).run P w = .ok true w := by
  rw [run_equalIn_bool' w d t a a h]
  simp
theorem eq_str {t : TypeId} {d : Nat} (h : P.underlying t = some .string) (a : ByteArray) : (Op.equalIn (d + 1) t (.string a) (.string a)).run P w = .ok true w := by
  rw [run_equalIn_string w d t a a h]
  simp
theorem eq_bytes {t e : TypeId} {n d : Nat} (ht : P.underlying t = some (.array n e)) (he : P.underlying e = some (.int .u8)) (hsz : ∀ w, (sizeOf e).run P w = .ok 1 w) (l : List UInt8) (hl : l.length = n) :
    (Op.equalIn (d + 2) t (.agg (bv l).toArray) (.agg (bv l).toArray)).run P w = .ok true w := by
  have := run_equalIn_bytes w d t e n ht he hsz l l hl hl
  simp only [BEq.rfl] at this
  exact this
end

/-- a header -/
structure H6 where
  cls : Int
  flow : Int
  len : Int
  next : Int
  ttl : Int
  src : List UInt8
  dst : List UInt8
def H6.cells (h : H6) : List Value := .int .u8 h.cls :: .int .i64 h.flow :: .int .i64 h.len :: .int .u8 h.next :: .int .u8 h.ttl :: (bv h.src ++ bv h.dst)
def z16 : List UInt8 := [0, 0, 0, 0, 0, 0, 0, 0, 0, 0, 0, 0, 0, 0, 0, 0]
def H6.zero : H6 := ⟨0, 0, 0, 0, 0, z16, z16⟩
structure H6.ok (h : H6) : Prop where
  src : h.src.length = 16
  dst : h.dst.length = 16
theorem H6.zero_ok : H6.zero.ok := ⟨rfl, rfl⟩
theorem H6.cells_length (h : H6) (ho : h.ok) : h.cells.length = 37 := by simp [H6.cells, bv_length, ho.src, ho.dst]
theorem H6.cells_same (h k : H6) (ho : h.ok) (ko : k.ok) : h.cells.length = k.cells.length := by rw [h.cells_length ho, k.cells_length ko]
theorem H6.one (h : H6) : ∀ v ∈ h.cells, v.oneCell' = true := by
  intro v hv
  simp only [H6.cells, List.mem_cons, List.mem_append] at hv
  rcases hv with rfl | rfl | rfl | rfl | rfl | hv | hv
  · rfl
  · rfl
  · rfl
  · rfl
  · rfl
  · exact bv_one _ v hv
  · exact bv_one _ v hv
theorem H6.drop_src (h : H6) (ho : h.ok) : (h.cells.drop 5).take 16 = bv h.src := by
  simp only [H6.cells, List.drop_succ_cons, List.drop_zero]
  exact List.take_left' (by rw [bv_length, ho.src])
theorem H6.drop_dst (h : H6) (ho : h.ok) : (h.cells.drop 21).take 16 = bv h.dst := by
  simp only [H6.cells, List.drop_succ_cons]
  rw [List.drop_left' (by rw [bv_length, ho.src])]
  exact List.take_of_length_le (by rw [bv_length, ho.dst]; omega)
theorem H6.put_src (h : H6) (ho : h.ok) (l : List UInt8) (hl : l.length = 16) : h.cells.take 5 ++ bv l ++ h.cells.drop (5 + (bv l).length) = { h with src := l }.cells := by
  rw [bv_length, hl]
  simp only [H6.cells, List.take_succ_cons, List.take_zero, List.drop_succ_cons, List.cons_append, List.nil_append]
  rw [List.drop_left' (by rw [bv_length, ho.src])]
theorem H6.put_dst (h : H6) (ho : h.ok) (l : List UInt8) (hl : l.length = 16) : h.cells.take 21 ++ bv l ++ h.cells.drop (21 + (bv l).length) = { h with dst := l }.cells := by
  rw [List.drop_of_length_le (by rw [h.cells_length ho, bv_length, hl]; omega)]
  simp only [H6.cells, List.take_succ_cons, List.cons_append, List.append_nil]
  rw [List.take_left' (by rw [bv_length, ho.src])]

theorem zero6 (w : World) : (zeroValue 26).run Try.prog w = .ok (.agg H6.zero.cells.toArray) w := by kernel_rfl
theorem size6 (h : H6) (ho : h.ok) : (Try.prog.info? 26).map (·.size) = some h.cells.length := by rw [h.cells_length ho]; kernel_rfl
theorem size24 (l : List UInt8) (hl : l.length = 16) : (Try.prog.info? 24).map (·.size) = some (bv l).length := by rw [bv_length, hl]; kernel_rfl

theorem run_build6 (a b c d e : Int) (w : World) : (Instr.build 26 #[(0, .int .u8 a), (1, .int .i64 b), (2, .int .i64 c), (3, .int .u8 d), (4, .int .u8 e)]).run Try.prog w = .ok (.agg (H6.cells ⟨a, b, c, d, e, z16, z16⟩).toArray) w := by kernel_rfl
theorem run_build6z (w : World) : (Instr.build 26 #[]).run Try.prog w = .ok (.agg H6.zero.cells.toArray) w := by kernel_rfl
theorem run_build6x (a b c d e : Int) (s0 s1 s2 s3 s4 s5 s6 s7 s8 s9 s10 s11 s12 s13 s14 s15 : UInt8) (t0 t1 t2 t3 t4 t5 t6 t7 t8 t9 t10 t11 t12 t13 t14 t15 : UInt8) (w : World) :
    (Instr.build 26 #[(0, .int .u8 a), (1, .int .i64 b), (2, .int .i64 c), (3, .int .u8 d), (4, .int .u8 e), (5, .agg (bv [s0, s1, s2, s3, s4, s5, s6, s7, s8, s9, s10, s11, s12, s13, s14, s15]).toArray), (6, .agg (bv [t0, t1, t2, t3, t4, t5, t6, t7, t8, t9, t10, t11, t12, t13, t14, t15]).toArray)]).run Try.prog w = .ok (.agg (H6.cells ⟨a, b, c, d, e, [s0, s1, s2, s3, s4, s5, s6, s7, s8, s9, s10, s11, s12, s13, s14, s15], [t0, t1, t2, t3, t4, t5, t6, t7, t8, t9, t10, t11, t12, t13, t14, t15]⟩).toArray) w := by kernel_rfl
theorem list16 (l : List UInt8) (h : l.length = 16) : ∃ s0 s1 s2 s3 s4 s5 s6 s7 s8 s9 s10 s11 s12 s13 s14 s15, l = [s0, s1, s2, s3, s4, s5, s6, s7, s8, s9, s10, s11, s12, s13, s14, s15] := by
  match l, h with
  | [s0, s1, s2, s3, s4, s5, s6, s7, s8, s9, s10, s11, s12, s13, s14, s15], _ => exact ⟨s0, s1, s2, s3, s4, s5, s6, s7, s8, s9, s10, s11, s12, s13, s14, s15, rfl⟩
theorem run_build6f (a b c d e : Int) (s t : List UInt8) (hs : s.length = 16) (ht : t.length = 16) (w : World) :
    (Instr.build 26 #[(0, .int .u8 a), (1, .int .i64 b), (2, .int .i64 c), (3, .int .u8 d), (4, .int .u8 e), (5, .agg (bv s).toArray), (6, .agg (bv t).toArray)]).run Try.prog w = .ok (.agg (H6.cells ⟨a, b, c, d, e, s, t⟩).toArray) w := by
  obtain ⟨s0, s1, s2, s3, s4, s5, s6, s7, s8, s9, s10, s11, s12, s13, s14, s15, rfl⟩ := list16 s hs
  obtain ⟨t0, t1, t2, t3, t4, t5, t6, t7, t8, t9, t10, t11, t12, t13, t14, t15, rfl⟩ := list16 t ht
  exact run_build6x ..

theorem same6 (h : H6) (ho : h.ok) (w : World) : (Op.equalIn 10000 26 (.agg h.cells.toArray) (.agg h.cells.toArray)).run Try.prog w = .ok true w := by
  rw [run_equalIn_struct w 9999 26 _ _ Try.underlying26 (show Try.prog.stoodInHeld 26 = false by kernel_rfl)]
  have hd := h.drop_src ho
  have hd2 := h.drop_dst ho
  refine eqF_cons (by decide) (part_one (by kernel_rfl) rfl) (part_one (by kernel_rfl) rfl) (eq_int Try.underlying5 _ _) ?_
  refine eqF_cons (by decide) (part_one (by kernel_rfl) rfl) (part_one (by kernel_rfl) rfl) (eq_int Try.underlying3 _ _) ?_
  refine eqF_cons (by decide) (part_one (by kernel_rfl) rfl) (part_one (by kernel_rfl) rfl) (eq_int Try.underlying3 _ _) ?_
  refine eqF_cons (by decide) (part_one (by kernel_rfl) rfl) (part_one (by kernel_rfl) rfl) (eq_int Try.underlying5 _ _) ?_
  refine eqF_cons (by decide) (part_one (by kernel_rfl) rfl) (part_one (by kernel_rfl) rfl) (eq_int Try.underlying5 _ _) ?_
  refine eqF_cons (by decide) (part_arr (n := 16) (by kernel_rfl) (by kernel_rfl)) (part_arr (n := 16) (by kernel_rfl) (by kernel_rfl)) (by rw [hd]; exact eq_bytes Try.underlying24 Try.underlying5 (fun _ => by kernel_rfl) _ ho.src) ?_
  refine eqF_cons (by decide) (part_arr (n := 16) (by kernel_rfl) (by kernel_rfl)) (part_arr (n := 16) (by kernel_rfl) (by kernel_rfl)) (by rw [hd2]; exact eq_bytes Try.underlying24 Try.underlying5 (fun _ => by kernel_rfl) _ ho.dst) ?_
  exact eqF_nil
theorem run_eql6 (h : H6) (ho : h.ok) (w : World) : (binOp .eql 26 (.agg h.cells.toArray) (.agg h.cells.toArray)).run Try.prog w = .ok (.bool true) w := by
  rw [run_eql_struct, same6 h ho]
  rfl
theorem run_neq6 (h : H6) (ho : h.ok) (w : World) : (binOp .neq 26 (.agg h.cells.toArray) (.agg h.cells.toArray)).run Try.prog w = .ok (.bool false) w := by
  rw [run_neq_struct, same6 h ho]
  rfl
end Go.Proofs.Ytaakcecjdmdhbaa

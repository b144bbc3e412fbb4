/- Texts of this claim put together, in build order: each one's own remark stands ahead of it. -/
import Derived.Test.YtckbleiikldloaaDoorG03
import Derived.Test.YtckbleiikldloaaDoorG04
import Derived.Laws.BitsAllLaws
/- Headers of IPv4 as cells: made, compared. No condition. -/
namespace Go.Proofs.YtckbleiikldloaaDoor
open Go.RowKit
set_option linter.unusedVariables false
set_option maxRecDepth 20000
set_option linter.unusedSimpArgs false

/-- a header -/
structure H4 where
  tos : Int
  len : Int
  id : Int
  keep : Bool
  more : Bool
  off : Int
  ttl : Int
  pro : Int
  src : List UInt8
  dst : List UInt8
  opt : List UInt8
def H4.cells (h : H4) : List Value := .int .u8 h.tos :: .int .i64 h.len :: .int .u16 h.id :: .bool h.keep :: .bool h.more :: .int .i64 h.off :: .int .u8 h.ttl :: .int .u8 h.pro :: (bv h.src ++ (bv h.dst ++ [str h.opt]))
def z4 : List UInt8 := [0, 0, 0, 0]
def H4.zero : H4 := ⟨0, 0, 0, false, false, 0, 0, 0, z4, z4, []⟩
structure H4.ok (h : H4) : Prop where
  src : h.src.length = 4
  dst : h.dst.length = 4
theorem H4.zero_ok : H4.zero.ok := ⟨rfl, rfl⟩
theorem H4.cells_length (h : H4) (ho : h.ok) : h.cells.length = 17 := by simp [H4.cells, bv_length, ho.src, ho.dst]
theorem H4.cells_same (h k : H4) (ho : h.ok) (ko : k.ok) : h.cells.length = k.cells.length := by rw [h.cells_length ho, k.cells_length ko]
theorem H4.one (h : H4) : ∀ v ∈ h.cells, v.oneCell' = true := by
  intro v hv
  simp only [H4.cells, List.mem_cons, List.mem_append, List.not_mem_nil, or_false] at hv
  rcases hv with rfl | rfl | rfl | rfl | rfl | rfl | rfl | rfl | hv | hv | rfl
  · rfl
  · rfl
  · rfl
  · rfl
  · rfl
  · rfl
  · rfl
  · rfl
  · exact bv_one _ v hv
  · exact bv_one _ v hv
  · rfl
theorem H4.drop_src (h : H4) (ho : h.ok) : (h.cells.drop 8).take 4 = bv h.src := by
  simp only [H4.cells, List.drop_succ_cons, List.drop_zero]
  exact List.take_left' (by rw [bv_length, ho.src])
theorem H4.drop_dst (h : H4) (ho : h.ok) : (h.cells.drop 12).take 4 = bv h.dst := by
  simp only [H4.cells, List.drop_succ_cons]
  rw [List.drop_left' (by rw [bv_length, ho.src])]
  exact List.take_left' (by rw [bv_length, ho.dst])
theorem H4.get_opt (h : H4) (ho : h.ok) : h.cells[16]? = some (str h.opt) := by
  simp only [H4.cells, List.getElem?_cons_succ]
  rw [List.getElem?_append_right (by rw [bv_length, ho.src]; omega), List.getElem?_append_right (by rw [bv_length, bv_length, ho.src, ho.dst]; omega)]
  simp [bv_length, ho.src, ho.dst]
theorem H4.put_src (h : H4) (ho : h.ok) (l : List UInt8) (hl : l.length = 4) : h.cells.take 8 ++ bv l ++ h.cells.drop (8 + (bv l).length) = { h with src := l }.cells := by
  rw [bv_length, hl]
  simp only [H4.cells, List.take_succ_cons, List.take_zero, List.drop_succ_cons, List.cons_append, List.nil_append]
  rw [List.drop_left' (by rw [bv_length, ho.src])]
theorem H4.put_dst (h : H4) (ho : h.ok) (l : List UInt8) (hl : l.length = 4) : h.cells.take 12 ++ bv l ++ h.cells.drop (12 + (bv l).length) = { h with dst := l }.cells := by
  rw [bv_length, hl]
  simp only [H4.cells, List.take_succ_cons, List.drop_succ_cons, List.cons_append, List.append_assoc]
  rw [List.take_left' (by rw [bv_length, ho.src]), show (8 : Nat) = 4 + 4 from rfl, ← List.drop_drop, List.drop_left' (by rw [bv_length, ho.src]), List.drop_left' (by rw [bv_length, ho.dst])]

theorem zero4 (w : World) : (zeroValue 56).run Tryd.prog w = .ok (.agg H4.zero.cells.toArray) w := by kernel_rfl
theorem size4 (h : H4) (ho : h.ok) : (Tryd.prog.info? 56).map (·.size) = some h.cells.length := by rw [h.cells_length ho]; kernel_rfl
theorem sizeA4 (l : List UInt8) (hl : l.length = 4) : (Tryd.prog.info? 26).map (·.size) = some (bv l).length := by rw [bv_length, hl]; kernel_rfl
theorem list4 (l : List UInt8) (h : l.length = 4) : ∃ s0 s1 s2 s3, l = [s0, s1, s2, s3] := by
  match l, h with
  | [s0, s1, s2, s3], _ => exact ⟨s0, s1, s2, s3, rfl⟩

set_option maxRecDepth 100000 in
theorem same4 (h : H4) (ho : h.ok) (w : World) : (Op.equalIn 10000 56 (.agg h.cells.toArray) (.agg h.cells.toArray)).run Tryd.prog w = .ok true w := by
  rw [run_equalIn_struct w 9999 56 _ _ Tryd.underlying56 (show Tryd.prog.stoodInHeld 56 = false by kernel_rfl)]
  have hd := h.drop_src ho
  have hd2 := h.drop_dst ho
  have ho3 := h.get_opt ho
  refine eqF_cons (by decide) (part_one (by kernel_rfl) rfl) (part_one (by kernel_rfl) rfl) (eq_int Tryd.underlying5 _ _) ?_
  refine eqF_cons (by decide) (part_one (by kernel_rfl) rfl) (part_one (by kernel_rfl) rfl) (eq_int Tryd.underlying3 _ _) ?_
  refine eqF_cons (by decide) (part_one (by kernel_rfl) rfl) (part_one (by kernel_rfl) rfl) (eq_int Tryd.underlying45 _ _) ?_
  refine eqF_cons (by decide) (part_one (by kernel_rfl) rfl) (part_one (by kernel_rfl) rfl) (eq_bool Tryd.underlying4 _) ?_
  refine eqF_cons (by decide) (part_one (by kernel_rfl) rfl) (part_one (by kernel_rfl) rfl) (eq_bool Tryd.underlying4 _) ?_
  refine eqF_cons (by decide) (part_one (by kernel_rfl) rfl) (part_one (by kernel_rfl) rfl) (eq_int Tryd.underlying3 _ _) ?_
  refine eqF_cons (by decide) (part_one (by kernel_rfl) rfl) (part_one (by kernel_rfl) rfl) (eq_int Tryd.underlying5 _ _) ?_
  refine eqF_cons (by decide) (part_one (by kernel_rfl) rfl) (part_one (by kernel_rfl) rfl) (eq_int Tryd.underlying5 _ _) ?_
  refine eqF_cons (by decide) (part_arr (n := 4) (by kernel_rfl) (by kernel_rfl)) (part_arr (n := 4) (by kernel_rfl) (by kernel_rfl)) (by rw [hd]; exact eq_bytes Tryd.underlying26 Tryd.underlying5 (fun _ => by kernel_rfl) _ ho.src) ?_
  refine eqF_cons (by decide) (part_arr (n := 4) (by kernel_rfl) (by kernel_rfl)) (part_arr (n := 4) (by kernel_rfl) (by kernel_rfl)) (by rw [hd2]; exact eq_bytes Tryd.underlying26 Tryd.underlying5 (fun _ => by kernel_rfl) _ ho.dst) ?_
  refine eqF_cons (by decide) (part_one (by kernel_rfl) ho3) (part_one (by kernel_rfl) ho3) (eq_str Tryd.underlying9 _) ?_
  exact eqF_nil
theorem run_eql4 (h : H4) (ho : h.ok) (w : World) : (binOp .eql 56 (.agg h.cells.toArray) (.agg h.cells.toArray)).run Tryd.prog w = .ok (.bool true) w := by
  rw [run_eql_struct, same4 h ho]
  rfl
theorem run_neq4 (h : H4) (ho : h.ok) (w : World) : (binOp .neq 56 (.agg h.cells.toArray) (.agg h.cells.toArray)).run Tryd.prog w = .ok (.bool false) w := by
  rw [run_neq_struct, same4 h ho]
  rfl
theorem exec_eq4 {w : World} {o : Oper} {a : Act} (x y : Operand) (ty : TypeId) (ho : o.op = .binOp .eql 56 x y ty) (h : H4) (hk : h.ok) (hx : a.eval x = .agg h.cells.toArray) (hy : a.eval y = .agg h.cells.toArray) : (execOp a.eval o).run Tryd.prog w = .ok (.value (.bool true)) w := by
  unfold execOp
  simp only [ho, hx, hy, Sem.run_bind, run_eqGuard_agg w .eql 56 x y _ _ (show Tryd.prog.eqGuardType Tryd.prog.depth 56 = false by kernel_rfl), run_eql4 h hk, Result.andThen_ok]
  rfl
theorem exec_neq4 {w : World} {o : Oper} {a : Act} (x y : Operand) (ty : TypeId) (ho : o.op = .binOp .neq 56 x y ty) (h : H4) (hk : h.ok) (hx : a.eval x = .agg h.cells.toArray) (hy : a.eval y = .agg h.cells.toArray) : (execOp a.eval o).run Tryd.prog w = .ok (.value (.bool false)) w := by
  unfold execOp
  simp only [ho, hx, hy, Sem.run_bind, run_eqGuard_agg w .neq 56 x y _ _ (show Tryd.prog.eqGuardType Tryd.prog.depth 56 = false by kernel_rfl), run_neq4 h hk, Result.andThen_ok]
  rfl
end Go.Proofs.YtckbleiikldloaaDoor

/- What the small functions of the program's and the reference's IPv4 compute, and what reading bytes as a header comes to. No condition but sizes. -/
namespace Go.Proofs.YtckbleiikldloaaDoor
open Go.RowKit
set_option linter.unusedVariables false
set_option maxRecDepth 20000
set_option linter.unusedSimpArgs false

set_option maxHeartbeats 1000000 in
theorem num4_any (i : Nat) (A : Option Addr) (n c : Nat) (l : List UInt8) (w : World) (h : Row w w.heap.size 1 A n (bv l)) (hc : n ≤ c) (hcm : c ≤ maxLen) (hn : n ≤ 1099511627776) (hle : i + 2 ≤ n) :
    Calls Tryd.prog 64 #[.slice A n c, .int .i64 i] w fun e w' => e = .returned (.int .i64 (numF l i 2 : Nat)) ∧ Below w.heap.size w w' := by
  have hbd : numF l i 2 < 256 ^ 2 := numF_bd l i 2
  have G := get_yes A n c l i 2 w h hc hcm hn (by omega) (by omega) (by omega) (by omega)
  simp only [Int.toNat_natCast] at G
  change Calls _ _ _ _ (fun e w' => e = .returned (.tuple #[.int .u64 (numF l i 2 : Nat), .bool true]) ∧ _) at G
  generalize numF l i 2 = m at G hbd ⊢
  have HG := Lib.hid G
  clear G h
  go_enter Tryd.func64, Tryd.ntmps64
  go_wp2_with fail
  refine HG.out.mono ?_
  rintro e w1 ⟨rfl, hb1⟩
  go_wp2_with fail
  go_ret
  exact ⟨rfl, hb1⟩

theorem rnum4_any (i s : Nat) (l : List UInt8) (w : World) (hn : l.length ≤ 1099511627776) (h1 : 1 ≤ s) (h4 : s ≤ 4) (hle : i + s ≤ l.length) :
    Calls Tryd.prog 58 #[str l, .int .i64 i, .int .i64 s] w fun e w' => e = .returned (.int .i64 (numF l i s : Nat)) ∧ w = w' := by
  have hbd : numF l i s < 256 ^ 4 := Nat.lt_of_lt_of_le (numF_bd l i s) (Nat.pow_le_pow_right (by omega) h4)
  have G := rget_yes l i s w hn (by omega) (by omega) (by omega) (by omega)
  simp only [Int.toNat_natCast] at G
  change Calls _ _ _ _ (fun e w' => e = .returned (.tuple #[.int .u64 (numF l i s : Nat), .bool true]) ∧ _) at G
  generalize numF l i s = m at G hbd ⊢
  have HG := Lib.hid G
  clear G
  go_enter Tryd.func58, Tryd.ntmps58
  go_wp2_with fail
  refine HG.out.mono ?_
  rintro e w1 ⟨rfl, rfl⟩
  go_wp2_with fail
  go_ret
  exact ⟨rfl, rfl⟩

set_option maxHeartbeats 1000000 in
theorem size4_any (h : H4) (hk : h.ok) (w : World) (hm : h.opt.length ≤ 1099511627776) :
    Calls Tryd.prog 42 #[.agg h.cells.toArray] w fun e w' => e = .returned (.int .i64 (20 + h.opt.length)) ∧ Below w.heap.size w w' := by
  have HO := Lib.hid (h.get_opt hk)
  go_enter Tryd.func42, Tryd.ntmps42
  go_wp2_with (refine wpList_box_blk rfl 56 _ rfl h.cells rfl ?_; intro w1 hb1 hB1 hs1; have c16 : w1.cell? ⟨w.heap.size, 16, none⟩ = some (str h.opt) := (hb1.cell 16).trans HO.out)
  go_ret
  exact ⟨rfl, hB1⟩

set_option maxHeartbeats 1000000 in
theorem size4_wrap (h : H4) (hk : h.ok) (w : World) :
    Calls Tryd.prog 42 #[.agg h.cells.toArray] w fun e w' => e = .returned (.int .i64 (wrap64 (20 + h.opt.length))) ∧ Below w.heap.size w w' := by
  have HO := Lib.hid (h.get_opt hk)
  go_enter Tryd.func42, Tryd.ntmps42
  go_wp2_with (refine wpList_box_blk rfl 56 _ rfl h.cells rfl ?_; intro w1 hb1 hB1 hs1; have c16 : w1.cell? ⟨w.heap.size, 16, none⟩ = some (str h.opt) := (hb1.cell 16).trans HO.out)
  go_ret
  exact ⟨rfl, hB1⟩

set_option maxHeartbeats 1000000 in
theorem rsize4_any (h : H4) (hk : h.ok) (w : World) (hm : h.opt.length ≤ 1099511627776) :
    Calls Tryd.prog 49 #[.agg h.cells.toArray] w fun e w' => e = .returned (.int .i64 (20 + h.opt.length)) ∧ Below w.heap.size w w' := by
  have HO := Lib.hid (h.get_opt hk)
  go_enter Tryd.func49, Tryd.ntmps49
  go_wp2_with (refine wpList_box_blk rfl 56 _ rfl h.cells rfl ?_; intro w1 hb1 hB1 hs1; have c16 : w1.cell? ⟨w.heap.size, 16, none⟩ = some (str h.opt) := (hb1.cell 16).trans HO.out)
  go_ret
  exact ⟨rfl, hB1⟩

set_option maxHeartbeats 1000000 in
theorem text4_any (l : List UInt8) (w : World) (hl : l.length = 4) :
    Calls Tryd.prog 50 #[.agg (bv l).toArray] w fun e w' => e = .returned (str l) ∧ Below w.heap.size w w' := by
  obtain ⟨a, b, c, d, rfl⟩ := list4 l hl
  clear hl
  go_enter Tryd.func50, Tryd.ntmps50
  go_wp2_with (first
    | (refine wpList_box_blk rfl 26 _ rfl (bv [a, b, c, d]) rfl ?_; intro w1 hb1 hB1 hs1; have c0 : w1.cell? ⟨w.heap.size, 0, none⟩ = some (.int .u8 (a.toNat : Int)) := hb1.cell 0; have c1 : w1.cell? ⟨w.heap.size, 1, none⟩ = some (.int .u8 (b.toNat : Int)) := hb1.cell 1; have c2 : w1.cell? ⟨w.heap.size, 2, none⟩ = some (.int .u8 (c.toNat : Int)) := hb1.cell 2; have c3 : w1.cell? ⟨w.heap.size, 3, none⟩ = some (.int .u8 (d.toNat : Int)) := hb1.cell 3)
    | (refine wpList_str rfl _ 22 9 5 rfl Tryd.underlying22 Tryd.underlying5 Tryd.underlying9 _ _ _ _ [a, b, c, d] rfl (row_litN w1 _ [a, b, c, d] 4 _ (by simp [bv]) rfl hs1) ?_))
  go_ret
  exact ⟨rfl, hB1.alloc hB1.size _⟩

/-- numbers of two bytes, one behind the other -/
def twos (xs : List Int) : List UInt8 := xs.flatMap fun x => toBe 2 x.toNat
theorem twos_snoc (xs : List Int) (x : Int) : twos (xs ++ [x]) = twos xs ++ toBe 2 x.toNat := by simp [twos]
theorem twos_length (xs : List Int) : (twos xs).length = 2 * xs.length := by
  induction xs with
  | nil => rfl
  | cons x xs ih =>
    have h1 : twos (x :: xs) = toBe 2 x.toNat ++ twos xs := rfl
    rw [h1, List.length_append, ih, toBe_length, List.length_cons]
    omega
theorem toBe2 (x : Nat) (h : x ≤ 65535) : toBe 2 x = [UInt8.ofNat (x / 256), UInt8.ofNat (x % 256)] := by
  have e : x / 256 % 256 = x / 256 := Nat.mod_eq_of_lt (by omega)
  simp [toBe, e]
theorem two_bytes (x : Int) (h0 : 0 ≤ x) (h1 : x ≤ 65535) : [Value.int .u8 (x / 256), .int .u8 (x % 256)] = bv (toBe 2 x.toNat) := by
  obtain ⟨m, rfl⟩ := Int.eq_ofNat_of_zero_le h0
  rw [Int.toNat_natCast, toBe2 m (by omega)]
  simp only [bv, List.map_cons, List.map_nil]
  have e1 : ((UInt8.ofNat (m / 256)).toNat : Int) = (m : Int) / 256 := by rw [UInt8.toNat_ofNat', Nat.mod_eq_of_lt (by omega)]; omega
  have e2 : ((UInt8.ofNat (m % 256)).toNat : Int) = (m : Int) % 256 := by rw [UInt8.toNat_ofNat', Nat.mod_eq_of_lt (by omega)]; omega
  rw [e1, e2]

set_option maxHeartbeats 1000000 in
theorem puts4_any (R : Option Addr) (k c : Nat) (xs : List Int) (w : World) (h : Row w w.heap.size 1 R k (xs.map (Value.int .i64))) (hx : ∀ x ∈ xs, 0 ≤ x ∧ x ≤ 65535) (hk : k ≤ 1000) :
    Calls Tryd.prog 43 #[.slice R k c] w fun e w' => ∃ A' n' c', e = .returned (.slice A' n' c') ∧ n' = 2 * k ∧ Own w' w.heap.size 5 1 A' n' c' (bv (twos xs)) ∧ Below w.heap.size w w' := by
  have hkl : xs.length = k := by have := h.1; simpa using this
  go_enter Tryd.func43, Tryd.ntmps43
  go_wp2_with fail
  go_loopw [3, 8] (fun o j wr => ∃ i : Nat, i ≤ k ∧ j = .int .i64 i ∧ ∃ A' c', o = .slice A' (2 * i) c' ∧ Own wr w.heap.size 5 1 A' (2 * i) c' (bv (twos (xs.take i))) ∧ Below w.heap.size w wr) (fun _ j _ => k - (intOf j).toNat)
  case atStart => exact ⟨0, Nat.zero_le _, rfl, none, 0, rfl, Own.nil _ _ _ _ _, Below.refl _ _⟩
  case round =>
    obtain ⟨i, hi, rfl, A', c', rfl, hown, hb⟩ := hrel
    by_cases hlt : i < k
    · obtain ⟨x, hxi⟩ := get_ex xs (k := i) (by omega)
      obtain ⟨x0, x1⟩ := hx x (List.mem_of_getElem? hxi)
      obtain ⟨b, o, rfl, hbB, hcell⟩ := h.2 (by omega)
      have hcx := (hb.cell (p := ⟨b, o + i, none⟩) hbB).trans (hcell i (.int .i64 x) (by simp [hxi]))
      have HS := Lib.hid (take_snoc xs i x hxi)
      have HT := Lib.hid (two_bytes x x0 x1)
      have HO := Lib.hid hown
      have HW := Lib.hid (show IntKind.u8.wrap (x / 256) = x / 256 by rw [IntKind.wrap_u8]; omega)
      have HW2 := Lib.hid (show IntKind.u8.wrap x = x % 256 by rw [IntKind.wrap_u8])
      clear hcell hxi hown hkl hx
      go_wp2_with (at_builtin; refine wpList_append_Own _ rfl _ _ 22 rfl w.heap.size 5 _ 1 1 Tryd.underlying22 infoByte rfl (by decide) A' (2 * i) c' _ rfl (HO.out.alloc _) (wr.heap.size + 1) (some ⟨wr.heap.size, 0, none⟩) 2 2 (bv (toBe 2 x.toNat)) rfl (row_lit wr _ (toBe 2 x.toNat) 2 (by rw [← HT.out, ← HW.out, ← HW2.out]) (toBe_length _ _)) (bv_one _) (by simp only [maxLen]; omega) (by omega) (by have := hb.size; simp; omega) ?_; intro A2 c2 w2 hown2 hg2 _)
      have hown3 : Own w2 w.heap.size 5 1 A2 (2 * (i + 1)) c2 (bv (twos (xs.take (i + 1)))) := by
        rw [HS.out, twos_snoc, bv_append]
        exact hown2
      have hb2 : Below w.heap.size w w2 := (hb.alloc hb.size _).grown hg2 (by have := hb.size; simp; omega) (fun g hgg => (HO.out.lt g hgg).1)
      clear hown2 hg2
      go_roundw
      case rel => exact ⟨i + 1, by omega, by go_num, A2, c2, rfl, hown3, hb2⟩
      case measure => simp [intOf]; omega
    · have : i = k := by omega
      subst this
      rw [List.take_of_length_le (by omega)] at hown
      have HO := Lib.hid hown
      clear hown h hx
      go_wp2
      go_ret
      exact ⟨A', _, c', rfl, rfl, HO.out, hb⟩

theorem i64_and_nat (a b : Nat) (ha : a < 9223372036854775808) (hb : b < 9223372036854775808) : bits .and .i64 (a : Int) (b : Int) = ((a &&& b : Nat) : Int) := by
  have h1 : (BitVec.ofInt 64 (a : Int)).toNat = a := by rw [BitVec.toNat_ofInt]; omega
  have h2 : (BitVec.ofInt 64 (b : Int)).toNat = b := by rw [BitVec.toNat_ofInt]; omega
  have h3 : a &&& b ≤ a := Nat.and_le_left
  show IntKind.i64.wrap ((BitVec.ofInt 64 (a : Int) &&& BitVec.ofInt 64 (b : Int)).toNat : Nat) = _
  rw [BitVec.toNat_and, h1, h2, IntKind.wrap_i64]
  omega
theorem i64_or_nat (a b : Nat) (ha : a < 4294967296) (hb : b < 4294967296) : bits .or .i64 (a : Int) (b : Int) = ((a ||| b : Nat) : Int) := by
  have h1 : (BitVec.ofInt 64 (a : Int)).toNat = a := by rw [BitVec.toNat_ofInt]; omega
  have h2 : (BitVec.ofInt 64 (b : Int)).toNat = b := by rw [BitVec.toNat_ofInt]; omega
  have h3 : a ||| b < 2 ^ 32 := Nat.or_lt_two_pow (by omega) (by omega)
  show IntKind.i64.wrap ((BitVec.ofInt 64 (a : Int) ||| BitVec.ofInt 64 (b : Int)).toNat : Nat) = _
  rw [BitVec.toNat_or, h1, h2, IntKind.wrap_i64]
  omega
theorem i64_bit (F i : Nat) (hF : F < 65536) (hi : i < 16) : bits .and .i64 (F : Int) ((2 ^ i : Nat) : Int) = ((F / 2 ^ i % 2 * 2 ^ i : Nat) : Int) := by
  have h2 : 2 ^ i < 2 ^ 16 := Nat.pow_lt_pow_right (by omega) hi
  rw [i64_and_nat F (2 ^ i) (by omega) (by omega)]
  congr 1
  apply Nat.eq_of_testBit_eq
  intro j
  rw [Nat.testBit_and, Nat.testBit_two_pow]
  by_cases hj : i = j
  · subst hj
    rw [Nat.testBit_eq_decide_div_mod_eq]
    rcases Nat.mod_two_eq_zero_or_one (F / 2 ^ i) with h | h <;> simp [h]
  · rcases Nat.mod_two_eq_zero_or_one (F / 2 ^ i) with h | h
    · simp [h, hj]
    · simp [h, hj, Nat.testBit_two_pow]
theorem keep4 (F : Nat) (hF : F < 65536) : (bits .and .i64 (F : Int) 16384 != 0) = decide (F / 16384 % 2 = 1) := by
  have h := i64_bit F 14 hF (by omega)
  have h' : bits .and .i64 (F : Int) 16384 = ((F / 16384 % 2 * 16384 : Nat) : Int) := h
  rw [h']
  rcases Nat.mod_two_eq_zero_or_one (F / 16384) with h | h <;> simp [h]
theorem more4 (F : Nat) (hF : F < 65536) : (bits .and .i64 (F : Int) 8192 != 0) = decide (F / 8192 % 2 = 1) := by
  have h := i64_bit F 13 hF (by omega)
  have h' : bits .and .i64 (F : Int) 8192 = ((F / 8192 % 2 * 8192 : Nat) : Int) := h
  rw [h']
  rcases Nat.mod_two_eq_zero_or_one (F / 8192) with h | h <;> simp [h]
theorem off4 (F : Nat) (hF : F < 65536) : bits .and .i64 (F : Int) 8191 = ((F % 8192 : Nat) : Int) := by
  have h := i64_and_nat F 8191 (by omega) (by omega)
  rw [show (8191 : Nat) = 2 ^ 13 - 1 from rfl, Nat.and_two_pow_sub_one_eq_mod] at h
  exact h
theorem low4 (u : Nat) (h : u < 256) : bits .and .u8 (u : Int) 15 = ((u % 16 : Nat) : Int) := by
  have := u8_and_nat u 15 h (by omega)
  rw [nat_mask4] at this
  exact this

/-- how long the header is, by its first byte -/
def size4n (l : List UInt8) : Nat := (l.getD 0 0).toNat % 16 * 4
/-- the header that bytes begin with, and its error -/
def par4 (l : List UInt8) : H4 × Int :=
  if l.length < 20 then (H4.zero, 10) else
  if (l.getD 0 0).toNat / 16 ≠ 4 then (H4.zero, 12) else
  if size4n l < 20 ∨ numF l 2 2 < size4n l ∨ l.length < numF l 2 2 then (H4.zero, 13) else
  if rawN (l.take (size4n l)) ≠ 65535 then (H4.zero, 14) else
  (⟨((l.getD 1 0).toNat : Nat), (numF l 2 2 : Nat), (numF l 4 2 : Nat), decide (numF l 6 2 / 16384 % 2 = 1), decide (numF l 6 2 / 8192 % 2 = 1), (numF l 6 2 % 8192 : Nat), ((l.getD 8 0).toNat : Nat), ((l.getD 9 0).toNat : Nat), (l.drop 12).take 4, (l.drop 16).take 4, (l.take (size4n l)).drop 20⟩, 0)
theorem par4_ok (l : List UInt8) : (par4 l).1.ok := by
  unfold par4
  repeat' split
  · exact H4.zero_ok
  · exact H4.zero_ok
  · exact H4.zero_ok
  · exact H4.zero_ok
  · rename_i h1 h2 h3 h4
    exact ⟨by simp; omega, by simp; omega⟩
end Go.Proofs.YtckbleiikldloaaDoor

/- Plain laws of the checksum's sum: a byte that is set, what is behind, what is right. No condition. -/
namespace Go.Proofs.YtckbleiikldloaaDoor
set_option linter.unusedVariables false
set_option maxRecDepth 20000

theorem bv_set (l : List UInt8) (j : Nat) (u : UInt8) : bv (l.set j u) = (bv l).set j (.int .u8 (u.toNat : Int)) := by simp [bv, List.map_set]
theorem sumB_set (b : Bool) (l : List UInt8) (j : Nat) (u v : UInt8) (h : l[j]? = some v) :
    sumB b (l.set j u) + (if (b ^^ decide (j % 2 = 1)) then v.toNat else v.toNat * 256) = sumB b l + (if (b ^^ decide (j % 2 = 1)) then u.toNat else u.toNat * 256) := by
  induction l generalizing b j with
  | nil => simp at h
  | cons x l ih =>
    cases j with
    | zero =>
      simp at h
      subst h
      cases b <;> simp [sumB] <;> omega
    | succ j =>
      simp at h
      have := ih (!b) j h
      have e : (b ^^ decide ((j + 1) % 2 = 1)) = (!b ^^ decide (j % 2 = 1)) := by
        rcases Nat.mod_two_eq_zero_or_one j with h0 | h0
        · have h1 : (j + 1) % 2 = 1 := by omega
          simp [h0, h1]
        · have h1 : (j + 1) % 2 = 0 := by omega
          simp [h0, h1]
      rw [e]
      cases b
      · simp only [List.set_cons_succ, sumB]
        simp only [Bool.not_false] at this ⊢
        omega
      · simp only [List.set_cons_succ, sumB]
        simp only [Bool.not_true] at this ⊢
        omega
/-- two bytes of one word set -/
theorem sumB_word (l : List UInt8) (k : Nat) (a b x y : UInt8) (ha : l[2 * k]? = some a) (hb : l[2 * k + 1]? = some b) :
    sumB false ((l.set (2 * k) x).set (2 * k + 1) y) + (256 * a.toNat + b.toNat) = sumB false l + (256 * x.toNat + y.toNat) := by
  have h1 := sumB_set false l (2 * k) x a ha
  have h2 := sumB_set false (l.set (2 * k) x) (2 * k + 1) y b (by rw [List.getElem?_set_ne (by omega)]; exact hb)
  have e1 : (2 * k) % 2 = 0 := by omega
  have e2 : (2 * k + 1) % 2 = 1 := by omega
  simp [e1] at h1
  simp [e2] at h2
  omega
theorem fold_right (s : Nat) : foldN (s + (65535 - foldN s)) = 65535 := by
  have := foldN_le s
  unfold foldN at *
  by_cases h : s = 0
  · subst h; rfl
  · rw [if_neg h] at *
    rw [if_neg (by omega)]
    omega
theorem sum_right (l : List UInt8) (k : Nat) (hk : 2 * k + 1 < l.length) (c : Nat) (hc : c = 65535 - rawN ((l.set (2 * k) 0).set (2 * k + 1) 0)) :
    rawN ((((l.set (2 * k) 0).set (2 * k + 1) 0).set (2 * k) (UInt8.ofNat (c / 256))).set (2 * k + 1) (UInt8.ofNat (c % 256))) = 65535 := by
  generalize hl : (l.set (2 * k) 0).set (2 * k + 1) 0 = l' at hc ⊢
  have h0 : l'[2 * k]? = some 0 := by rw [← hl, List.getElem?_set_ne (by omega), List.getElem?_set_self (by omega)]
  have h1 : l'[2 * k + 1]? = some 0 := by rw [← hl, List.getElem?_set_self (by simpa using hk)]
  have hw := sumB_word l' k 0 0 (UInt8.ofNat (c / 256)) (UInt8.ofNat (c % 256)) h0 h1
  have hr := foldN_le (sumB false l')
  have hf := fold_right (sumB false l')
  unfold rawN at hc ⊢
  rw [UInt8.toNat_ofNat', UInt8.toNat_ofNat', Nat.mod_eq_of_lt (show c / 256 < 2 ^ 8 by omega), Nat.mod_eq_of_lt (show c % 256 < 2 ^ 8 by omega)] at hw
  simp at hw
  rw [show sumB false ((l'.set (2 * k) (UInt8.ofNat (c / 256))).set (2 * k + 1) (UInt8.ofNat (c % 256))) = sumB false l' + (65535 - foldN (sumB false l')) by omega]
  exact hf
theorem foldN_add (a b : Nat) : foldN (foldN a + b) = foldN (a + b) := by
  unfold foldN
  by_cases h : a = 0
  · subst h; simp
  · rw [if_neg h, if_neg (by omega), if_neg (by omega)]
    omega
/-- a word becomes another one: the turned checksum is that anew, if not all is nought -/
theorem sum_anew (s s' a b : Nat) (ha : a ≤ 65535) (hb : b ≤ 65535) (hs : s' + a = s + b) (h0 : 0 < s') (hp : a ≤ s) :
    65535 - foldN (65535 - (65535 - foldN s) + (65535 - a) + b) = 65535 - foldN s' := by
  have := foldN_le s
  congr 1
  unfold foldN at *
  by_cases h : s = 0
  · subst h
    have : a = 0 := by omega
    subst this
    rw [if_pos rfl] at *
    rw [if_neg (by omega), if_neg (by omega)]
    omega
  · rw [if_neg h] at *
    rw [if_neg (by omega), if_neg (by omega)]
    omega
theorem sumB_pos (b : Bool) (l : List UInt8) (h : (l.any fun u => u != 0) = true) : 0 < sumB b l := by
  induction l generalizing b with
  | nil => simp at h
  | cons x l ih =>
    rw [List.any_cons, Bool.or_eq_true] at h
    rcases h with h | h
    · have hx : x ≠ 0 := by simpa using h
      have h0 : 0 < x.toNat := by
        rcases Nat.eq_zero_or_pos x.toNat with h | h
        · exact absurd (UInt8.toNat_inj.1 (by simpa using h)) hx
        · exact h
      cases b <;> simp only [sumB] <;> omega
    · cases b
      · have := ih true h; simp only [sumB]; omega
      · have := ih false h; simp only [sumB]; omega
theorem u8_ne (u : UInt8) : (u != 0) = ((u.toNat : Int) != 0) := by
  rw [Bool.eq_iff_iff, bne_iff_ne, bne_iff_ne]
  constructor
  · intro h h2; exact h (UInt8.toNat_inj.1 (by simpa using h2))
  · rintro h rfl; exact h rfl
theorem any_snoc (l : List UInt8) (u : UInt8) : ((l ++ [u]).any fun u => u != 0) = ((l.any fun u => u != 0) || u != 0) := by simp
theorem or16 (a b : Int) (h0 : 0 ≤ a) (h1 : a ≤ 255) (h2 : 0 ≤ b) (h3 : b ≤ 255) : bits .or .u16 (a * 256) b = a * 256 + b := by
  obtain ⟨a, rfl⟩ := Int.eq_ofNat_of_zero_le h0
  obtain ⟨b, rfl⟩ := Int.eq_ofNat_of_zero_le h2
  have he : ((a : Int) * 256) = ((a * 256 : Nat) : Int) := by omega
  rw [he, u16_or_nat _ _ (by omega) (by omega), nat_join 8 _ _ (by omega) (by omega)]
  omega
theorem anew_all (l : List UInt8) (k : Nat) (u0 u1 : UInt8) (y : Nat) (hy : y ≤ 65535) (h0 : l[2 * k]? = some u0) (h1 : l[2 * k + 1]? = some u1) (l' : List UInt8) (hl : l' = (l.set (2 * k) (UInt8.ofNat (y / 256))).set (2 * k + 1) (UInt8.ofNat (y % 256)))
    (hs : (l'.any fun u => u != 0) = true) : 65535 - foldN (65535 - (65535 - rawN l) + (65535 - (u0.toNat * 256 + u1.toNat)) + y) = 65535 - rawN l' := by
  have hw := sumB_word l k u0 u1 (UInt8.ofNat (y / 256)) (UInt8.ofNat (y % 256)) h0 h1
  have hz := sumB_word l k u0 u1 0 0 h0 h1
  have hp := sumB_pos false l' hs
  have b0 := u0.toNat_lt
  have b1 := u1.toNat_lt
  rw [← hl, UInt8.toNat_ofNat', UInt8.toNat_ofNat', Nat.mod_eq_of_lt (show y / 256 < 2 ^ 8 by omega), Nat.mod_eq_of_lt (show y % 256 < 2 ^ 8 by omega)] at hw
  simp at hz
  exact sum_anew (sumB false l) (sumB false l') (u0.toNat * 256 + u1.toNat) y (by omega) hy (by omega) hp (by omega)
theorem raw_swap (a c : List UInt8) (ha : a.length % 2 = 0) (hc : c.length % 2 = 0) : rawN (a ++ c) = rawN (c ++ a) := by
  unfold rawN
  rw [sumB_append, sumB_append]
  unfold oddB
  rw [if_pos ha, if_pos hc, Nat.add_comm]
theorem sumB_zeros (b : Bool) : sumB b [0, 0] = 0 := by cases b <;> rfl
theorem raw_zeros (a : List UInt8) : rawN (a ++ [0, 0]) = rawN a := by
  unfold rawN
  rw [sumB_append, sumB_zeros]
  rfl
theorem Bs.ok.take {w : World} {A : Option Addr} {n c : Nat} {l : List UInt8} (h : (Bs.mk A n c l).ok w) {k : Nat} (hk : k ≤ n) : (Bs.mk A k c (l.take k)).ok w :=
  ⟨by have := h.row.take hk; rw [Nat.mul_one, ← bv_take] at this; exact this, Nat.le_trans hk h.le, h.cap⟩
end Go.Proofs.YtckbleiikldloaaDoor


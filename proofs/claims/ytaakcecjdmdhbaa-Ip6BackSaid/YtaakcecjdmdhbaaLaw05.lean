/- The walks of layer 5 (ip6): awake, Parses, Puts. No condition but those of the rows. -/
import Derived.Test.YtaakcecjdmdhbaaPlain6
namespace Go.Proofs.Ytaakcecjdmdhbaa
open Go.RowKit
set_option linter.unusedVariables false
set_option linter.unusedSimpArgs false

theorem exec_eq6 {w : World} {o : Oper} {a : Act} (x y : Operand) (ty : TypeId) (ho : o.op = .binOp .eql 26 x y ty) (h : H6) (hk : h.ok) (hx : a.eval x = .agg h.cells.toArray) (hy : a.eval y = .agg h.cells.toArray) : (execOp a.eval o).run Try.prog w = .ok (.value (.bool true)) w := by
  unfold execOp
  simp only [ho, hx, hy, Sem.run_bind, run_eqGuard_agg w .eql 26 x y _ _ (show Try.prog.eqGuardType Try.prog.depth 26 = false by kernel_rfl), run_eql6 h hk, Result.andThen_ok]
  rfl
theorem exec_neq6 {w : World} {o : Oper} {a : Act} (x y : Operand) (ty : TypeId) (ho : o.op = .binOp .neq 26 x y ty) (h : H6) (hk : h.ok) (hx : a.eval x = .agg h.cells.toArray) (hy : a.eval y = .agg h.cells.toArray) : (execOp a.eval o).run Try.prog w = .ok (.value (.bool false)) w := by
  unfold execOp
  simp only [ho, hx, hy, Sem.run_bind, run_eqGuard_agg w .neq 26 x y _ _ (show Try.prog.eqGuardType Try.prog.depth 26 = false by kernel_rfl), run_neq6 h hk, Result.andThen_ok]
  rfl
theorem exec_build6p {w : World} {o : Oper} {a : Act} (x0 x1 x3 x4 : Operand) (ho : o.op = .build 26 #[(0, x0), (1, x1), (3, x3), (4, x4)]) (y0 y1 y3 y4 : Int)
    (h0 : a.eval x0 = .int .u8 y0) (h1 : a.eval x1 = .int .i64 y1) (h3 : a.eval x3 = .int .u8 y3) (h4 : a.eval x4 = .int .u8 y4) :
    (execOp a.eval o).run Try.prog w = .ok (.value (.agg (H6.cells ⟨y0, y1, 0, y3, y4, z16, z16⟩).toArray)) w := by
  have hb : (Instr.build 26 #[(0, .int .u8 y0), (1, .int .i64 y1), (3, .int .u8 y3), (4, .int .u8 y4)]).run Try.prog w = .ok (.agg (H6.cells ⟨y0, y1, 0, y3, y4, z16, z16⟩).toArray) w := by kernel_rfl
  unfold execOp
  simp only [ho, List.map_toArray, List.map_cons, List.map_nil, h0, h1, h3, h4, Sem.run_bind, hb, Result.andThen_ok]
  rfl

/-- the document's example: its header -/
def ex6 (n : Int) : H6 := ⟨1, 2, n, 58, 64, z16, z16⟩
theorem ex6_fit (n : Int) (h : -9223372036854775808 ≤ n ∧ n ≤ 9223372036854775807) : (ex6 n).fit := ⟨⟨rfl, rfl⟩, by simp [ex6], by simp [ex6], h, by simp [ex6], by simp [ex6]⟩
def ex6b : List UInt8 := pkt6 (ex6 0) [7, 8, 9]
theorem ex6_set : (H6.cells (ex6 0)).set 2 (.int .i64 3) = (ex6 3).cells := rfl

/-! region 6 of awake -/
set_option maxHeartbeats 4000000 in
theorem awake_any (w : World) : Calls Try.prog 7 #[] w fun e w' => e = .returned (.bool true) ∧ Below w.heap.size w w' := by
  have HF0 := Lib.hid (ex6_fit 0 (by omega))
  have HF3 := Lib.hid (ex6_fit 3 (by omega))
  have hput := put6_yes (ex6 0) (by simp [ex6]) (by simp [ex6]) [7, 8, 9] (by simp)
  have hpar := par6_pkt (ex6 0) HF0.out (by simp [ex6]) (by simp [ex6]) [7, 8, 9] [] (by simp)
  have hbod := body6_pkt (ex6 0) HF0.out (by simp [ex6]) (by simp [ex6]) [7, 8, 9] [] (by simp)
  have httl := ttl6_pkt (ex6 0) HF0.out (by simp [ex6]) (by simp [ex6]) [7, 8, 9] [] (by simp) 63
  rw [List.append_nil] at hpar hbod httl
  have hpar2 : par6 (pkt6 (ex6 0) [7, 8, 9]) = (ex6 3, 0) := hpar
  have hln : (pkt6 (ex6 0) [7, 8, 9]).length = 43 := pkt6_length _ HF0.out.ok _
  have hl2 : (ttl6 (pkt6 (ex6 0) [7, 8, 9]) 63).length = 43 := by rw [httl, List.append_nil]; exact pkt6_length _ HF0.out.ok _
  have h8 : (pkt6 (ex6 0) [7, 8, 9]).take 8 = [96, 16, 0, 2, 0, 3, 58, 64] := by decide +kernel
  have h7 : (ttl6 (pkt6 (ex6 0) [7, 8, 9]) 63)[7]? = some 63 := by rw [httl]; decide +kernel
  obtain ⟨L, hL⟩ : ∃ L, L = pkt6 (ex6 0) [7, 8, 9] := ⟨_, rfl⟩
  rw [← hL] at hput hpar2 hbod hln hl2 h8 h7
  have HP := Lib.hid hput
  have HR := Lib.hid hpar2
  have HB := Lib.hid hbod
  have HN := Lib.hid hln
  have H2 := Lib.hid hl2
  have H8 := Lib.hid h8
  have H7 := Lib.hid h7
  clear hput hpar hpar2 hbod httl hln hl2 h8 h7 hL
  go_enter Try.func7, Try.ntmps7
  go_wp2_with (first
    | (refine wpList_value rfl (exec_build6p _ _ _ _ rfl 1 2 58 64 rfl rfl rfl rfl) ?_)
    | (refine wpList_alloc_blk rfl 26 rfl H6.zero.cells zero6 ?_; intro w1 hbw1 hBw1 hsw1)
    | (refine wpList_store_all rfl 26 _ _ rfl w.heap.size (ex6 0).cells rfl rfl 26 _ hbw1 (size6 _ HF0.out.ok) (H6.cells_same _ _ HF0.out.ok H6.zero_ok) (H6.one _) ?_; intro w2 hbw2 hgw2 hsw2; have hBw2 : Below w.heap.size w w2 := bgrown hBw1 hgw2 (by omega) (by omega))
    | (refine wpList_load_blk rfl 26 _ rfl w.heap.size rfl 26 _ _ hbw2 Try.underlying26 rfl (size6 _ HF0.out.ok) ?_))
  refine (put6_any (ex6 0) HF0.out _ 3 3 [7, 8, 9] _ (by exact row_litN w2 _ [7, 8, 9] 3 _ (by simp [bv]) rfl (by omega)) (by omega) (by simp [maxLen])).mono ?_
  rintro e w3 ⟨⟨A3, n3, c3, l3⟩, rfl, hl3, ho3, hb3⟩
  rw [HP.out] at hl3
  simp only at hl3
  subst hl3
  have hB3 := bthen hBw2 (ballocd hb3)
  have hx3 := (hbw2.alloc (.cells #[.int .u8 7, .int .u8 8, .int .u8 9] 5)).on hb3
  rw [show (put6 (ex6 0) [7, 8, 9]).2 = 0 from by rw [HP.out]]
  have hn3 := ho3.len
  simp only [Bs.v] at hn3 ⊢
  obtain rfl : n3 = 43 := by rw [← hn3]; exact HN.out
  obtain ⟨b3, o3, rfl, _, _⟩ := ho3.row.2 (show 0 < 43 by omega)
  have HO3 := Lib.hid ho3
  have HNE := Lib.hid (row_ne ho3.row hx3 (by rw [H6.cells_length _ HF0.out.ok]; show 37 < 43; decide))
  clear hbw2 hb3 ho3 hn3
  go_wp2_with fail
  refine (parse6_any (some ⟨b3, o3, none⟩) 43 c3 l3 w3 HO3.out.row HO3.out.le HO3.out.cap (by omega)).mono ?_
  rintro e w4 ⟨rfl, hb4⟩
  rw [show (par6 l3).2 = 0 from by rw [HR.out], show (par6 l3).1 = ex6 3 from by rw [HR.out]]
  have hx4 := hx3.on hb4
  have hB4 := bthen hB3 hb4
  go_wp2_with (first
    | (refine wpList_alloc_blk rfl 26 rfl H6.zero.cells zero6 ?_; intro w5 hbw5 hBw5 hsw5)
    | (refine wpList_store_all rfl 26 _ _ rfl w4.heap.size (ex6 3).cells rfl rfl 26 _ hbw5 (size6 _ HF3.out.ok) (H6.cells_same _ _ HF3.out.ok H6.zero_ok) (H6.one _) ?_; intro w6 hbw6 hgw6 hsw6; have hBw6 : Below w4.heap.size w4 w6 := bgrown hBw5 hgw6 (by omega) (by omega)); have hx6 := hx4.on hBw6; have hc2 : w6.cell? ⟨w.heap.size, 2, none⟩ = some (.int .i64 0) := hx6.cell 2; have hf2 := hx6.frozen 2)
  obtain ⟨w7, hw7⟩ : ∃ w7, w7 = w6.setCell ⟨w.heap.size, 2, none⟩ (.int .i64 3) := ⟨_, rfl⟩
  have hB7 : Below w.heap.size w w7 := by rw [hw7]; exact (bthen hB4 hBw6).setCell (Nat.le_refl _) _
  have hy7 : Blk w7 w.heap.size 26 (ex6 3).cells := by rw [hw7, ← ex6_set]; exact hx6.set 2 _
  have hz7 : Blk w7 w4.heap.size 26 (ex6 3).cells := by rw [hw7]; exact hbw6.far (p := ⟨w.heap.size, 2, none⟩) (by have := hx4.lt; show w4.heap.size ≠ w.heap.size; omega) _
  have ho7 : (Bs.mk (some ⟨b3, o3, none⟩) 43 c3 l3).ok w7 := by
    have h1 : Below w3.heap.size w3 w6 := bthen hb4 hBw6
    have h2 := HO3.out.below h1
    have hne : ∀ b o, (some ⟨b3, o3, none⟩ : Option Addr) = some ⟨b, o, none⟩ → b ≠ w.heap.size := HNE.out
    rw [hw7]
    refine ⟨⟨h2.row.1, fun hn => ?_⟩, h2.le, h2.cap⟩
    obtain ⟨b, o, hA, hlt, hcell⟩ := h2.row.2 hn
    refine ⟨b, o, hA, by simpa [World.setCell] using hlt, fun j u hu => ?_⟩
    rw [World.cell?_setCell_other _ _ _ _ (fun e => hne b o hA (by injection e with e; exact e.symm))]
    exact hcell j u hu
  rw [← hw7]
  have HO7 := Lib.hid ho7
  have HB7 := Lib.hid hB7
  have HY7 := Lib.hid hy7
  have HZ7 := Lib.hid hz7
  clear hw7 ho7 hB7 hy7 hz7 hc2 hf2 hx6 hbw6 hBw6 hB4 hx4 hx3 hB3 hb4 hBw2
  go_wp2_with fail
  refine (ttl6_any (some ⟨b3, o3, none⟩) 43 c3 l3 63 w7 HO7.out.row HO7.out.le HO7.out.cap (by omega) (by omega) (by omega)).mono ?_
  rintro e w8 ⟨⟨A8, n8, c8, l8⟩, rfl, hl8, ho8, hb8⟩
  rw [show (par6 l3).2 = 0 from by rw [HR.out]]
  simp only at hl8
  subst hl8
  have hn8 := ho8.len
  simp only [Bs.v] at hn8 ⊢
  obtain rfl : n8 = 43 := by rw [← hn8]; exact H2.out
  have HO8 := Lib.hid ho8
  have HB8 := Lib.hid hb8
  obtain ⟨b8, o8, rfl, hlt8, hcell8⟩ := ho8.row.2 (show 0 < 43 by omega)
  have hc7 := hcell8 7 _ (bv_get _ 7 63 H7.out)
  have HC7 := Lib.hid hc7
  have HL8 := Lib.hid hlt8
  clear ho8 hb8 hn8 hcell8 hc7 hlt8
  have hle3 : (8 : Int) ≤ (c3 : Int) := by have : 43 ≤ c3 := HO7.out.le; omega
  have HR35 := Lib.hid (show Row w8 w8.heap.size 1 (some ⟨b3, o3, none⟩) 8 (bv [96, 16, 0, 2, 0, 3, 58, 64]) by
    have := ((HO7.out.below HB8.out).row.take (k := 8) (show 8 ≤ 43 by omega))
    rw [show 8 * 1 = 8 from rfl, ← bv_take, H8.out] at this
    exact this)
  have hc7 := HC7.out
  go_wp2_with (first
    | (refine wpList_str (by rfl) (.tmp 35) 22 9 5 rfl Try.underlying22 Try.underlying5 Try.underlying9 _ _ _ _ [96, 16, 0, 2, 0, 3, 58, 64] (by rfl) HR35.out ?_)
    | (refine wpList_load_blk (by rfl) 26 (.tmp 4) (by rfl) w4.heap.size (by rfl) 26 _ _ (HZ7.out.on HB8.out) Try.underlying26 rfl (size6 _ HF3.out.ok) ?_)
    | (refine wpList_load_blk (by rfl) 26 (.tmp 1) (by rfl) w.heap.size (by rfl) 26 _ _ (HY7.out.on HB8.out) Try.underlying26 rfl (size6 _ HF3.out.ok) ?_)
    | (refine wpList_value (by rfl) (exec_eq6 _ _ _ (by rfl) (ex6 3) HF3.out.ok (by rfl) (by rfl)) ?_))
  refine (body6_any (some ⟨b3, o3, none⟩) 43 c3 l3 w8 (HO7.out.below HB8.out).row (HO7.out.below HB8.out).le (HO7.out.below HB8.out).cap (by omega)).mono ?_
  rintro e w9 ⟨⟨A9, n9, c9, l9⟩, rfl, hl9, ho9, hb9⟩
  rw [HB.out] at hl9
  simp only at hl9
  subst hl9
  have hc9 : w9.cell? ⟨b8, o8 + 7, none⟩ = some (.int .u8 63) := (hb9.cell (p := ⟨b8, o8 + 7, none⟩) HL8.out).trans HC7.out
  have HO9 := Lib.hid ho9
  clear ho9 hc7
  simp only [Bs.v]
  go_wp2_with (refine wpList_str (by rfl) (.tmp 50) 22 9 5 rfl Try.underlying22 Try.underlying5 Try.underlying9 _ _ _ _ [7, 8, 9] (by rfl) HO9.out.row ?_)
  go_ret
  exact ⟨rfl, bthen HB7.out (bthen HB8.out hb9)⟩

end Go.Proofs.Ytaakcecjdmdhbaa

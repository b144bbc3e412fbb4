/- Texts of this claim put together, in build order: each one's own remark stands ahead of it. -/
import Derived.Test.YtbcjkjmjljfhpaaDoorG03
import Derived.Test.YtbcjkjmjljfhpaaDoorG02
/- What the program's and the reference's reading of bytes as a header of IPv6 computes. No condition but sizes. -/
namespace Go.Proofs.YtbcjkjmjljfhpaaDoor
open Go.RowKit
set_option linter.unusedVariables false
set_option maxRecDepth 20000

set_option maxHeartbeats 1000000 in
theorem num6_any (i s : Nat) (g : Nat) (A : Option Addr) (n c : Nat) (l : List UInt8) (w : World) (hb : Blk w g 22 [.slice A n c]) (h : Row w w.heap.size 1 A n (bv l)) (hc : n ≤ c) (hcm : c ≤ maxLen) (hn : n ≤ 1099511627776) (h1 : 1 ≤ s) (h4 : s ≤ 4) (hle : i + s ≤ n) :
    Calls Tryd.prog 63 #[.int .i64 i, .int .i64 s, .pointer (some ⟨g, 0, none⟩)] w fun e w' => e = .returned (.int .i64 (numF l i s : Nat)) ∧ Below w.heap.size w w' := by
  have hcell : w.cell? ⟨g, 0, none⟩ = some (.slice A n c) := hb.cell 0
  have hbd : numF l i s < 256 ^ 4 := Nat.lt_of_lt_of_le (numF_bd l i s) (Nat.pow_le_pow_right (by omega) h4)
  have G := get_yes A n c l i s w h hc hcm hn (by omega) (by omega) (by omega) (by omega)
  simp only [Int.toNat_natCast] at G
  change Calls _ _ _ _ (fun e w' => e = .returned (.tuple #[.int .u64 (numF l i s : Nat), .bool true]) ∧ _) at G
  generalize numF l i s = m at G hbd ⊢
  have HG := Lib.hid G
  clear G hb h
  go_enter Tryd.func63, Tryd.ntmps63
  go_wp2_with fail
  refine HG.out.mono ?_
  rintro e w1 ⟨rfl, hb1⟩
  go_wp2_with fail
  go_ret
  exact ⟨rfl, hb1⟩

theorem rnum6_any (i s : Nat) (l : List UInt8) (w : World) (hn : l.length ≤ 1099511627776) (h1 : 1 ≤ s) (h4 : s ≤ 4) (hle : i + s ≤ l.length) :
    Calls Tryd.prog 57 #[str l, .int .i64 i, .int .i64 s] w fun e w' => e = .returned (.int .i64 (numF l i s : Nat)) ∧ w = w' := by
  have hbd : numF l i s < 256 ^ 4 := Nat.lt_of_lt_of_le (numF_bd l i s) (Nat.pow_le_pow_right (by omega) h4)
  have G := rget_yes l i s w hn (by omega) (by omega) (by omega) (by omega)
  simp only [Int.toNat_natCast] at G
  change Calls _ _ _ _ (fun e w' => e = .returned (.tuple #[.int .u64 (numF l i s : Nat), .bool true]) ∧ _) at G
  generalize numF l i s = m at G hbd ⊢
  have HG := Lib.hid G
  clear G
  go_enter Tryd.func57, Tryd.ntmps57
  go_wp2_with fail
  refine HG.out.mono ?_
  rintro e w1 ⟨rfl, rfl⟩
  go_wp2_with fail
  go_ret
  exact ⟨rfl, rfl⟩

theorem exec_build6 {w : World} {o : Oper} {a : Act} (x0 x1 x2 x3 x4 : Operand) (ho : o.op = .build 58 #[(0, x0), (1, x1), (2, x2), (3, x3), (4, x4)]) (y0 y1 y2 y3 y4 : Int)
    (h0 : a.eval x0 = .int .u8 y0) (h1 : a.eval x1 = .int .i64 y1) (h2 : a.eval x2 = .int .i64 y2) (h3 : a.eval x3 = .int .u8 y3) (h4 : a.eval x4 = .int .u8 y4) :
    (execOp a.eval o).run Tryd.prog w = .ok (.value (.agg (H6.cells ⟨y0, y1, y2, y3, y4, z16, z16⟩).toArray)) w := by
  unfold execOp
  simp only [ho, List.map_toArray, List.map_cons, List.map_nil, h0, h1, h2, h3, h4, Sem.run_bind, run_build6, Result.andThen_ok]
  rfl
theorem exec_build6z {w : World} {o : Oper} {a : Act} (ho : o.op = .build 58 #[]) :
    (execOp a.eval o).run Tryd.prog w = .ok (.value (.agg H6.zero.cells.toArray)) w := by
  unfold execOp
  simp only [ho, List.map_toArray, List.map_nil, Sem.run_bind, run_build6z, Result.andThen_ok]
  rfl
theorem exec_build6f {w : World} {o : Oper} {a : Act} (x0 x1 x2 x3 x4 x5 x6 : Operand) (ho : o.op = .build 58 #[(0, x0), (1, x1), (2, x2), (3, x3), (4, x4), (5, x5), (6, x6)]) (y0 y1 y2 y3 y4 : Int) (s t : List UInt8) (hs : s.length = 16) (ht : t.length = 16)
    (h0 : a.eval x0 = .int .u8 y0) (h1 : a.eval x1 = .int .i64 y1) (h2 : a.eval x2 = .int .i64 y2) (h3 : a.eval x3 = .int .u8 y3) (h4 : a.eval x4 = .int .u8 y4) (h5 : a.eval x5 = .agg (bv s).toArray) (h6 : a.eval x6 = .agg (bv t).toArray) :
    (execOp a.eval o).run Tryd.prog w = .ok (.value (.agg (H6.cells ⟨y0, y1, y2, y3, y4, s, t⟩).toArray)) w := by
  unfold execOp
  simp only [ho, List.map_toArray, List.map_cons, List.map_nil, h0, h1, h2, h3, h4, h5, h6, Sem.run_bind, run_build6f _ _ _ _ _ s t hs ht, Result.andThen_ok]
  rfl

/-- the header that bytes begin with, and its error -/
def par6 (l : List UInt8) : H6 × Int :=
  if l.length < 40 then (H6.zero, 10) else
  if numF l 0 4 / 268435456 ≠ 6 then (H6.zero, 12) else
  if l.length < numF l 4 2 + 40 then (H6.zero, 13) else
  (⟨(numF l 0 4 / 1048576 % 256 : Nat), (numF l 0 4 % 1048576 : Nat), (numF l 4 2 : Nat), ((l.getD 6 0).toNat : Nat), ((l.getD 7 0).toNat : Nat), (l.drop 8).take 16, (l.drop 24).take 16⟩, 0)
theorem par6_ok (l : List UInt8) : (par6 l).1.ok := by
  unfold par6
  repeat' split
  · exact H6.zero_ok
  · exact H6.zero_ok
  · exact H6.zero_ok
  · rename_i h1 h2 h3
    exact ⟨by simp; omega, by simp; omega⟩

set_option maxHeartbeats 1000000 in
theorem parse6_short (A : Option Addr) (n c : Nat) (w : World) (hn : n < 40) :
    Calls Tryd.prog 39 #[.slice A n c] w fun e w' => e = .returned (.tuple #[.agg H6.zero.cells.toArray, .int .i64 10]) ∧ Below w.heap.size w w' := by
  go_enter Tryd.func39, Tryd.ntmps39
  go_wp2_with (first
    | (refine wpList_alloc_blk rfl 58 rfl H6.zero.cells zero6 ?_; intro w1 hb1 hB1 hs1; have hB := ballocd hB1; simp only [World.size_alloc] at hs1 hb1 hB1; have hcell : w1.cell? ⟨w.heap.size, 0, none⟩ = some (.slice A n c) := (hB1.cell (p := ⟨w.heap.size, 0, none⟩) (by simp)).trans (cell_at (heap_new w #[.slice A n c] 22) 0))
    | (refine wpList_value rfl (exec_build6z rfl) ?_)
    | (refine wpList_store_all rfl 58 _ _ rfl (w.heap.size + 1) H6.zero.cells rfl rfl 58 _ hb1 (size6 _ H6.zero_ok) rfl H6.zero.one ?_; intro w2 hb2 hg2 hs2))
  refine bodyPost_ret (results_cell2 rfl _ _ (w.heap.size + 1) _ _ _ rfl hb2 Tryd.underlying58 rfl (size6 _ H6.zero_ok)) rfl ?_
  exact ⟨rfl, bgrown hB hg2 (by omega) (by omega)⟩

theorem i64_mask20 (F : Nat) (h : F < 4294967296) : bits .and .i64 (F : Int) 1048575 = ((F % 1048576 : Nat) : Int) := by
  have hm : (BitVec.ofInt 64 1048575).toNat = 2 ^ 20 - 1 := by decide
  have key : (BitVec.ofInt 64 (F : Int) &&& BitVec.ofInt 64 1048575).toNat = ((F : Int) % ((2 ^ 64 : Nat) : Int)).toNat % 2 ^ 20 := by
    rw [BitVec.toNat_and, BitVec.toNat_ofInt, hm, Nat.and_two_pow_sub_one_eq_mod]
  show IntKind.i64.wrap ((BitVec.ofInt 64 (F : Int) &&& BitVec.ofInt 64 1048575).toNat : Nat) = _
  rw [key, IntKind.wrap_i64]
  omega

set_option linter.unusedSimpArgs false in
set_option maxHeartbeats 4000000 in
theorem parse6_ver (A : Option Addr) (n c : Nat) (l : List UInt8) (w : World) (h : Row w w.heap.size 1 A n (bv l)) (hc : n ≤ c) (hcm : c ≤ maxLen) (hn : n ≤ 1099511627776) (h40 : 40 ≤ n) (F L : Nat) (hF : numF l 0 4 = F) (hL : numF l 4 2 = L) (u6 u7 : UInt8) (hu6 : l[6]? = some u6) (hu7 : l[7]? = some u7) (hv : F / 268435456 ≠ 6) :
    Calls Tryd.prog 39 #[.slice A n c] w fun e w' => e = .returned (.tuple #[.agg H6.zero.cells.toArray, .int .i64 12]) ∧ Below w.heap.size w w' := by
  obtain ⟨b, o, rfl, hbB, hcell⟩ := h.2 (by omega)
  have hFb : F < 256 ^ 4 := by rw [← hF]; exact numF_bd _ _ _
  have hLb : L < 256 ^ 2 := by rw [← hL]; exact numF_bd _ _ _
  have hll : l.length = n := by have := h.1; rw [bv_length] at this; omega
  have HH := Lib.hid h
  have HF := Lib.hid hF
  have HL := Lib.hid hL
  have HLL := Lib.hid hll
  have c6 := hcell 6 _ (bv_get l 6 u6 hu6)
  have c7 := hcell 7 _ (bv_get l 7 u7 hu7)
  have C6 := Lib.hid c6
  have C7 := Lib.hid c7
  have HU6 := Lib.hid hu6
  have HU7 := Lib.hid hu7
  have i6 : (6 : Int) < n := by omega
  have i7 : (7 : Int) < n := by omega
  have z6 : (0 : Int) ≤ 6 := by omega
  have z7 : (0 : Int) ≤ 7 := by omega
  clear h hcell c6 c7 hF hL hu6 hu7 hll
  have hv1 : ((F : Int) / 268435456 != 6) = true := by rw [bne_iff_ne]; omega
  have HV := Lib.hid hv
  clear hv
  go_enter Tryd.func39, Tryd.ntmps39
  go_wp2_with (first
    | (refine wpList_alloc_blk rfl 58 rfl H6.zero.cells zero6 ?_; intro w1 hb1 hB1 hs1; have hB := ballocd hB1; simp only [World.size_alloc] at hs1 hb1 hB1; have hbx : Blk w1 w.heap.size 22 [.slice (some ⟨b, o, none⟩) n c] := Blk.below (Blk.new w 22 [.slice (some ⟨b, o, none⟩) n c]) hB1 (by omega); have hcell := hbx.cell 0; simp only [List.getElem?_cons_zero] at hcell))
  refine (num6_any 0 4 w.heap.size _ n c l w1 hbx ((HH.out.below hB).more hB.size) hc hcm hn (by omega) (by omega) (by omega)).mono ?_
  rintro e w2 ⟨rfl, hb2⟩
  rw [HF.out]
  have hB2 := bthen hB hb2
  have hs2 : w.heap.size + 2 ≤ w2.heap.size := by have := hb2.size; omega
  have hbx2 := hbx.on hb2
  have hbr2 := hb1.on hb2
  have KX : ∀ W, Below w2.heap.size w2 W → W.cell? ⟨w.heap.size, 0, none⟩ = some (.slice (some ⟨b, o, none⟩) n c) := fun W hW => (hW.cell (p := ⟨w.heap.size, 0, none⟩) hbx2.lt).trans (hbx2.cell 0)
  have K6 : ∀ W, Below w2.heap.size w2 W → W.cell? ⟨b, o + 6, none⟩ = some (.int .u8 (u6.toNat : Int)) := fun W hW => (hW.cell (p := ⟨b, o + 6, none⟩) (show b < _ by omega)).trans ((hB2.cell (p := ⟨b, o + 6, none⟩) hbB).trans C6.out)
  have K7 : ∀ W, Below w2.heap.size w2 W → W.cell? ⟨b, o + 7, none⟩ = some (.int .u8 (u7.toNat : Int)) := fun W hW => (hW.cell (p := ⟨b, o + 7, none⟩) (show b < _ by omega)).trans ((hB2.cell (p := ⟨b, o + 7, none⟩) hbB).trans C7.out)
  have KX' := Lib.hid KX
  have K6' := Lib.hid K6
  have K7' := Lib.hid K7
  clear hcell KX K6 K7
  go_wp2_with fail
  refine wp_region_held_drew (S := fun W => Below w2.heap.size w2 W) (by kernel_rfl) (below_drew _) (fun hH => ?_)
  refine rg_take 0 (some 14) rfl (by kernel_rfl) (by kernel_rfl) (by kernel_rfl) rfl (by rfl) (v := ?_) (fun W hW => ?_) (fun _ _ _ h => h) hH ?_
  rotate_left
  · go_simp
    try rfl
  try simp only [Act.put, List.setIfInBounds_toArray, List.set_cons_zero, List.set_cons_succ]
  refine rg_take 1 (some 15) rfl (by kernel_rfl) (by kernel_rfl) (by kernel_rfl) rfl (by rfl) (v := ?_) (fun W hW => ?_) (fun _ _ _ h => h) hH ?_
  rotate_left
  · go_simp
    try rfl
  try simp only [Act.put, List.setIfInBounds_toArray, List.set_cons_zero, List.set_cons_succ]
  refine rg_take 2 (some 16) rfl (by kernel_rfl) (by kernel_rfl) (by kernel_rfl) rfl (by rfl) (v := ?_) (fun W hW => ?_) (fun _ _ _ h => h) hH ?_
  rotate_left
  · go_simp
    try rfl
  try simp only [Act.put, List.setIfInBounds_toArray, List.set_cons_zero, List.set_cons_succ]
  refine rg_take 3 (some 17) rfl (by kernel_rfl) (by kernel_rfl) (by kernel_rfl) rfl (by rfl) (v := ?_) (fun W hW => ?_) (fun _ _ _ h => h) hH ?_
  rotate_left
  · go_simp
    try rfl
  try simp only [Act.put, List.setIfInBounds_toArray, List.set_cons_zero, List.set_cons_succ]
  refine rg_take 4 (some 18) rfl (by kernel_rfl) (by kernel_rfl) (by kernel_rfl) rfl (by rfl) (v := ?_) (fun W hW => ?_) (fun _ _ _ h => h) hH ?_
  rotate_left
  · go_simp
    try rfl
  try simp only [Act.put, List.setIfInBounds_toArray, List.set_cons_zero, List.set_cons_succ]
  refine rg_take 5 (some 19) rfl (by kernel_rfl) (by kernel_rfl) (by kernel_rfl) rfl (by rfl) (v := ?_) (fun W hW => ?_) (fun _ _ _ h => h) hH ?_
  rotate_left
  · go_simp
    try rfl
  try simp only [Act.put, List.setIfInBounds_toArray, List.set_cons_zero, List.set_cons_succ]
  refine rg_take 7 (some 21) rfl (by kernel_rfl) (by kernel_rfl) (by kernel_rfl) rfl (by rfl) (v := ?_) (fun W hW => ?_) (fun _ _ _ h => h) hH ?_
  rotate_left
  · have q := KX'.out W hW; go_simp
    try rfl
  try simp only [Act.put, List.setIfInBounds_toArray, List.set_cons_zero, List.set_cons_succ]
  refine rg_take 8 (some 22) rfl (by kernel_rfl) (by kernel_rfl) (by kernel_rfl) rfl (by rfl) (v := ?_) (fun W hW => ?_) (fun _ _ _ h => h) hH ?_
  rotate_left
  · go_simp
    try rfl
  try simp only [Act.put, List.setIfInBounds_toArray, List.set_cons_zero, List.set_cons_succ]
  refine rg_take 9 (some 23) rfl (by kernel_rfl) (by kernel_rfl) (by kernel_rfl) rfl (by rfl) (v := ?_) (fun W hW => ?_) (fun _ _ _ h => h) hH ?_
  rotate_left
  · have q := K6'.out W hW; go_simp
    try rfl
  try simp only [Act.put, List.setIfInBounds_toArray, List.set_cons_zero, List.set_cons_succ]
  refine rg_take 10 (some 24) rfl (by kernel_rfl) (by kernel_rfl) (by kernel_rfl) rfl (by rfl) (v := ?_) (fun W hW => ?_) (fun _ _ _ h => h) hH ?_
  rotate_left
  · have q := KX'.out W hW; go_simp
    try rfl
  try simp only [Act.put, List.setIfInBounds_toArray, List.set_cons_zero, List.set_cons_succ]
  refine rg_take 11 (some 25) rfl (by kernel_rfl) (by kernel_rfl) (by kernel_rfl) rfl (by rfl) (v := ?_) (fun W hW => ?_) (fun _ _ _ h => h) hH ?_
  rotate_left
  · go_simp
    try rfl
  try simp only [Act.put, List.setIfInBounds_toArray, List.set_cons_zero, List.set_cons_succ]
  refine rg_take 12 (some 26) rfl (by kernel_rfl) (by kernel_rfl) (by kernel_rfl) rfl (by rfl) (v := ?_) (fun W hW => ?_) (fun _ _ _ h => h) hH ?_
  rotate_left
  · have q := K7'.out W hW; go_simp
    try rfl
  try simp only [Act.put, List.setIfInBounds_toArray, List.set_cons_zero, List.set_cons_succ]
  refine rg_two 6 14 (some 6) (by kernel_rfl) rfl rfl rfl (by rfl) (by rfl) (fun K hK => ?_) (fun K hK => ?_)
  · go_simp
    refine (num6_any 4 2 w.heap.size _ n c l w2.drew hbx2.drew (((HH.out.below hB2).more hB2.size).drew) hc hcm hn (by omega) (by omega) (by omega)).mono ?_
    rintro e w3 ⟨rfl, hb3⟩
    rw [HL.out]
    have hb3' : Below w2.heap.size w2 w3 := bthen (below_drew w2) hb3
    go_wp2_with fail
    refine hK _ _ hb3' ?_
    clear hK K hH hb3
    rename Below w2.heap.size w2 w3 => hH
    try simp only [Act.put, List.setIfInBounds_toArray, List.set_cons_zero, List.set_cons_succ]
    refine rg_take 13 (some 27) rfl (by kernel_rfl) (by kernel_rfl) (by kernel_rfl) rfl (by rfl) (fun W hW => exec_build6 _ _ _ _ _ rfl _ _ _ _ _ rfl rfl rfl rfl rfl) (fun _ _ _ h => h) hH ?_
    try simp only [Act.put, List.setIfInBounds_toArray, List.set_cons_zero, List.set_cons_succ]
    refine rg_one 14 (some 6) (by kernel_rfl) rfl rfl (by rfl) (fun K hK => ?_)
    refine wp_alloc_blk 58 rfl H6.zero.cells zero6 ?_
    intro g w4 hbg hb4' hs4 hgs
    have hsg : w2.heap.size ≤ g := by have := hH.size; omega
    have hb4 := bthen hH hb4'
    refine hK _ _ hb4 ?_
    clear hK K hH hb4' hgs hs4
    rename Below w2.heap.size w2 w4 => hH
    try simp only [Act.put, List.setIfInBounds_toArray, List.set_cons_zero, List.set_cons_succ]
    refine rg_one 15 none (by kernel_rfl) rfl rfl (by rfl) (fun K hK => ?_)
    refine wp_store_all 58 _ _ rfl g _ rfl rfl 58 _ hbg (size6 _ ⟨rfl, rfl⟩) (H6.cells_same _ _ ⟨rfl, rfl⟩ H6.zero_ok) (H6.one _) ?_
    intro w5 hbg5 hg5 hs5
    have hb5 : Below w2.heap.size w2 w5 := bgrown hH hg5 hH.size hsg
    refine hK _ _ hb5 ?_
    clear hK K hbg hg5 hH
    try simp only [Act.put, List.setIfInBounds_toArray, List.set_cons_zero, List.set_cons_succ]
    refine wpAnyH_done (by kernel_rfl) ?_ _
    have hcell5 := KX'.out w5 hb5
    have hlen5 : w5.cell? ⟨g, 2, none⟩ = some (.int .i64 (L : Nat)) := hbg5.cell 2
    have hbr5 := hbr2.on hb5
    have hs5' : w2.heap.size ≤ w5.heap.size := hb5.size
    go_wp2_with (first
      | (refine wpList_value rfl (exec_build6z rfl) ?_)
      | (refine wpList_store_all rfl 58 _ _ rfl (w.heap.size + 1) H6.zero.cells rfl rfl 58 _ hbr5 (size6 _ H6.zero_ok) rfl H6.zero.one ?_; intro w6 hb6 hg6 hs6))
    refine bodyPost_ret (results_cell2 rfl _ _ (w.heap.size + 1) _ _ _ rfl hb6 Tryd.underlying58 rfl (size6 _ H6.zero_ok)) rfl ?_
    exact ⟨rfl, bgrown (bthen hB2 hb5) hg6 (by omega) (by omega)⟩

  · skip
    refine wp_alloc_blk 58 rfl H6.zero.cells zero6 ?_
    intro g w4 hbg hb4' hs4 hgs
    have hsg : w2.heap.size ≤ g := by have := hH.size; omega
    have hb4 := bthen hH hb4'
    refine hK _ _ hb4 ?_
    clear hK K hH hb4' hgs hs4
    rename Below w2.heap.size w2 w4 => hH
    try simp only [Act.put, List.setIfInBounds_toArray, List.set_cons_zero, List.set_cons_succ]
    refine rg_call 6 (by kernel_rfl) rfl (by rfl) (fun K hK => ?_)
    go_simp
    refine (num6_any 4 2 w.heap.size _ n c l w4 (hbx2.on hH) ((HH.out.below (bthen hB2 hH)).more (bthen hB2 hH).size) hc hcm hn (by omega) (by omega) (by omega)).mono ?_
    rintro e w3 ⟨rfl, hb3⟩
    rw [HL.out]
    have hb3' : Below w2.heap.size w2 w3 := bthen hH hb3
    have hbg3 := hbg.on hb3
    go_wp2_with fail
    refine hK _ _ hb3' ?_
    clear hK K hH hbg hb3
    rename Below w2.heap.size w2 w3 => hH
    rename Blk w3 _ _ _ => hbg
    try simp only [Act.put, List.setIfInBounds_toArray, List.set_cons_zero, List.set_cons_succ]
    refine rg_take 13 (some 27) rfl (by kernel_rfl) (by kernel_rfl) (by kernel_rfl) rfl (by rfl) (fun W hW => exec_build6 _ _ _ _ _ rfl _ _ _ _ _ rfl rfl rfl rfl rfl) (fun _ _ _ h => h) hH ?_
    try simp only [Act.put, List.setIfInBounds_toArray, List.set_cons_zero, List.set_cons_succ]
    refine rg_one 15 none (by kernel_rfl) rfl rfl (by rfl) (fun K hK => ?_)
    refine wp_store_all 58 _ _ rfl g _ rfl rfl 58 _ hbg (size6 _ ⟨rfl, rfl⟩) (H6.cells_same _ _ ⟨rfl, rfl⟩ H6.zero_ok) (H6.one _) ?_
    intro w5 hbg5 hg5 hs5
    have hb5 : Below w2.heap.size w2 w5 := bgrown hH hg5 hH.size hsg
    refine hK _ _ hb5 ?_
    clear hK K hbg hg5 hH
    try simp only [Act.put, List.setIfInBounds_toArray, List.set_cons_zero, List.set_cons_succ]
    refine wpAnyH_done (by kernel_rfl) ?_ _
    have hcell5 := KX'.out w5 hb5
    have hlen5 : w5.cell? ⟨g, 2, none⟩ = some (.int .i64 (L : Nat)) := hbg5.cell 2
    have hbr5 := hbr2.on hb5
    have hs5' : w2.heap.size ≤ w5.heap.size := hb5.size
    go_wp2_with (first
      | (refine wpList_value rfl (exec_build6z rfl) ?_)
      | (refine wpList_store_all rfl 58 _ _ rfl (w.heap.size + 1) H6.zero.cells rfl rfl 58 _ hbr5 (size6 _ H6.zero_ok) rfl H6.zero.one ?_; intro w6 hb6 hg6 hs6))
    refine bodyPost_ret (results_cell2 rfl _ _ (w.heap.size + 1) _ _ _ rfl hb6 Tryd.underlying58 rfl (size6 _ H6.zero_ok)) rfl ?_
    exact ⟨rfl, bgrown (bthen hB2 hb5) hg6 (by omega) (by omega)⟩


set_option linter.unusedSimpArgs false in
set_option maxHeartbeats 4000000 in
theorem parse6_len (A : Option Addr) (n c : Nat) (l : List UInt8) (w : World) (h : Row w w.heap.size 1 A n (bv l)) (hc : n ≤ c) (hcm : c ≤ maxLen) (hn : n ≤ 1099511627776) (h40 : 40 ≤ n) (F L : Nat) (hF : numF l 0 4 = F) (hL : numF l 4 2 = L) (u6 u7 : UInt8) (hu6 : l[6]? = some u6) (hu7 : l[7]? = some u7) (hv : F / 268435456 = 6) (hlt : n < L + 40) :
    Calls Tryd.prog 39 #[.slice A n c] w fun e w' => e = .returned (.tuple #[.agg H6.zero.cells.toArray, .int .i64 13]) ∧ Below w.heap.size w w' := by
  obtain ⟨b, o, rfl, hbB, hcell⟩ := h.2 (by omega)
  have hFb : F < 256 ^ 4 := by rw [← hF]; exact numF_bd _ _ _
  have hLb : L < 256 ^ 2 := by rw [← hL]; exact numF_bd _ _ _
  have hll : l.length = n := by have := h.1; rw [bv_length] at this; omega
  have HH := Lib.hid h
  have HF := Lib.hid hF
  have HL := Lib.hid hL
  have HLL := Lib.hid hll
  have c6 := hcell 6 _ (bv_get l 6 u6 hu6)
  have c7 := hcell 7 _ (bv_get l 7 u7 hu7)
  have C6 := Lib.hid c6
  have C7 := Lib.hid c7
  have HU6 := Lib.hid hu6
  have HU7 := Lib.hid hu7
  have i6 : (6 : Int) < n := by omega
  have i7 : (7 : Int) < n := by omega
  have z6 : (0 : Int) ≤ 6 := by omega
  have z7 : (0 : Int) ≤ 7 := by omega
  clear h hcell c6 c7 hF hL hu6 hu7 hll
  have hv1 : ((F : Int) / 268435456 != 6) = false := by rw [bne_eq_false_iff_eq]; omega
  have hl1 : (n : Int) - 40 < L := by omega
  have HV := Lib.hid hv
  clear hv
  go_enter Tryd.func39, Tryd.ntmps39
  go_wp2_with (first
    | (refine wpList_alloc_blk rfl 58 rfl H6.zero.cells zero6 ?_; intro w1 hb1 hB1 hs1; have hB := ballocd hB1; simp only [World.size_alloc] at hs1 hb1 hB1; have hbx : Blk w1 w.heap.size 22 [.slice (some ⟨b, o, none⟩) n c] := Blk.below (Blk.new w 22 [.slice (some ⟨b, o, none⟩) n c]) hB1 (by omega); have hcell := hbx.cell 0; simp only [List.getElem?_cons_zero] at hcell))
  refine (num6_any 0 4 w.heap.size _ n c l w1 hbx ((HH.out.below hB).more hB.size) hc hcm hn (by omega) (by omega) (by omega)).mono ?_
  rintro e w2 ⟨rfl, hb2⟩
  rw [HF.out]
  have hB2 := bthen hB hb2
  have hs2 : w.heap.size + 2 ≤ w2.heap.size := by have := hb2.size; omega
  have hbx2 := hbx.on hb2
  have hbr2 := hb1.on hb2
  have KX : ∀ W, Below w2.heap.size w2 W → W.cell? ⟨w.heap.size, 0, none⟩ = some (.slice (some ⟨b, o, none⟩) n c) := fun W hW => (hW.cell (p := ⟨w.heap.size, 0, none⟩) hbx2.lt).trans (hbx2.cell 0)
  have K6 : ∀ W, Below w2.heap.size w2 W → W.cell? ⟨b, o + 6, none⟩ = some (.int .u8 (u6.toNat : Int)) := fun W hW => (hW.cell (p := ⟨b, o + 6, none⟩) (show b < _ by omega)).trans ((hB2.cell (p := ⟨b, o + 6, none⟩) hbB).trans C6.out)
  have K7 : ∀ W, Below w2.heap.size w2 W → W.cell? ⟨b, o + 7, none⟩ = some (.int .u8 (u7.toNat : Int)) := fun W hW => (hW.cell (p := ⟨b, o + 7, none⟩) (show b < _ by omega)).trans ((hB2.cell (p := ⟨b, o + 7, none⟩) hbB).trans C7.out)
  have KX' := Lib.hid KX
  have K6' := Lib.hid K6
  have K7' := Lib.hid K7
  clear hcell KX K6 K7
  go_wp2_with fail
  refine wp_region_held_drew (S := fun W => Below w2.heap.size w2 W) (by kernel_rfl) (below_drew _) (fun hH => ?_)
  refine rg_take 0 (some 14) rfl (by kernel_rfl) (by kernel_rfl) (by kernel_rfl) rfl (by rfl) (v := ?_) (fun W hW => ?_) (fun _ _ _ h => h) hH ?_
  rotate_left
  · go_simp
    try rfl
  try simp only [Act.put, List.setIfInBounds_toArray, List.set_cons_zero, List.set_cons_succ]
  refine rg_take 1 (some 15) rfl (by kernel_rfl) (by kernel_rfl) (by kernel_rfl) rfl (by rfl) (v := ?_) (fun W hW => ?_) (fun _ _ _ h => h) hH ?_
  rotate_left
  · go_simp
    try rfl
  try simp only [Act.put, List.setIfInBounds_toArray, List.set_cons_zero, List.set_cons_succ]
  refine rg_take 2 (some 16) rfl (by kernel_rfl) (by kernel_rfl) (by kernel_rfl) rfl (by rfl) (v := ?_) (fun W hW => ?_) (fun _ _ _ h => h) hH ?_
  rotate_left
  · go_simp
    try rfl
  try simp only [Act.put, List.setIfInBounds_toArray, List.set_cons_zero, List.set_cons_succ]
  refine rg_take 3 (some 17) rfl (by kernel_rfl) (by kernel_rfl) (by kernel_rfl) rfl (by rfl) (v := ?_) (fun W hW => ?_) (fun _ _ _ h => h) hH ?_
  rotate_left
  · go_simp
    try rfl
  try simp only [Act.put, List.setIfInBounds_toArray, List.set_cons_zero, List.set_cons_succ]
  refine rg_take 4 (some 18) rfl (by kernel_rfl) (by kernel_rfl) (by kernel_rfl) rfl (by rfl) (v := ?_) (fun W hW => ?_) (fun _ _ _ h => h) hH ?_
  rotate_left
  · go_simp
    try rfl
  try simp only [Act.put, List.setIfInBounds_toArray, List.set_cons_zero, List.set_cons_succ]
  refine rg_take 5 (some 19) rfl (by kernel_rfl) (by kernel_rfl) (by kernel_rfl) rfl (by rfl) (v := ?_) (fun W hW => ?_) (fun _ _ _ h => h) hH ?_
  rotate_left
  · go_simp
    try rfl
  try simp only [Act.put, List.setIfInBounds_toArray, List.set_cons_zero, List.set_cons_succ]
  refine rg_take 7 (some 21) rfl (by kernel_rfl) (by kernel_rfl) (by kernel_rfl) rfl (by rfl) (v := ?_) (fun W hW => ?_) (fun _ _ _ h => h) hH ?_
  rotate_left
  · have q := KX'.out W hW; go_simp
    try rfl
  try simp only [Act.put, List.setIfInBounds_toArray, List.set_cons_zero, List.set_cons_succ]
  refine rg_take 8 (some 22) rfl (by kernel_rfl) (by kernel_rfl) (by kernel_rfl) rfl (by rfl) (v := ?_) (fun W hW => ?_) (fun _ _ _ h => h) hH ?_
  rotate_left
  · go_simp
    try rfl
  try simp only [Act.put, List.setIfInBounds_toArray, List.set_cons_zero, List.set_cons_succ]
  refine rg_take 9 (some 23) rfl (by kernel_rfl) (by kernel_rfl) (by kernel_rfl) rfl (by rfl) (v := ?_) (fun W hW => ?_) (fun _ _ _ h => h) hH ?_
  rotate_left
  · have q := K6'.out W hW; go_simp
    try rfl
  try simp only [Act.put, List.setIfInBounds_toArray, List.set_cons_zero, List.set_cons_succ]
  refine rg_take 10 (some 24) rfl (by kernel_rfl) (by kernel_rfl) (by kernel_rfl) rfl (by rfl) (v := ?_) (fun W hW => ?_) (fun _ _ _ h => h) hH ?_
  rotate_left
  · have q := KX'.out W hW; go_simp
    try rfl
  try simp only [Act.put, List.setIfInBounds_toArray, List.set_cons_zero, List.set_cons_succ]
  refine rg_take 11 (some 25) rfl (by kernel_rfl) (by kernel_rfl) (by kernel_rfl) rfl (by rfl) (v := ?_) (fun W hW => ?_) (fun _ _ _ h => h) hH ?_
  rotate_left
  · go_simp
    try rfl
  try simp only [Act.put, List.setIfInBounds_toArray, List.set_cons_zero, List.set_cons_succ]
  refine rg_take 12 (some 26) rfl (by kernel_rfl) (by kernel_rfl) (by kernel_rfl) rfl (by rfl) (v := ?_) (fun W hW => ?_) (fun _ _ _ h => h) hH ?_
  rotate_left
  · have q := K7'.out W hW; go_simp
    try rfl
  try simp only [Act.put, List.setIfInBounds_toArray, List.set_cons_zero, List.set_cons_succ]
  refine rg_two 6 14 (some 6) (by kernel_rfl) rfl rfl rfl (by rfl) (by rfl) (fun K hK => ?_) (fun K hK => ?_)
  · go_simp
    refine (num6_any 4 2 w.heap.size _ n c l w2.drew hbx2.drew (((HH.out.below hB2).more hB2.size).drew) hc hcm hn (by omega) (by omega) (by omega)).mono ?_
    rintro e w3 ⟨rfl, hb3⟩
    rw [HL.out]
    have hb3' : Below w2.heap.size w2 w3 := bthen (below_drew w2) hb3
    go_wp2_with fail
    refine hK _ _ hb3' ?_
    clear hK K hH hb3
    rename Below w2.heap.size w2 w3 => hH
    try simp only [Act.put, List.setIfInBounds_toArray, List.set_cons_zero, List.set_cons_succ]
    refine rg_take 13 (some 27) rfl (by kernel_rfl) (by kernel_rfl) (by kernel_rfl) rfl (by rfl) (fun W hW => exec_build6 _ _ _ _ _ rfl _ _ _ _ _ rfl rfl rfl rfl rfl) (fun _ _ _ h => h) hH ?_
    try simp only [Act.put, List.setIfInBounds_toArray, List.set_cons_zero, List.set_cons_succ]
    refine rg_one 14 (some 6) (by kernel_rfl) rfl rfl (by rfl) (fun K hK => ?_)
    refine wp_alloc_blk 58 rfl H6.zero.cells zero6 ?_
    intro g w4 hbg hb4' hs4 hgs
    have hsg : w2.heap.size ≤ g := by have := hH.size; omega
    have hb4 := bthen hH hb4'
    refine hK _ _ hb4 ?_
    clear hK K hH hb4' hgs hs4
    rename Below w2.heap.size w2 w4 => hH
    try simp only [Act.put, List.setIfInBounds_toArray, List.set_cons_zero, List.set_cons_succ]
    refine rg_one 15 none (by kernel_rfl) rfl rfl (by rfl) (fun K hK => ?_)
    refine wp_store_all 58 _ _ rfl g _ rfl rfl 58 _ hbg (size6 _ ⟨rfl, rfl⟩) (H6.cells_same _ _ ⟨rfl, rfl⟩ H6.zero_ok) (H6.one _) ?_
    intro w5 hbg5 hg5 hs5
    have hb5 : Below w2.heap.size w2 w5 := bgrown hH hg5 hH.size hsg
    refine hK _ _ hb5 ?_
    clear hK K hbg hg5 hH
    try simp only [Act.put, List.setIfInBounds_toArray, List.set_cons_zero, List.set_cons_succ]
    refine wpAnyH_done (by kernel_rfl) ?_ _
    have hcell5 := KX'.out w5 hb5
    have hlen5 : w5.cell? ⟨g, 2, none⟩ = some (.int .i64 (L : Nat)) := hbg5.cell 2
    have hbr5 := hbr2.on hb5
    have hs5' : w2.heap.size ≤ w5.heap.size := hb5.size
    go_wp2_with (first
      | (refine wpList_value rfl (exec_build6z rfl) ?_)
      | (refine wpList_store_all rfl 58 _ _ rfl (w.heap.size + 1) H6.zero.cells rfl rfl 58 _ hbr5 (size6 _ H6.zero_ok) rfl H6.zero.one ?_; intro w6 hb6 hg6 hs6))
    refine bodyPost_ret (results_cell2 rfl _ _ (w.heap.size + 1) _ _ _ rfl hb6 Tryd.underlying58 rfl (size6 _ H6.zero_ok)) rfl ?_
    exact ⟨rfl, bgrown (bthen hB2 hb5) hg6 (by omega) (by omega)⟩

  · skip
    refine wp_alloc_blk 58 rfl H6.zero.cells zero6 ?_
    intro g w4 hbg hb4' hs4 hgs
    have hsg : w2.heap.size ≤ g := by have := hH.size; omega
    have hb4 := bthen hH hb4'
    refine hK _ _ hb4 ?_
    clear hK K hH hb4' hgs hs4
    rename Below w2.heap.size w2 w4 => hH
    try simp only [Act.put, List.setIfInBounds_toArray, List.set_cons_zero, List.set_cons_succ]
    refine rg_call 6 (by kernel_rfl) rfl (by rfl) (fun K hK => ?_)
    go_simp
    refine (num6_any 4 2 w.heap.size _ n c l w4 (hbx2.on hH) ((HH.out.below (bthen hB2 hH)).more (bthen hB2 hH).size) hc hcm hn (by omega) (by omega) (by omega)).mono ?_
    rintro e w3 ⟨rfl, hb3⟩
    rw [HL.out]
    have hb3' : Below w2.heap.size w2 w3 := bthen hH hb3
    have hbg3 := hbg.on hb3
    go_wp2_with fail
    refine hK _ _ hb3' ?_
    clear hK K hH hbg hb3
    rename Below w2.heap.size w2 w3 => hH
    rename Blk w3 _ _ _ => hbg
    try simp only [Act.put, List.setIfInBounds_toArray, List.set_cons_zero, List.set_cons_succ]
    refine rg_take 13 (some 27) rfl (by kernel_rfl) (by kernel_rfl) (by kernel_rfl) rfl (by rfl) (fun W hW => exec_build6 _ _ _ _ _ rfl _ _ _ _ _ rfl rfl rfl rfl rfl) (fun _ _ _ h => h) hH ?_
    try simp only [Act.put, List.setIfInBounds_toArray, List.set_cons_zero, List.set_cons_succ]
    refine rg_one 15 none (by kernel_rfl) rfl rfl (by rfl) (fun K hK => ?_)
    refine wp_store_all 58 _ _ rfl g _ rfl rfl 58 _ hbg (size6 _ ⟨rfl, rfl⟩) (H6.cells_same _ _ ⟨rfl, rfl⟩ H6.zero_ok) (H6.one _) ?_
    intro w5 hbg5 hg5 hs5
    have hb5 : Below w2.heap.size w2 w5 := bgrown hH hg5 hH.size hsg
    refine hK _ _ hb5 ?_
    clear hK K hbg hg5 hH
    try simp only [Act.put, List.setIfInBounds_toArray, List.set_cons_zero, List.set_cons_succ]
    refine wpAnyH_done (by kernel_rfl) ?_ _
    have hcell5 := KX'.out w5 hb5
    have hlen5 : w5.cell? ⟨g, 2, none⟩ = some (.int .i64 (L : Nat)) := hbg5.cell 2
    have hbr5 := hbr2.on hb5
    have hs5' : w2.heap.size ≤ w5.heap.size := hb5.size
    go_wp2_with (first
      | (refine wpList_value rfl (exec_build6z rfl) ?_)
      | (refine wpList_store_all rfl 58 _ _ rfl (w.heap.size + 1) H6.zero.cells rfl rfl 58 _ hbr5 (size6 _ H6.zero_ok) rfl H6.zero.one ?_; intro w6 hb6 hg6 hs6))
    refine bodyPost_ret (results_cell2 rfl _ _ (w.heap.size + 1) _ _ _ rfl hb6 Tryd.underlying58 rfl (size6 _ H6.zero_ok)) rfl ?_
    exact ⟨rfl, bgrown (bthen hB2 hb5) hg6 (by omega) (by omega)⟩


set_option linter.unusedSimpArgs false in
set_option maxHeartbeats 4000000 in
theorem parse6_ok (A : Option Addr) (n c : Nat) (l : List UInt8) (w : World) (h : Row w w.heap.size 1 A n (bv l)) (hc : n ≤ c) (hcm : c ≤ maxLen) (hn : n ≤ 1099511627776) (h40 : 40 ≤ n) (F L : Nat) (hF : numF l 0 4 = F) (hL : numF l 4 2 = L) (u6 u7 : UInt8) (hu6 : l[6]? = some u6) (hu7 : l[7]? = some u7) (hv : F / 268435456 = 6) (hlt : L + 40 ≤ n) :
    Calls Tryd.prog 39 #[.slice A n c] w fun e w' => e = .returned (.tuple #[.agg (H6.mk (F / 1048576 % 256 : Nat) (F % 1048576 : Nat) (L : Nat) (u6.toNat : Nat) (u7.toNat : Nat) ((l.drop 8).take 16) ((l.drop 24).take 16)).cells.toArray, .int .i64 0]) ∧ Below w.heap.size w w' := by
  obtain ⟨b, o, rfl, hbB, hcell⟩ := h.2 (by omega)
  have hFb : F < 256 ^ 4 := by rw [← hF]; exact numF_bd _ _ _
  have hLb : L < 256 ^ 2 := by rw [← hL]; exact numF_bd _ _ _
  have hll : l.length = n := by have := h.1; rw [bv_length] at this; omega
  have HH := Lib.hid h
  have HF := Lib.hid hF
  have HL := Lib.hid hL
  have HLL := Lib.hid hll
  have c6 := hcell 6 _ (bv_get l 6 u6 hu6)
  have c7 := hcell 7 _ (bv_get l 7 u7 hu7)
  have C6 := Lib.hid c6
  have C7 := Lib.hid c7
  have HU6 := Lib.hid hu6
  have HU7 := Lib.hid hu7
  have i6 : (6 : Int) < n := by omega
  have i7 : (7 : Int) < n := by omega
  have z6 : (0 : Int) ≤ 6 := by omega
  have z7 : (0 : Int) ≤ 7 := by omega
  have hr8 : w.rangeAt b (o + 8) (bv ((l.drop 8).take 16)) := fun j v hv => by
    rw [bv_take, List.getElem?_take] at hv
    split at hv
    · rw [bv_drop, List.getElem?_drop] at hv
      rw [Nat.add_assoc]
      exact hcell _ v hv
    · cases hv
  have hr24 : w.rangeAt b (o + 24) (bv ((l.drop 24).take 16)) := fun j v hv => by
    rw [bv_take, List.getElem?_take] at hv
    split at hv
    · rw [bv_drop, List.getElem?_drop] at hv
      rw [Nat.add_assoc]
      exact hcell _ v hv
    · cases hv
  have HR8 := Lib.hid hr8
  have HR24 := Lib.hid hr24
  have HS8 := Lib.hid (show ((l.drop 8).take 16).length = 16 by rw [List.length_take, List.length_drop]; omega)
  have HS24 := Lib.hid (show ((l.drop 24).take 16).length = 16 by rw [List.length_take, List.length_drop]; omega)
  have hand : bits .and .i64 (F : Int) 1048575 = ((F % 1048576 : Nat) : Int) := by
    rw [i64_mask20 F (by omega)]
  have HAND := Lib.hid hand
  have hwr : IntKind.u8.wrap ((F : Int) / 1048576) = ((F / 1048576 % 256 : Nat) : Int) := by
    rw [IntKind.wrap_u8]
    omega
  have HWR := Lib.hid hwr
  have c8 : ¬ c = 8 := by omega
  have c24 : ¬ c = 24 := by omega
  clear hr8 hr24 hand hwr
  clear h hcell c6 c7 hF hL hu6 hu7 hll
  have hv1 : ((F : Int) / 268435456 != 6) = false := by rw [bne_eq_false_iff_eq]; omega
  have hl1 : (L : Int) ≤ (n : Int) - 40 := by omega
  have HV := Lib.hid hv
  clear hv
  go_enter Tryd.func39, Tryd.ntmps39
  go_wp2_with (first
    | (refine wpList_alloc_blk rfl 58 rfl H6.zero.cells zero6 ?_; intro w1 hb1 hB1 hs1; have hB := ballocd hB1; simp only [World.size_alloc] at hs1 hb1 hB1; have hbx : Blk w1 w.heap.size 22 [.slice (some ⟨b, o, none⟩) n c] := Blk.below (Blk.new w 22 [.slice (some ⟨b, o, none⟩) n c]) hB1 (by omega); have hcell := hbx.cell 0; simp only [List.getElem?_cons_zero] at hcell))
  refine (num6_any 0 4 w.heap.size _ n c l w1 hbx ((HH.out.below hB).more hB.size) hc hcm hn (by omega) (by omega) (by omega)).mono ?_
  rintro e w2 ⟨rfl, hb2⟩
  rw [HF.out]
  have hB2 := bthen hB hb2
  have hs2 : w.heap.size + 2 ≤ w2.heap.size := by have := hb2.size; omega
  have hbx2 := hbx.on hb2
  have hbr2 := hb1.on hb2
  have KX : ∀ W, Below w2.heap.size w2 W → W.cell? ⟨w.heap.size, 0, none⟩ = some (.slice (some ⟨b, o, none⟩) n c) := fun W hW => (hW.cell (p := ⟨w.heap.size, 0, none⟩) hbx2.lt).trans (hbx2.cell 0)
  have K6 : ∀ W, Below w2.heap.size w2 W → W.cell? ⟨b, o + 6, none⟩ = some (.int .u8 (u6.toNat : Int)) := fun W hW => (hW.cell (p := ⟨b, o + 6, none⟩) (show b < _ by omega)).trans ((hB2.cell (p := ⟨b, o + 6, none⟩) hbB).trans C6.out)
  have K7 : ∀ W, Below w2.heap.size w2 W → W.cell? ⟨b, o + 7, none⟩ = some (.int .u8 (u7.toNat : Int)) := fun W hW => (hW.cell (p := ⟨b, o + 7, none⟩) (show b < _ by omega)).trans ((hB2.cell (p := ⟨b, o + 7, none⟩) hbB).trans C7.out)
  have KX' := Lib.hid KX
  have K6' := Lib.hid K6
  have K7' := Lib.hid K7
  clear hcell KX K6 K7
  go_wp2_with fail
  refine wp_region_held_drew (S := fun W => Below w2.heap.size w2 W) (by kernel_rfl) (below_drew _) (fun hH => ?_)
  refine rg_take 0 (some 14) rfl (by kernel_rfl) (by kernel_rfl) (by kernel_rfl) rfl (by rfl) (v := ?_) (fun W hW => ?_) (fun _ _ _ h => h) hH ?_
  rotate_left
  · go_simp
    try rfl
  try simp only [Act.put, List.setIfInBounds_toArray, List.set_cons_zero, List.set_cons_succ]
  refine rg_take 1 (some 15) rfl (by kernel_rfl) (by kernel_rfl) (by kernel_rfl) rfl (by rfl) (v := ?_) (fun W hW => ?_) (fun _ _ _ h => h) hH ?_
  rotate_left
  · go_simp
    try rfl
  try simp only [Act.put, List.setIfInBounds_toArray, List.set_cons_zero, List.set_cons_succ]
  refine rg_take 2 (some 16) rfl (by kernel_rfl) (by kernel_rfl) (by kernel_rfl) rfl (by rfl) (v := ?_) (fun W hW => ?_) (fun _ _ _ h => h) hH ?_
  rotate_left
  · go_simp
    try rfl
  try simp only [Act.put, List.setIfInBounds_toArray, List.set_cons_zero, List.set_cons_succ]
  refine rg_take 3 (some 17) rfl (by kernel_rfl) (by kernel_rfl) (by kernel_rfl) rfl (by rfl) (v := ?_) (fun W hW => ?_) (fun _ _ _ h => h) hH ?_
  rotate_left
  · go_simp
    try rfl
  try simp only [Act.put, List.setIfInBounds_toArray, List.set_cons_zero, List.set_cons_succ]
  refine rg_take 4 (some 18) rfl (by kernel_rfl) (by kernel_rfl) (by kernel_rfl) rfl (by rfl) (v := ?_) (fun W hW => ?_) (fun _ _ _ h => h) hH ?_
  rotate_left
  · go_simp
    try rfl
  try simp only [Act.put, List.setIfInBounds_toArray, List.set_cons_zero, List.set_cons_succ]
  refine rg_take 5 (some 19) rfl (by kernel_rfl) (by kernel_rfl) (by kernel_rfl) rfl (by rfl) (v := ?_) (fun W hW => ?_) (fun _ _ _ h => h) hH ?_
  rotate_left
  · go_simp
    try rfl
  try simp only [Act.put, List.setIfInBounds_toArray, List.set_cons_zero, List.set_cons_succ]
  refine rg_take 7 (some 21) rfl (by kernel_rfl) (by kernel_rfl) (by kernel_rfl) rfl (by rfl) (v := ?_) (fun W hW => ?_) (fun _ _ _ h => h) hH ?_
  rotate_left
  · have q := KX'.out W hW; go_simp
    try rfl
  try simp only [Act.put, List.setIfInBounds_toArray, List.set_cons_zero, List.set_cons_succ]
  refine rg_take 8 (some 22) rfl (by kernel_rfl) (by kernel_rfl) (by kernel_rfl) rfl (by rfl) (v := ?_) (fun W hW => ?_) (fun _ _ _ h => h) hH ?_
  rotate_left
  · go_simp
    try rfl
  try simp only [Act.put, List.setIfInBounds_toArray, List.set_cons_zero, List.set_cons_succ]
  refine rg_take 9 (some 23) rfl (by kernel_rfl) (by kernel_rfl) (by kernel_rfl) rfl (by rfl) (v := ?_) (fun W hW => ?_) (fun _ _ _ h => h) hH ?_
  rotate_left
  · have q := K6'.out W hW; go_simp
    try rfl
  try simp only [Act.put, List.setIfInBounds_toArray, List.set_cons_zero, List.set_cons_succ]
  refine rg_take 10 (some 24) rfl (by kernel_rfl) (by kernel_rfl) (by kernel_rfl) rfl (by rfl) (v := ?_) (fun W hW => ?_) (fun _ _ _ h => h) hH ?_
  rotate_left
  · have q := KX'.out W hW; go_simp
    try rfl
  try simp only [Act.put, List.setIfInBounds_toArray, List.set_cons_zero, List.set_cons_succ]
  refine rg_take 11 (some 25) rfl (by kernel_rfl) (by kernel_rfl) (by kernel_rfl) rfl (by rfl) (v := ?_) (fun W hW => ?_) (fun _ _ _ h => h) hH ?_
  rotate_left
  · go_simp
    try rfl
  try simp only [Act.put, List.setIfInBounds_toArray, List.set_cons_zero, List.set_cons_succ]
  refine rg_take 12 (some 26) rfl (by kernel_rfl) (by kernel_rfl) (by kernel_rfl) rfl (by rfl) (v := ?_) (fun W hW => ?_) (fun _ _ _ h => h) hH ?_
  rotate_left
  · have q := K7'.out W hW; go_simp
    try rfl
  try simp only [Act.put, List.setIfInBounds_toArray, List.set_cons_zero, List.set_cons_succ]
  refine rg_two 6 14 (some 6) (by kernel_rfl) rfl rfl rfl (by rfl) (by rfl) (fun K hK => ?_) (fun K hK => ?_)
  · go_simp
    refine (num6_any 4 2 w.heap.size _ n c l w2.drew hbx2.drew (((HH.out.below hB2).more hB2.size).drew) hc hcm hn (by omega) (by omega) (by omega)).mono ?_
    rintro e w3 ⟨rfl, hb3⟩
    rw [HL.out]
    have hb3' : Below w2.heap.size w2 w3 := bthen (below_drew w2) hb3
    go_wp2_with fail
    refine hK _ _ hb3' ?_
    clear hK K hH hb3
    rename Below w2.heap.size w2 w3 => hH
    try simp only [Act.put, List.setIfInBounds_toArray, List.set_cons_zero, List.set_cons_succ]
    refine rg_take 13 (some 27) rfl (by kernel_rfl) (by kernel_rfl) (by kernel_rfl) rfl (by rfl) (fun W hW => exec_build6 _ _ _ _ _ rfl _ _ _ _ _ rfl rfl rfl rfl rfl) (fun _ _ _ h => h) hH ?_
    try simp only [Act.put, List.setIfInBounds_toArray, List.set_cons_zero, List.set_cons_succ]
    refine rg_one 14 (some 6) (by kernel_rfl) rfl rfl (by rfl) (fun K hK => ?_)
    refine wp_alloc_blk 58 rfl H6.zero.cells zero6 ?_
    intro g w4 hbg hb4' hs4 hgs
    have hsg : w2.heap.size ≤ g := by have := hH.size; omega
    have hb4 := bthen hH hb4'
    refine hK _ _ hb4 ?_
    clear hK K hH hb4' hgs hs4
    rename Below w2.heap.size w2 w4 => hH
    try simp only [Act.put, List.setIfInBounds_toArray, List.set_cons_zero, List.set_cons_succ]
    refine rg_one 15 none (by kernel_rfl) rfl rfl (by rfl) (fun K hK => ?_)
    refine wp_store_all 58 _ _ rfl g _ rfl rfl 58 _ hbg (size6 _ ⟨rfl, rfl⟩) (H6.cells_same _ _ ⟨rfl, rfl⟩ H6.zero_ok) (H6.one _) ?_
    intro w5 hbg5 hg5 hs5
    have hb5 : Below w2.heap.size w2 w5 := bgrown hH hg5 hH.size hsg
    refine hK _ _ hb5 ?_
    clear hK K hbg hg5 hH
    try simp only [Act.put, List.setIfInBounds_toArray, List.set_cons_zero, List.set_cons_succ]
    refine wpAnyH_done (by kernel_rfl) ?_ _
    have hcell5 := KX'.out w5 hb5
    have hlen5 : w5.cell? ⟨g, 2, none⟩ = some (.int .i64 (L : Nat)) := hbg5.cell 2
    have hbr5 := hbr2.on hb5
    have hs5' : w2.heap.size ≤ w5.heap.size := hb5.size
    have hr8 : w5.rangeAt b (o + 8) (bv ((l.drop 8).take 16)) := fun j v hv => (hb5.cell (p := ⟨b, o + 8 + j, none⟩) (show b < _ by omega)).trans ((hB2.cell (p := ⟨b, o + 8 + j, none⟩) hbB).trans (HR8.out j v hv))
    have hr24 : w5.rangeAt b (o + 24) (bv ((l.drop 24).take 16)) := fun j v hv => (hb5.cell (p := ⟨b, o + 24 + j, none⟩) (show b < _ by omega)).trans ((hB2.cell (p := ⟨b, o + 24 + j, none⟩) hbB).trans (HR24.out j v hv))
    have HR5 := Lib.hid hr8
    have HR6 := Lib.hid hr24
    clear hr8 hr24
    have ha8 := run_arrayAt (P := Tryd.prog) 26 5 16 Tryd.underlying26 ⟨b, o + 8, none⟩ (n - 8) (c - 8) (by omega)
    have ha24 := run_arrayAt (P := Tryd.prog) 26 5 16 Tryd.underlying26 ⟨b, o + 24, none⟩ (n - 24) (c - 24) (by omega)
    go_wp2_with (first
      | (refine wpList_store_all rfl 58 _ _ rfl (w.heap.size + 1) _ rfl rfl 58 _ hbr7 (size6 _ ⟨HS8.out, HS24.out⟩) (H6.cells_same _ _ ⟨HS8.out, HS24.out⟩ H6.zero_ok) (H6.one _) ?_; intro w8 hb8 hg8 hs8)
      | (refine wpList_load_blk rfl 58 _ rfl g rfl 58 _ _ hbg7 Tryd.underlying58 rfl (size6 _ ⟨HS8.out, HS24.out⟩) ?_)
      | (refine wpList_store_blk rfl 26 (.tmp 50) (.tmp 49) rfl g 21 (bv ((l.drop 24).take 16)) rfl rfl 58 _ hbg6 (size24 _ HS24.out) (by rw [H6.cells_length _ ⟨HS8.out, rfl⟩, bv_length, HS24.out]; omega) (bv_one _) ?_; intro w7 hbg7 hg7 hs7; rw [H6.put_dst _ ⟨HS8.out, rfl⟩ _ HS24.out] at hbg7; have hb7 : Below w2.heap.size w2 w7 := bgrown hb6 hg7 (by omega) hsg; have hbr7 := hbr2.on hb7)
      | (refine wpList_store_blk rfl 26 (.tmp 45) (.tmp 44) rfl g 5 (bv ((l.drop 8).take 16)) rfl rfl 58 _ hbg5 (size24 _ HS8.out) (by rw [H6.cells_length _ ⟨rfl, rfl⟩, bv_length, HS8.out]; omega) (bv_one _) ?_; intro w6 hbg6 hg6 hs6; rw [H6.put_src _ ⟨rfl, rfl⟩ _ HS8.out] at hbg6; have hb6 : Below w2.heap.size w2 w6 := bgrown hb5 hg6 (by omega) hsg; have hcell6 := KX'.out w6 hb6; have HR7 : w6.rangeAt b (o + 24) (bv ((l.drop 24).take 16)) := fun j v hv => (hb6.cell (p := ⟨b, o + 24 + j, none⟩) (show b < _ by omega)).trans ((hB2.cell (p := ⟨b, o + 24 + j, none⟩) hbB).trans (HR24.out j v hv)))
      | (refine wpList_load_midB rfl 26 (.tmp 48) rfl b (o + 24) rfl _ _ HR7 Tryd.underlying26 rfl (size24 _ HS24.out) ?_)
      | (refine wpList_load_midB rfl 26 (.tmp 43) rfl b (o + 8) rfl _ _ HR5.out Tryd.underlying26 rfl (size24 _ HS8.out) ?_))
    refine bodyPost_ret (results_cell2 rfl _ _ (w.heap.size + 1) _ _ _ rfl hb8 Tryd.underlying58 rfl (size6 _ ⟨HS8.out, HS24.out⟩)) rfl ?_
    refine ⟨?_, bgrown (bthen hB2 hb7) hg8 (by omega) (by omega)⟩
    rw [show bits .and .i64 (F : Int) 1048575 = ((F % 1048576 : Nat) : Int) from HAND.out, show IntKind.u8.wrap ((F : Int) / 1048576) = ((F / 1048576 % 256 : Nat) : Int) from HWR.out]
    rfl

  · skip
    refine wp_alloc_blk 58 rfl H6.zero.cells zero6 ?_
    intro g w4 hbg hb4' hs4 hgs
    have hsg : w2.heap.size ≤ g := by have := hH.size; omega
    have hb4 := bthen hH hb4'
    refine hK _ _ hb4 ?_
    clear hK K hH hb4' hgs hs4
    rename Below w2.heap.size w2 w4 => hH
    try simp only [Act.put, List.setIfInBounds_toArray, List.set_cons_zero, List.set_cons_succ]
    refine rg_call 6 (by kernel_rfl) rfl (by rfl) (fun K hK => ?_)
    go_simp
    refine (num6_any 4 2 w.heap.size _ n c l w4 (hbx2.on hH) ((HH.out.below (bthen hB2 hH)).more (bthen hB2 hH).size) hc hcm hn (by omega) (by omega) (by omega)).mono ?_
    rintro e w3 ⟨rfl, hb3⟩
    rw [HL.out]
    have hb3' : Below w2.heap.size w2 w3 := bthen hH hb3
    have hbg3 := hbg.on hb3
    go_wp2_with fail
    refine hK _ _ hb3' ?_
    clear hK K hH hbg hb3
    rename Below w2.heap.size w2 w3 => hH
    rename Blk w3 _ _ _ => hbg
    try simp only [Act.put, List.setIfInBounds_toArray, List.set_cons_zero, List.set_cons_succ]
    refine rg_take 13 (some 27) rfl (by kernel_rfl) (by kernel_rfl) (by kernel_rfl) rfl (by rfl) (fun W hW => exec_build6 _ _ _ _ _ rfl _ _ _ _ _ rfl rfl rfl rfl rfl) (fun _ _ _ h => h) hH ?_
    try simp only [Act.put, List.setIfInBounds_toArray, List.set_cons_zero, List.set_cons_succ]
    refine rg_one 15 none (by kernel_rfl) rfl rfl (by rfl) (fun K hK => ?_)
    refine wp_store_all 58 _ _ rfl g _ rfl rfl 58 _ hbg (size6 _ ⟨rfl, rfl⟩) (H6.cells_same _ _ ⟨rfl, rfl⟩ H6.zero_ok) (H6.one _) ?_
    intro w5 hbg5 hg5 hs5
    have hb5 : Below w2.heap.size w2 w5 := bgrown hH hg5 hH.size hsg
    refine hK _ _ hb5 ?_
    clear hK K hbg hg5 hH
    try simp only [Act.put, List.setIfInBounds_toArray, List.set_cons_zero, List.set_cons_succ]
    refine wpAnyH_done (by kernel_rfl) ?_ _
    have hcell5 := KX'.out w5 hb5
    have hlen5 : w5.cell? ⟨g, 2, none⟩ = some (.int .i64 (L : Nat)) := hbg5.cell 2
    have hbr5 := hbr2.on hb5
    have hs5' : w2.heap.size ≤ w5.heap.size := hb5.size
    have hr8 : w5.rangeAt b (o + 8) (bv ((l.drop 8).take 16)) := fun j v hv => (hb5.cell (p := ⟨b, o + 8 + j, none⟩) (show b < _ by omega)).trans ((hB2.cell (p := ⟨b, o + 8 + j, none⟩) hbB).trans (HR8.out j v hv))
    have hr24 : w5.rangeAt b (o + 24) (bv ((l.drop 24).take 16)) := fun j v hv => (hb5.cell (p := ⟨b, o + 24 + j, none⟩) (show b < _ by omega)).trans ((hB2.cell (p := ⟨b, o + 24 + j, none⟩) hbB).trans (HR24.out j v hv))
    have HR5 := Lib.hid hr8
    have HR6 := Lib.hid hr24
    clear hr8 hr24
    have ha8 := run_arrayAt (P := Tryd.prog) 26 5 16 Tryd.underlying26 ⟨b, o + 8, none⟩ (n - 8) (c - 8) (by omega)
    have ha24 := run_arrayAt (P := Tryd.prog) 26 5 16 Tryd.underlying26 ⟨b, o + 24, none⟩ (n - 24) (c - 24) (by omega)
    go_wp2_with (first
      | (refine wpList_store_all rfl 58 _ _ rfl (w.heap.size + 1) _ rfl rfl 58 _ hbr7 (size6 _ ⟨HS8.out, HS24.out⟩) (H6.cells_same _ _ ⟨HS8.out, HS24.out⟩ H6.zero_ok) (H6.one _) ?_; intro w8 hb8 hg8 hs8)
      | (refine wpList_load_blk rfl 58 _ rfl g rfl 58 _ _ hbg7 Tryd.underlying58 rfl (size6 _ ⟨HS8.out, HS24.out⟩) ?_)
      | (refine wpList_store_blk rfl 26 (.tmp 50) (.tmp 49) rfl g 21 (bv ((l.drop 24).take 16)) rfl rfl 58 _ hbg6 (size24 _ HS24.out) (by rw [H6.cells_length _ ⟨HS8.out, rfl⟩, bv_length, HS24.out]; omega) (bv_one _) ?_; intro w7 hbg7 hg7 hs7; rw [H6.put_dst _ ⟨HS8.out, rfl⟩ _ HS24.out] at hbg7; have hb7 : Below w2.heap.size w2 w7 := bgrown hb6 hg7 (by omega) hsg; have hbr7 := hbr2.on hb7)
      | (refine wpList_store_blk rfl 26 (.tmp 45) (.tmp 44) rfl g 5 (bv ((l.drop 8).take 16)) rfl rfl 58 _ hbg5 (size24 _ HS8.out) (by rw [H6.cells_length _ ⟨rfl, rfl⟩, bv_length, HS8.out]; omega) (bv_one _) ?_; intro w6 hbg6 hg6 hs6; rw [H6.put_src _ ⟨rfl, rfl⟩ _ HS8.out] at hbg6; have hb6 : Below w2.heap.size w2 w6 := bgrown hb5 hg6 (by omega) hsg; have hcell6 := KX'.out w6 hb6; have HR7 : w6.rangeAt b (o + 24) (bv ((l.drop 24).take 16)) := fun j v hv => (hb6.cell (p := ⟨b, o + 24 + j, none⟩) (show b < _ by omega)).trans ((hB2.cell (p := ⟨b, o + 24 + j, none⟩) hbB).trans (HR24.out j v hv)))
      | (refine wpList_load_midB rfl 26 (.tmp 48) rfl b (o + 24) rfl _ _ HR7 Tryd.underlying26 rfl (size24 _ HS24.out) ?_)
      | (refine wpList_load_midB rfl 26 (.tmp 43) rfl b (o + 8) rfl _ _ HR5.out Tryd.underlying26 rfl (size24 _ HS8.out) ?_))
    refine bodyPost_ret (results_cell2 rfl _ _ (w.heap.size + 1) _ _ _ rfl hb8 Tryd.underlying58 rfl (size6 _ ⟨HS8.out, HS24.out⟩)) rfl ?_
    refine ⟨?_, bgrown (bthen hB2 hb7) hg8 (by omega) (by omega)⟩
    rw [show bits .and .i64 (F : Int) 1048575 = ((F % 1048576 : Nat) : Int) from HAND.out, show IntKind.u8.wrap ((F : Int) / 1048576) = ((F / 1048576 % 256 : Nat) : Int) from HWR.out]
    rfl


theorem parse6_any (A : Option Addr) (n c : Nat) (l : List UInt8) (w : World) (h : Row w w.heap.size 1 A n (bv l)) (hc : n ≤ c) (hcm : c ≤ maxLen) (hn : n ≤ 1099511627776) :
    Calls Tryd.prog 39 #[.slice A n c] w fun e w' => e = .returned (.tuple #[.agg (par6 l).1.cells.toArray, .int .i64 (par6 l).2]) ∧ Below w.heap.size w w' := by
  have hll : l.length = n := by have := h.1; rw [bv_length] at this; omega
  by_cases h40 : n < 40
  · have e : par6 l = (H6.zero, 10) := by unfold par6; rw [if_pos (by omega)]
    rw [e]
    exact parse6_short A n c w h40
  · obtain ⟨u6, hu6⟩ := get_ex l (k := 6) (by omega)
    obtain ⟨u7, hu7⟩ := get_ex l (k := 7) (by omega)
    by_cases hv : numF l 0 4 / 268435456 = 6
    · by_cases hL : n < numF l 4 2 + 40
      · have e : par6 l = (H6.zero, 13) := by unfold par6; rw [if_neg (by omega), if_neg (by omega), if_pos (by omega)]
        rw [e]
        exact parse6_len A n c l w h hc hcm hn (by omega) _ _ rfl rfl u6 u7 hu6 hu7 hv hL
      · have e : par6 l = (⟨(numF l 0 4 / 1048576 % 256 : Nat), (numF l 0 4 % 1048576 : Nat), (numF l 4 2 : Nat), (u6.toNat : Nat), (u7.toNat : Nat), (l.drop 8).take 16, (l.drop 24).take 16⟩, 0) := by
          unfold par6
          rw [if_neg (by omega), if_neg (by omega), if_neg (by omega), List.getD_eq_getElem?_getD, List.getD_eq_getElem?_getD, hu6, hu7]
          rfl
        rw [e]
        exact parse6_ok A n c l w h hc hcm hn (by omega) _ _ rfl rfl u6 u7 hu6 hu7 hv (by omega)
    · have e : par6 l = (H6.zero, 12) := by unfold par6; rw [if_neg (by omega), if_pos hv]
      rw [e]
      exact parse6_ver A n c l w h hc hcm hn (by omega) _ _ rfl rfl u6 u7 hu6 hu7 hv
end Go.Proofs.YtbcjkjmjljfhpaaDoor


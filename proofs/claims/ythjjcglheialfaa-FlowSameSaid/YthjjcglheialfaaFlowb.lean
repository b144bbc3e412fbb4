/- What the functions of flows on keys compute. No condition but sizes. -/
import Derived.Test.YthjjcglheialfaaFlowa
import Derived.Test.YthjjcglheialfaaIp4c
import Derived.Test.YthjjcglheialfaaIp6b
import Derived.Test.YthjjcglheialfaaEnt
namespace Go.Proofs.Ythjjcglheialfaa
open Go.RowKit
set_option linter.unusedVariables false
set_option maxRecDepth 20000
set_option linter.unusedSimpArgs false

theorem wp_append_Own {P : Program} {w : World} {o : Oper} {a : Act} {K : Act → World → Prop} {Q : Exit → Act → World → Prop} (s x : Operand) (t : TypeId)
    (ho : o.op = .call { callee := .builtin .append, args := #[s, x], argTypes := #[t, t] })
    (base : Nat) (e : TypeId) (z : Value) (sz bytes : Nat) (ht : P.underlying t = some (.slice e)) (hinfo : (P.info? e).map (fun i => (i.zero, i.size, i.bytes)) = some (some z, sz, bytes))
    (hzs : z.cells.size = sz) (hsz : 0 < sz)
    (A : Option Addr) (n c : Nat) (xs : List Value) (hs : a.eval s = .slice A n c) (hown : Own w base e sz A n c xs)
    (B : Nat) (X : Option Addr) (m cx : Nat) (news : List Value) (hx : a.eval x = .slice X m cx) (hr : Row w B sz X m news) (h1 : ∀ u ∈ news, u.oneCell' = true)
    (h63 : n + m ≤ maxLen) (hbytes : (n + m) * bytes ≤ 140737488355328) (hbase : base ≤ w.heap.size)
    (h : ∀ A' c' w', Own w' base e sz A' (n + m) c' (xs ++ news) → w.grownBy w' (blk A c) → K (a.put o.dst (.slice A' (n + m) c')) w') : o.wp P a w K Q := by
  obtain ⟨A', c', w', hrun, h2, h3, _⟩ := run_append_Own (P := P) w base t o.type e z sz bytes ht hinfo hzs hsz A n c xs hown B X m cx news hr h1 h63 hbytes hbase
  unfold Oper.wp execOp
  simp only [ho, resolve, invoke, builtin, Sem.run_bind, Sem.run_pure, Result.andThen_ok, List.map_toArray, List.map_cons, List.map_nil, hs, hx, hrun]
  exact h A' c' w' h2 h3

structure Ky.fit (k : Ky) : Prop where
  ok : k.ok
  pro : 0 ≤ k.pro ∧ k.pro ≤ 255
  fr : -9223372036854775808 ≤ k.fr ∧ k.fr ≤ 9223372036854775807
  to : -9223372036854775808 ≤ k.to ∧ k.to ≤ 9223372036854775807
/-- a key's bytes -/
def bytesH (k : Ky) : List UInt8 := if k.six then 1 :: (k.src ++ k.dst) else 0 :: (k.src.take 4 ++ k.dst.take 4)
def bytesT (k : Ky) : List UInt8 := ub k.pro :: (toBe 2 (restN k.fr) ++ toBe 2 (restN k.to))
def bytesF (k : Ky) : List UInt8 := bytesH k ++ bytesT k
theorem bytesT_length (k : Ky) : (bytesT k).length = 5 := by simp [bytesT, toBe_length]
theorem bytesH_le (k : Ky) (hk : k.ok) : (bytesH k).length ≤ 33 := by
  unfold bytesH
  split
  · simp [hk.src, hk.dst]
  · simp; omega
theorem rest_bytes (n : Int) : [Value.int .u8 (n / 256 % 256), .int .u8 (n % 256)] = bv (toBe 2 (restN n)) := by
  have hb : restN n ≤ 65535 := by unfold restN; omega
  rw [toBe2 _ hb]
  have e1 : ((UInt8.ofNat (restN n / 256)).toNat : Int) = n / 256 % 256 := by
    rw [UInt8.toNat_ofNat', Nat.mod_eq_of_lt (by omega)]; unfold restN; omega
  have e2 : ((UInt8.ofNat (restN n % 256)).toNat : Int) = n % 256 := by
    rw [UInt8.toNat_ofNat', Nat.mod_eq_of_lt (by omega)]; unfold restN; omega
  simp only [bv, List.map_cons, List.map_nil, e1, e2]
theorem tail_bytes (k : Ky) (hk : k.fit) : [Value.int .u8 k.pro, .int .u8 (k.fr / 256 % 256), .int .u8 (k.fr % 256), .int .u8 (k.to / 256 % 256), .int .u8 (k.to % 256)] = bv (bytesT k) := by
  have h1 := rest_bytes k.fr
  have h2 := rest_bytes k.to
  have h3 : (((ub k.pro).toNat : Nat) : Int) = k.pro := ub_nat _ hk.pro.1 hk.pro.2
  unfold bytesT
  have e : bv (ub k.pro :: (toBe 2 (restN k.fr) ++ toBe 2 (restN k.to))) = .int .u8 ((ub k.pro).toNat : Int) :: (bv (toBe 2 (restN k.fr)) ++ bv (toBe 2 (restN k.to))) := by simp [bv]
  rw [e, h3, ← h1, ← h2]
  rfl

set_option maxHeartbeats 4000000 in
theorem bytes17_six (k : Ky) (hk : k.fit) (h6 : k.six = true) (w : World) :
    Calls Try.prog 11 #[.agg k.cells.toArray] w fun e w' => ∃ A n c, e = .returned (.slice A n c) ∧ Own w' w.heap.size 5 1 A n c (bv (bytesF k)) ∧ Below w.heap.size w w' := by
  have HK := Lib.hid hk
  have HS := Lib.hid (k.drop_src hk.ok)
  have HD := Lib.hid (k.drop_dst hk.ok)
  have HT := Lib.hid (k.get_tail hk.ok)
  have HTB := Lib.hid (tail_bytes k hk)
  have HH : Hid (bytesH k = 1 :: (k.src ++ k.dst)) := Lib.hid (by unfold bytesH; rw [h6]; rfl)
  clear hk
  go_enter Try.func11, Try.ntmps11
  go_wp2_with (refine wpList_box_blk rfl 26 _ rfl k.cells rfl ?_; intro w1 hb1 hB1 hs1; have c0 : w1.cell? ⟨w.heap.size, 0, none⟩ = some (.bool k.six) := hb1.cell 0)
  obtain ⟨w2, hw2⟩ : ∃ w2, w2 = w1.alloc (.cells #[.int .u8 0] 5) := ⟨_, rfl⟩
  have hS2 : Below w1.heap.size w1 w2 := by rw [hw2]; exact alloc_below w1 _
  have hO2 : Own w2 w1.heap.size 5 1 (some ⟨w1.heap.size, 0, none⟩) 1 1 (bv [0]) := by rw [hw2]; exact (Own.made (n := 1) (sz := 1) w1 #[.int .u8 0] (Nat.le_refl _) (by simp [maxLen]) rfl)
  rw [hs1] at hO2
  try rw [← hw2]
  have HO2 := Lib.hid hO2
  have HSZ := Lib.hid hs1
  have HSA : Hid (∀ W : World, Below w1.heap.size w1 W → Row W W.heap.size 1 (some ⟨w.heap.size, 1, none⟩) 16 (bv k.src)) := Lib.hid fun W hW => by
    have := (hb1.on hW).row 1 1 16 (by rw [k.cells_length HK.out.ok]; omega)
    rw [show 16 * 1 = 16 from rfl, HS.out] at this
    exact this
  have HDA : Hid (∀ W : World, Below w1.heap.size w1 W → Row W W.heap.size 1 (some ⟨w.heap.size, 17, none⟩) 16 (bv k.dst)) := Lib.hid fun W hW => by
    have := (hb1.on hW).row 1 17 16 (by rw [k.cells_length HK.out.ok]; omega)
    rw [show 16 * 1 = 16 from rfl, HD.out] at this
    exact this
  have HCT : Hid (∀ W : World, Below w1.heap.size w1 W → W.cell? ⟨w.heap.size, 33, none⟩ = some (.int .u8 k.pro) ∧ W.cell? ⟨w.heap.size, 34, none⟩ = some (.int .i64 k.fr) ∧ W.cell? ⟨w.heap.size, 35, none⟩ = some (.int .i64 k.to)) := Lib.hid fun W hW => ⟨((hb1.on hW).cell 33).trans (HT.out 0), ((hb1.on hW).cell 34).trans (HT.out 1), ((hb1.on hW).cell 35).trans (HT.out 2)⟩
  clear hO2 hw2 hs1 c0 hb1
  refine wp_region_held_drew (S := fun W => Below w1.heap.size w1 W) (by kernel_rfl) (hS2.trans ((below_drew w2).mono hS2.size)) (fun hH => ?_)
  refine rg_take 1 (some 8) rfl (by kernel_rfl) (by kernel_rfl) (by kernel_rfl) rfl (by rfl) (v := ?_) (fun W hW => ?_) (fun _ _ _ h => h) hH ?_
  rotate_left
  · go_simp
    try rfl
  try simp only [Act.put, List.setIfInBounds_toArray, List.set_cons_zero, List.set_cons_succ]
  refine rg_take 2 (some 9) rfl (by kernel_rfl) (by kernel_rfl) (by kernel_rfl) rfl (by rfl) (v := ?_) (fun W hW => ?_) (fun _ _ _ h => h) hH ?_
  rotate_left
  · go_simp
    try rfl
  try simp only [Act.put, List.setIfInBounds_toArray, List.set_cons_zero, List.set_cons_succ]
  refine rg_take 4 (some 11) rfl (by kernel_rfl) (by kernel_rfl) (by kernel_rfl) rfl (by rfl) (v := ?_) (fun W hW => ?_) (fun _ _ _ h => h) hH ?_
  rotate_left
  · go_simp
    try rfl
  try simp only [Act.put, List.setIfInBounds_toArray, List.set_cons_zero, List.set_cons_succ]
  refine rg_take 5 (some 12) rfl (by kernel_rfl) (by kernel_rfl) (by kernel_rfl) rfl (by rfl) (v := ?_) (fun W hW => ?_) (fun _ _ _ h => h) hH ?_
  rotate_left
  · go_simp
    try rfl
  try simp only [Act.put, List.setIfInBounds_toArray, List.set_cons_zero, List.set_cons_succ]
  refine rg_one 0 (some 7) (by kernel_rfl) rfl rfl (by rfl) (fun K hK => ?_)
  refine wp_value (v := .slice (some ⟨w2.heap.size, 0, none⟩) 1 1) (w' := w2.drew.alloc (.cells #[.int .u8 1] 5)) (by simp only [execOp]; go_simp) (hK _ _ (hH.trans ((alloc_below w2.drew _).mono (by exact hS2.size))) ?_)
  have hOw : Own (w2.drew.alloc (.cells #[.int .u8 1] 5)) w1.heap.size 5 1 (some ⟨w2.heap.size, 0, none⟩) 1 1 (bv [1]) := Own.made (n := 1) (sz := 1) w2.drew #[.int .u8 1] hS2.size (by simp [maxLen]) rfl
  have hHw : Below w1.heap.size w1 (w2.drew.alloc (.cells #[.int .u8 1] 5)) := hH.trans ((alloc_below w2.drew _).mono (by exact hS2.size))
  generalize w2.drew.alloc (.cells #[.int .u8 1] 5) = wa at hOw hHw ⊢
  clear hK K hH
  rename Below w1.heap.size w1 wa => hH
  try simp only [Act.put, List.setIfInBounds_toArray, List.set_cons_zero, List.set_cons_succ]
  refine rg_one 3 (some 10) (by kernel_rfl) rfl rfl (by rfl) (fun K hK => ?_)
  refine wp_append_Own (.tmp 7) (.tmp 9) 22 rfl w1.heap.size 5 _ 1 1 Try.underlying22 infoByte rfl (by decide) (some ⟨w2.heap.size, 0, none⟩) 1 1 (bv ([1])) rfl hOw wa.heap.size _ 16 _ (bv k.src) rfl (HSA.out wa hH) (bv_one _) (by simp only [maxLen]; omega) (by omega) hH.size ?_
  intro A5 c5 wb hownwb hgwb
  have hHwb : Below w1.heap.size w1 wb := hH.grown hgwb hH.size (fun g hgg => (hOw.lt g hgg).1)
  rw [← bv_append] at hownwb
  refine hK _ _ hHwb ?_
  clear hK K hH hOw hgwb
  rename Below w1.heap.size w1 wb => hH
  try simp only [Act.put, List.setIfInBounds_toArray, List.set_cons_zero, List.set_cons_succ]
  refine rg_one 6 (some 13) (by kernel_rfl) rfl rfl (by rfl) (fun K hK => ?_)
  refine wp_append_Own (.tmp 10) (.tmp 12) 22 rfl w1.heap.size 5 _ 1 1 Try.underlying22 infoByte rfl (by decide) A5 (1 + 16) c5 (bv ([1] ++ k.src)) rfl hownwb wb.heap.size _ 16 _ (bv k.dst) rfl (HDA.out wb hH) (bv_one _) (by simp only [maxLen]; omega) (by omega) hH.size ?_
  intro A6 c6 wc hownwc hgwc
  have hHwc : Below w1.heap.size w1 wc := hH.grown hgwc hH.size (fun g hgg => (hownwb.lt g hgg).1)
  rw [← bv_append] at hownwc
  refine hK _ _ hHwc ?_
  clear hK K hH hownwb hgwc
  rename Below w1.heap.size w1 wc => hH
  try simp only [Act.put, List.setIfInBounds_toArray, List.set_cons_zero, List.set_cons_succ]
  refine rg_one 7 (some 3) (by kernel_rfl) rfl rfl (by rfl) (fun K hK => ?_)
  refine wp_value (v := .slice A6 (1 + 16 + 16) c6) (by simp only [execOp]; go_simp) (hK _ _ hH ?_)
  clear hK K
  try simp only [Act.put, List.setIfInBounds_toArray, List.set_cons_zero, List.set_cons_succ]
  refine wpAnyH_done (by kernel_rfl) ?_ _
  obtain ⟨q1, q2, q3⟩ := HCT.out wc hH
  rw [show [1] ++ k.src ++ k.dst = bytesH k by rw [HH.out]; simp] at hownwc
  have HOC := Lib.hid hownwc
  clear hownwc
  go_wp2_with (at_builtin; refine wpList_append_Own _ rfl _ _ 22 rfl w1.heap.size 5 _ 1 1 Try.underlying22 infoByte rfl (by decide) A6 (1 + 16 + 16) c6 _ rfl (HOC.out.alloc _) (wc.heap.size + 1) (some ⟨wc.heap.size, 0, none⟩) 5 5 (bv (bytesT k)) rfl (row_lit wc _ (bytesT k) 5 (by rw [← HTB.out]) (bytesT_length k)) (bv_one _) (by simp only [maxLen]; omega) (by omega) (by have := hH.size; simp; omega) ?_; intro A7 c7 w7 hown7 hg7 _)
  go_ret
  rw [← bv_append] at hown7
  exact ⟨A7, _, c7, rfl, hown7.mono hB1.size, bthen hB1 ((hH.alloc hH.size _).grown hg7 (by have := hH.size; simp; omega) (fun g hgg => (HOC.out.lt g hgg).1))⟩

set_option maxHeartbeats 4000000 in
theorem bytes17_four (k : Ky) (hk : k.fit) (h6 : k.six = false) (w : World) :
    Calls Try.prog 11 #[.agg k.cells.toArray] w fun e w' => ∃ A n c, e = .returned (.slice A n c) ∧ Own w' w.heap.size 5 1 A n c (bv (bytesF k)) ∧ Below w.heap.size w w' := by
  have HK := Lib.hid hk
  have HS := Lib.hid (k.drop_src hk.ok)
  have HD := Lib.hid (k.drop_dst hk.ok)
  have HT := Lib.hid (k.get_tail hk.ok)
  have HTB := Lib.hid (tail_bytes k hk)
  have HH : Hid (bytesH k = 0 :: (k.src.take 4 ++ k.dst.take 4)) := Lib.hid (by unfold bytesH; rw [h6]; rfl)
  clear hk
  go_enter Try.func11, Try.ntmps11
  go_wp2_with (refine wpList_box_blk rfl 26 _ rfl k.cells rfl ?_; intro w1 hb1 hB1 hs1; have c0 : w1.cell? ⟨w.heap.size, 0, none⟩ = some (.bool k.six) := hb1.cell 0)
  obtain ⟨w2, hw2⟩ : ∃ w2, w2 = w1.alloc (.cells #[.int .u8 0] 5) := ⟨_, rfl⟩
  have hS2 : Below w1.heap.size w1 w2 := by rw [hw2]; exact alloc_below w1 _
  have hO2 : Own w2 w1.heap.size 5 1 (some ⟨w1.heap.size, 0, none⟩) 1 1 (bv [0]) := by rw [hw2]; exact (Own.made (n := 1) (sz := 1) w1 #[.int .u8 0] (Nat.le_refl _) (by simp [maxLen]) rfl)
  rw [hs1] at hO2
  try rw [← hw2]
  have HO2 := Lib.hid hO2
  have HSZ := Lib.hid hs1
  have HSA : Hid (∀ W : World, Below w1.heap.size w1 W → Row W W.heap.size 1 (some ⟨w.heap.size, 1, none⟩) 4 (bv (k.src.take 4))) := Lib.hid fun W hW => by
    have := (hb1.on hW).row 1 1 16 (by rw [k.cells_length HK.out.ok]; omega)
    rw [show 16 * 1 = 16 from rfl, HS.out] at this
    have h4 := this.take (k := 4) (by omega)
    rw [show 4 * 1 = 4 from rfl, ← bv_take] at h4
    exact h4
  have HDA : Hid (∀ W : World, Below w1.heap.size w1 W → Row W W.heap.size 1 (some ⟨w.heap.size, 17, none⟩) 4 (bv (k.dst.take 4))) := Lib.hid fun W hW => by
    have := (hb1.on hW).row 1 17 16 (by rw [k.cells_length HK.out.ok]; omega)
    rw [show 16 * 1 = 16 from rfl, HD.out] at this
    have h4 := this.take (k := 4) (by omega)
    rw [show 4 * 1 = 4 from rfl, ← bv_take] at h4
    exact h4
  have HCT : Hid (∀ W : World, Below w1.heap.size w1 W → W.cell? ⟨w.heap.size, 33, none⟩ = some (.int .u8 k.pro) ∧ W.cell? ⟨w.heap.size, 34, none⟩ = some (.int .i64 k.fr) ∧ W.cell? ⟨w.heap.size, 35, none⟩ = some (.int .i64 k.to)) := Lib.hid fun W hW => ⟨((hb1.on hW).cell 33).trans (HT.out 0), ((hb1.on hW).cell 34).trans (HT.out 1), ((hb1.on hW).cell 35).trans (HT.out 2)⟩
  clear hO2 hw2 hs1 c0 hb1
  refine wp_region_held_drew (S := fun W => Below w1.heap.size w1 W) (by kernel_rfl) (hS2.trans ((below_drew w2).mono hS2.size)) (fun hH => ?_)
  refine rg_take 1 (some 15) rfl (by kernel_rfl) (by kernel_rfl) (by kernel_rfl) rfl (by rfl) (v := ?_) (fun W hW => ?_) (fun _ _ _ h => h) hH ?_
  rotate_left
  · go_simp
    try rfl
  try simp only [Act.put, List.setIfInBounds_toArray, List.set_cons_zero, List.set_cons_succ]
  refine rg_take 2 (some 16) rfl (by kernel_rfl) (by kernel_rfl) (by kernel_rfl) rfl (by rfl) (v := ?_) (fun W hW => ?_) (fun _ _ _ h => h) hH ?_
  rotate_left
  · go_simp
    try rfl
  try simp only [Act.put, List.setIfInBounds_toArray, List.set_cons_zero, List.set_cons_succ]
  refine rg_take 4 (some 18) rfl (by kernel_rfl) (by kernel_rfl) (by kernel_rfl) rfl (by rfl) (v := ?_) (fun W hW => ?_) (fun _ _ _ h => h) hH ?_
  rotate_left
  · go_simp
    try rfl
  try simp only [Act.put, List.setIfInBounds_toArray, List.set_cons_zero, List.set_cons_succ]
  refine rg_take 5 (some 19) rfl (by kernel_rfl) (by kernel_rfl) (by kernel_rfl) rfl (by rfl) (v := ?_) (fun W hW => ?_) (fun _ _ _ h => h) hH ?_
  rotate_left
  · go_simp
    try rfl
  try simp only [Act.put, List.setIfInBounds_toArray, List.set_cons_zero, List.set_cons_succ]
  refine rg_take 0 (some 14) rfl (by kernel_rfl) (by kernel_rfl) (by kernel_rfl) rfl (by rfl) (v := ?_) (fun W hW => ?_) (fun _ _ _ h => h) hH ?_
  rotate_left
  · go_simp
    try rfl
  try simp only [Act.put, List.setIfInBounds_toArray, List.set_cons_zero, List.set_cons_succ]
  obtain ⟨wa, hwa⟩ : ∃ wa, wa = w2.drew := ⟨_, rfl⟩
  rw [← hwa] at hH ⊢
  have hOw : Own wa w1.heap.size 5 1 (some ⟨w.heap.size + 1, 0, none⟩) 1 1 (bv [0]) := by rw [hwa]; exact HO2.out.drew.mono (by have := HSZ.out; omega)
  clear hwa
  try simp only [Act.put, List.setIfInBounds_toArray, List.set_cons_zero, List.set_cons_succ]
  refine rg_one 3 (some 17) (by kernel_rfl) rfl rfl (by rfl) (fun K hK => ?_)
  refine wp_append_Own (.tmp 14) (.tmp 16) 22 rfl w1.heap.size 5 _ 1 1 Try.underlying22 infoByte rfl (by decide) (some ⟨w.heap.size + 1, 0, none⟩) 1 1 (bv ([0])) rfl hOw wa.heap.size _ 4 _ (bv (k.src.take 4)) rfl (HSA.out wa hH) (bv_one _) (by simp only [maxLen]; omega) (by omega) hH.size ?_
  intro A5 c5 wb hownwb hgwb
  have hHwb : Below w1.heap.size w1 wb := hH.grown hgwb hH.size (fun g hgg => (hOw.lt g hgg).1)
  rw [← bv_append] at hownwb
  refine hK _ _ hHwb ?_
  clear hK K hH hOw hgwb
  rename Below w1.heap.size w1 wb => hH
  try simp only [Act.put, List.setIfInBounds_toArray, List.set_cons_zero, List.set_cons_succ]
  refine rg_one 6 (some 20) (by kernel_rfl) rfl rfl (by rfl) (fun K hK => ?_)
  refine wp_append_Own (.tmp 17) (.tmp 19) 22 rfl w1.heap.size 5 _ 1 1 Try.underlying22 infoByte rfl (by decide) A5 (1 + 4) c5 (bv ([0] ++ (k.src.take 4))) rfl hownwb wb.heap.size _ 4 _ (bv (k.dst.take 4)) rfl (HDA.out wb hH) (bv_one _) (by simp only [maxLen]; omega) (by omega) hH.size ?_
  intro A6 c6 wc hownwc hgwc
  have hHwc : Below w1.heap.size w1 wc := hH.grown hgwc hH.size (fun g hgg => (hownwb.lt g hgg).1)
  rw [← bv_append] at hownwc
  refine hK _ _ hHwc ?_
  clear hK K hH hownwb hgwc
  rename Below w1.heap.size w1 wc => hH
  try simp only [Act.put, List.setIfInBounds_toArray, List.set_cons_zero, List.set_cons_succ]
  refine rg_one 7 (some 3) (by kernel_rfl) rfl rfl (by rfl) (fun K hK => ?_)
  refine wp_value (v := .slice A6 (1 + 4 + 4) c6) (by simp only [execOp]; go_simp) (hK _ _ hH ?_)
  clear hK K
  try simp only [Act.put, List.setIfInBounds_toArray, List.set_cons_zero, List.set_cons_succ]
  refine wpAnyH_done (by kernel_rfl) ?_ _
  obtain ⟨q1, q2, q3⟩ := HCT.out wc hH
  rw [show [0] ++ (k.src.take 4) ++ (k.dst.take 4) = bytesH k by rw [HH.out]; simp] at hownwc
  have HOC := Lib.hid hownwc
  clear hownwc
  go_wp2_with (at_builtin; refine wpList_append_Own _ rfl _ _ 22 rfl w1.heap.size 5 _ 1 1 Try.underlying22 infoByte rfl (by decide) A6 (1 + 4 + 4) c6 _ rfl (HOC.out.alloc _) (wc.heap.size + 1) (some ⟨wc.heap.size, 0, none⟩) 5 5 (bv (bytesT k)) rfl (row_lit wc _ (bytesT k) 5 (by rw [← HTB.out]) (bytesT_length k)) (bv_one _) (by simp only [maxLen]; omega) (by omega) (by have := hH.size; simp; omega) ?_; intro A7 c7 w7 hown7 hg7 _)
  go_ret
  rw [← bv_append] at hown7
  exact ⟨A7, _, c7, rfl, hown7.mono hB1.size, bthen hB1 ((hH.alloc hH.size _).grown hg7 (by have := hH.size; simp; omega) (fun g hgg => (HOC.out.lt g hgg).1))⟩

theorem bytes17_any (k : Ky) (hk : k.fit) (w : World) :
    Calls Try.prog 11 #[.agg k.cells.toArray] w fun e w' => ∃ A n c, e = .returned (.slice A n c) ∧ Own w' w.heap.size 5 1 A n c (bv (bytesF k)) ∧ Below w.heap.size w w' := by
  cases h6 : k.six
  · exact bytes17_four k hk h6 w
  · exact bytes17_six k hk h6 w

theorem ba_cat7 (X Y : List UInt8) : ByteArray.mk X.toArray ++ ByteArray.mk Y.toArray = ByteArray.mk (X ++ Y).toArray := by rw [ba_append]; simp

theorem cat1 (b : UInt8) (X : List UInt8) : ByteArray.mk #[b] ++ ByteArray.mk X.toArray = ByteArray.mk (b :: X).toArray := by
  apply ByteArray.ext
  simp

set_option maxHeartbeats 4000000 in
theorem rbytes17_any (k : Ky) (hk : k.fit) (w : World) :
    Calls Try.prog 12 #[.agg k.cells.toArray] w fun e w' => e = .returned (str (bytesF k)) ∧ Below w.heap.size w w' := by
  have HK := Lib.hid hk
  have HS := Lib.hid (k.drop_src hk.ok)
  have HD := Lib.hid (k.drop_dst hk.ok)
  have HT := Lib.hid (k.get_tail hk.ok)
  have HPRO := Lib.hid (ub_nat _ hk.pro.1 hk.pro.2)
  obtain ⟨f0, f1⟩ := hk.fr
  obtain ⟨t0, t1⟩ := hk.to
  have hl33 := bytesH_le k hk.ok
  have HSL := Lib.hid hk.ok.src
  have HDL := Lib.hid hk.ok.dst
  clear hk
  have hsix : ∀ v, k.six = v → Calls Try.prog 12 #[.agg k.cells.toArray] w fun e w' => e = .returned (str (bytesF k)) ∧ Below w.heap.size w w' := by
    intro v h6
    have HH : Hid (bytesH k = if v then 1 :: (k.src ++ k.dst) else 0 :: (k.src.take 4 ++ k.dst.take 4)) := Lib.hid (by unfold bytesH; rw [h6])
    have H6 := Lib.hid h6
    clear h6
    cases v
    · skip
      go_enter Try.func12, Try.ntmps12
      go_wp2_with (first
      | (refine wpList_box_blk rfl 29 _ rfl k.cells rfl ?_; intro w1 hb1 hB1 hs1; have r1 := hb1.range 1 16; rw [HS.out] at r1; have R1 := Lib.hid r1; clear r1)
      | (refine wpList_load_midB rfl 24 (.tmp 6) rfl w.heap.size 1 rfl _ _ R1.out Try.underlying24 rfl (size24 _ HK.out.ok.src) ?_))
      refine (text_any k.src _ HSL.out).mono ?_
      rintro e w2 ⟨rfl, hb2⟩
      have hx2 := hb1.on hb2
      have r2 := hx2.range 17 16
      rw [HD.out] at r2
      have R2 := Lib.hid r2
      have HB2 := Lib.hid (bthen hB1 hb2)
      have HX2 := Lib.hid hx2
      clear r2 hb1 hB1 hs1 hb2 R1 hx2
      go_wp2_with (refine wpList_load_midB rfl 24 (.tmp 9) rfl w.heap.size 17 rfl _ _ R2.out Try.underlying24 rfl (size24 _ HK.out.ok.dst) ?_)
      refine (text_any k.dst _ HDL.out).mono ?_
      rintro e w3 ⟨rfl, hb3⟩
      have hx3 := HX2.out.on hb3
      have c0 : w3.cell? ⟨w.heap.size, 0, none⟩ = some (.bool k.six) := hx3.cell 0
      rw [H6.out] at c0
      have HX := Lib.hid hx3
      have HB3 := Lib.hid (bthen HB2.out hb3)
      have hsl : k.src.length ≤ 16 := by have := HSL.out; omega
      have hdl : k.dst.length ≤ 16 := by have := HDL.out; omega
      clear hb3 hx3 HX2 R2
      have HX4 := Lib.hid (show (ByteArray.mk k.src.toArray).extract 0 4 = ByteArray.mk (k.src.take 4).toArray by rw [str_ex]; rfl)
      have HY4 := Lib.hid (show (ByteArray.mk k.dst.toArray).extract 0 4 = ByteArray.mk (k.dst.take 4).toArray by rw [str_ex]; rfl)
      have i4 : (4 : Int) ≤ (k.src.length : Int) := by have := HSL.out; omega
      have j4 : (4 : Int) ≤ (k.dst.length : Int) := by have := HDL.out; omega
      go_wp2_with fail
      refine wp_region_rel (fun A B => A.grownBy B none) (fun A => grown_refl A _) (fun A B C h k => grown_trans h k) (relAt (List.cons (fun v _ => v = str k.src) (List.cons (fun v _ => v = str (k.src.take 4)) (List.cons (fun v _ => v = str (0 :: k.src.take 4)) (List.cons (fun v _ => v = str k.dst) (List.cons (fun v _ => v = str (k.dst.take 4)) (List.cons (fun v _ => v = str (0 :: (k.src.take 4 ++ k.dst.take 4))) (List.cons (fun v _ => v = str (0 :: (k.src.take 4 ++ k.dst.take 4))) ([]))))))))) (MonoL.at_ (.cons (mono_val _) (.cons (mono_val _) (.cons (mono_val _) (.cons (mono_val _) (.cons (mono_val _) (.cons (mono_val _) (.cons (mono_val _) .nil)))))))) (by kernel_rfl) (by kernel_rfl) ⟨?_, ?_, ?_, ?_, ?_, ?_, ?_, trivial⟩ ?_
      · intro a vs W hX hR he hf K hK
        rw [if_pos (wanted_none rfl)]
        have e3 : a.eval (.tmp 3) = str k.src := hf 3 (by kernel_rfl)
        refine wp_value (v := str k.src) ?_ (hK _ _ rfl (grown_refl W _))
        simp only [execOp, e3]
        try go_simp
        try (first | rfl | omega | (simp only [IntKind.wrap_i64, IntKind.wrap_u8, IntKind.wrap_u64, IntKind.wrap_u16, IntKind.wrap_u32]; omega) | (rw [Int.tmod_eq_emod_of_nonneg (by omega)]) | (rw [Int.tmod_eq_emod_of_nonneg (by omega)]; omega))
      · intro a vs W hX hR he hf K hK
        rw [if_pos (wanted_none rfl)]
        have e19 : a.eval (.tmp 19) = str k.src := (he 0 19 (by kernel_rfl) rfl).trans (hR 0 (by kernel_rfl))
        have f19 := e19
        simp only [Act.eval, Array.getD_eq_getD_getElem?] at f19
        refine wp_value (v := _) ?_ (hK _ _ rfl (grown_refl W _))
        simp only [execOp, e19]
        go_simp
        exact HX4.out
      · intro a vs W hX hR he hf K hK
        rw [if_pos (wanted_none rfl)]
        have e20 : a.eval (.tmp 20) = str (k.src.take 4) := (he 1 20 (by kernel_rfl) rfl).trans (hR 1 (by kernel_rfl))
        refine wp_value (v := _) ?_ (hK _ _ rfl (grown_refl W _))
        simp only [execOp, e20]
        go_simp
        simp [ba_append]
        try omega
      · intro a vs W hX hR he hf K hK
        rw [if_pos (wanted_none rfl)]
        have e4 : a.eval (.tmp 4) = str k.dst := hf 4 (by kernel_rfl)
        refine wp_value (v := str k.dst) ?_ (hK _ _ rfl (grown_refl W _))
        simp only [execOp, e4]
        try go_simp
        try (first | rfl | omega | (simp only [IntKind.wrap_i64, IntKind.wrap_u8, IntKind.wrap_u64, IntKind.wrap_u16, IntKind.wrap_u32]; omega) | (rw [Int.tmod_eq_emod_of_nonneg (by omega)]) | (rw [Int.tmod_eq_emod_of_nonneg (by omega)]; omega))
      · intro a vs W hX hR he hf K hK
        rw [if_pos (wanted_none rfl)]
        have e22 : a.eval (.tmp 22) = str k.dst := (he 3 22 (by kernel_rfl) rfl).trans (hR 3 (by kernel_rfl))
        have f22 := e22
        simp only [Act.eval, Array.getD_eq_getD_getElem?] at f22
        refine wp_value (v := _) ?_ (hK _ _ rfl (grown_refl W _))
        simp only [execOp, e22]
        go_simp
        exact HY4.out
      · intro a vs W hX hR he hf K hK
        rw [if_pos (wanted_none rfl)]
        have e21 : a.eval (.tmp 21) = str (0 :: k.src.take 4) := (he 2 21 (by kernel_rfl) rfl).trans (hR 2 (by kernel_rfl))
        have e23 : a.eval (.tmp 23) = str (k.dst.take 4) := (he 4 23 (by kernel_rfl) rfl).trans (hR 4 (by kernel_rfl))
        refine wp_value (v := _) ?_ (hK _ _ rfl (grown_refl W _))
        simp only [execOp, e21, e23]
        go_simp
        simp [ba_append]
        try omega
      · intro a vs W hX hR he hf K hK
        rw [if_pos (wanted_none rfl)]
        have e24 : a.eval (.tmp 24) = str (0 :: (k.src.take 4 ++ k.dst.take 4)) := (he 5 24 (by kernel_rfl) rfl).trans (hR 5 (by kernel_rfl))
        refine wp_value (v := str (0 :: (k.src.take 4 ++ k.dst.take 4))) ?_ (hK _ _ rfl (grown_refl W _))
        simp only [execOp, e24]
        try go_simp
        try (first | rfl | omega | (simp only [IntKind.wrap_i64, IntKind.wrap_u8, IntKind.wrap_u64, IntKind.wrap_u16, IntKind.wrap_u32]; omega) | (rw [Int.tmod_eq_emod_of_nonneg (by omega)]) | (rw [Int.tmod_eq_emod_of_nonneg (by omega)]; omega))
      · intro vs w5 hX5 hR
        have q0 := hR 0 (by decide)
        have q1 := hR 1 (by decide)
        have q2 := hR 2 (by decide)
        have q3 := hR 3 (by decide)
        have q4 := hR 4 (by decide)
        have q5 := hR 5 (by decide)
        have q6 := hR 6 (by decide)
        change vs 0 = str k.src at q0
        change vs 1 = str (k.src.take 4) at q1
        change vs 2 = str (0 :: k.src.take 4) at q2
        change vs 3 = str k.dst at q3
        change vs 4 = str (k.dst.take 4) at q4
        change vs 5 = str (0 :: (k.src.take 4 ++ k.dst.take 4)) at q5
        change vs 6 = str (0 :: (k.src.take 4 ++ k.dst.take 4)) at q6
        simp only [putAll, Act.put, List.setIfInBounds_toArray, List.set_cons_zero, List.set_cons_succ, q0, q1, q2, q3, q4, q5, q6]
        clear q0 q1 q2 q3 q4 q5 q6
        clear hR
        rw [show 0 :: (k.src.take 4 ++ k.dst.take 4) = bytesH k from HH.out.symm]
        have hq5 : Below w3.heap.size w3 w5 := bthen (below_drew _) (grow_below hX5)
        clear hX5
        replace HX := Lib.hid (HX.out.on hq5)
        replace HB3 := Lib.hid (bthen HB3.out hq5)
        clear hq5
        go_wp2_with fail
        refine wp_region_rel (fun A B => A.grownBy B none) (fun A => grown_refl A _) (fun A B C h k => grown_trans h k) (relAt (List.cons (fun v _ => v = str (bytesH k)) (List.cons (fun v _ => v = .pointer (some ⟨w.heap.size, 33, none⟩)) (List.cons (fun v _ => v = .int .u8 k.pro) (List.cons (BsR [ub k.pro]) (List.cons (fun v _ => v = str [ub k.pro]) (List.cons (fun v _ => v = str (bytesH k ++ [ub k.pro])) (List.cons (fun v _ => v = .pointer (some ⟨w.heap.size, 34, none⟩)) (List.cons (fun v _ => v = .int .i64 k.fr) (List.cons (fun v _ => v = str (toBe 2 (restN k.fr))) (List.cons (fun v _ => v = str (bytesH k ++ [ub k.pro] ++ toBe 2 (restN k.fr))) (List.cons (fun v _ => v = .pointer (some ⟨w.heap.size, 35, none⟩)) (List.cons (fun v _ => v = .int .i64 k.to) (List.cons (fun v _ => v = str (toBe 2 (restN k.to))) (List.cons (fun v _ => v = str (bytesH k ++ [ub k.pro] ++ toBe 2 (restN k.fr) ++ toBe 2 (restN k.to))) (List.cons (fun v _ => v = str (bytesH k ++ [ub k.pro] ++ toBe 2 (restN k.fr) ++ toBe 2 (restN k.to))) ([]))))))))))))))))) (MonoL.at_ (.cons (mono_val _) (.cons (mono_val _) (.cons (mono_val _) (.cons (mono_bs _) (.cons (mono_val _) (.cons (mono_val _) (.cons (mono_val _) (.cons (mono_val _) (.cons (mono_val _) (.cons (mono_val _) (.cons (mono_val _) (.cons (mono_val _) (.cons (mono_val _) (.cons (mono_val _) (.cons (mono_val _) .nil)))))))))))))))) (by kernel_rfl) (by kernel_rfl) ⟨?_, ?_, ?_, ?_, ?_, ?_, ?_, ?_, ?_, ?_, ?_, ?_, ?_, ?_, ?_, trivial⟩ ?_
        · intro a vs W hX hR he hf K hK
          rw [if_pos (wanted_none rfl)]
          have e5 : a.eval (.tmp 5) = str (bytesH k) := hf 5 (by kernel_rfl)
          refine wp_value (v := str (bytesH k)) ?_ (hK _ _ rfl (grown_refl W _))
          simp only [execOp, e5]
          try go_simp
          try (first | rfl | omega | (simp only [IntKind.wrap_i64, IntKind.wrap_u8, IntKind.wrap_u64, IntKind.wrap_u16, IntKind.wrap_u32]; omega) | (rw [Int.tmod_eq_emod_of_nonneg (by omega)]) | (rw [Int.tmod_eq_emod_of_nonneg (by omega)]; omega))
        · intro a vs W hX hR he hf K hK
          rw [if_pos (wanted_none rfl)]
          have e1 : a.eval (.tmp 1) = .pointer (some ⟨w.heap.size, 0, none⟩) := hf 1 (by kernel_rfl)
          refine wp_value (v := .pointer (some ⟨w.heap.size, 33, none⟩)) ?_ (hK _ _ rfl (grown_refl W _))
          simp only [execOp, e1]
          try go_simp
          try (first | rfl | omega | (simp only [IntKind.wrap_i64, IntKind.wrap_u8, IntKind.wrap_u64, IntKind.wrap_u16, IntKind.wrap_u32]; omega) | (rw [Int.tmod_eq_emod_of_nonneg (by omega)]) | (rw [Int.tmod_eq_emod_of_nonneg (by omega)]; omega))
        · intro a vs W hX hR he hf K hK
          rw [if_pos (wanted_none rfl)]
          have e26 : a.eval (.tmp 26) = .pointer (some ⟨w.heap.size, 33, none⟩) := (he 1 26 (by kernel_rfl) rfl).trans (hR 1 (by kernel_rfl))
          have hbW := bthen (below_drew _) (grow_below hX)
          have hc : W.cell? ⟨w.heap.size, 33, none⟩ = some (.int .u8 k.pro) := ((HX.out.on hbW).cell 33).trans (HT.out 0)
          refine wp_value (v := _) ?_ (hK _ _ rfl (grown_refl W _))
          simp only [execOp, e26]
          try go_simp
        · intro a vs W hX hR he hf K hK
          rw [if_pos (wanted_none rfl)]
          have e27 : a.eval (.tmp 27) = .int .u8 k.pro := (he 2 27 (by kernel_rfl) rfl).trans (hR 2 (by kernel_rfl))
          have f27 := e27
          simp only [Act.eval, Array.getD_eq_getD_getElem?] at f27
          refine wp_value (v := .slice (some ⟨W.heap.size, 0, none⟩) 1 1) (w' := W.alloc (.cells #[.int .u8 k.pro] 5)) ?_ (hK _ _ ⟨_, _, _, rfl, ⟨by rw [World.size_alloc]; exact row_lit W _ [ub k.pro] 1 (by simp [bv, HPRO.out]) rfl, Nat.le_refl _, by simp [maxLen]⟩⟩ (World.grownBy_alloc _ _ _))
          simp only [execOp]
          go_simp
        · intro a vs W hX hR he hf K hK
          rw [if_pos (wanted_none rfl)]
          have e28 := he 3 28 (by kernel_rfl) rfl
          have p28 := hR 3 (by kernel_rfl)
          change (BsR [ub k.pro]) (vs 3) W at p28
          obtain ⟨A, n, c, hv, ho⟩ := p28
          rw [hv] at e28
          exact wp_value (exec_str 22 9 5 _ rfl Try.underlying22 Try.underlying5 Try.underlying9 A n c _ e28 ho) (hK _ _ rfl (grown_refl W _))
        · intro a vs W hX hR he hf K hK
          rw [if_pos (wanted_none rfl)]
          have e25 : a.eval (.tmp 25) = str (bytesH k) := (he 0 25 (by kernel_rfl) rfl).trans (hR 0 (by kernel_rfl))
          have e29 : a.eval (.tmp 29) = str [ub k.pro] := (he 4 29 (by kernel_rfl) rfl).trans (hR 4 (by kernel_rfl))
          refine wp_value (v := _) ?_ (hK _ _ rfl (grown_refl W _))
          simp only [execOp, e25, e29]
          go_simp
          simp [ba_append]
          try (simp [toBe_length] <;> omega)
          try omega
        · intro a vs W hX hR he hf K hK
          rw [if_pos (wanted_none rfl)]
          have e1 : a.eval (.tmp 1) = .pointer (some ⟨w.heap.size, 0, none⟩) := hf 1 (by kernel_rfl)
          refine wp_value (v := .pointer (some ⟨w.heap.size, 34, none⟩)) ?_ (hK _ _ rfl (grown_refl W _))
          simp only [execOp, e1]
          try go_simp
          try (first | rfl | omega | (simp only [IntKind.wrap_i64, IntKind.wrap_u8, IntKind.wrap_u64, IntKind.wrap_u16, IntKind.wrap_u32]; omega) | (rw [Int.tmod_eq_emod_of_nonneg (by omega)]) | (rw [Int.tmod_eq_emod_of_nonneg (by omega)]; omega))
        · intro a vs W hX hR he hf K hK
          rw [if_pos (wanted_none rfl)]
          have e31 : a.eval (.tmp 31) = .pointer (some ⟨w.heap.size, 34, none⟩) := (he 6 31 (by kernel_rfl) rfl).trans (hR 6 (by kernel_rfl))
          have hbW := bthen (below_drew _) (grow_below hX)
          have hc : W.cell? ⟨w.heap.size, 34, none⟩ = some (.int .i64 k.fr) := ((HX.out.on hbW).cell 34).trans (HT.out 1)
          refine wp_value (v := _) ?_ (hK _ _ rfl (grown_refl W _))
          simp only [execOp, e31]
          try go_simp
        · intro a vs W hX hR he hf K hK
          rw [if_pos (wanted_none rfl)]
          have e32 : a.eval (.tmp 32) = .int .i64 k.fr := (he 7 32 (by kernel_rfl) rfl).trans (hR 7 (by kernel_rfl))
          refine wp_enter (f := 31) (args := #[.int .i64 k.fr]) (by simp only [execOp, e32]; go_simp; simpa [Act.eval] using e32) ((two_any k.fr W f0 f1).mono ?_)
          rintro e w' ⟨rfl, hb⟩
          exact ⟨_, rfl, hK _ _ rfl (below_grow hb _)⟩
        · intro a vs W hX hR he hf K hK
          rw [if_pos (wanted_none rfl)]
          have e30 : a.eval (.tmp 30) = str (bytesH k ++ [ub k.pro]) := (he 5 30 (by kernel_rfl) rfl).trans (hR 5 (by kernel_rfl))
          have e33 : a.eval (.tmp 33) = str (toBe 2 (restN k.fr)) := (he 8 33 (by kernel_rfl) rfl).trans (hR 8 (by kernel_rfl))
          refine wp_value (v := _) ?_ (hK _ _ rfl (grown_refl W _))
          simp only [execOp, e30, e33]
          go_simp
          simp [ba_append]
          try (simp [toBe_length] <;> omega)
          try omega
        · intro a vs W hX hR he hf K hK
          rw [if_pos (wanted_none rfl)]
          have e1 : a.eval (.tmp 1) = .pointer (some ⟨w.heap.size, 0, none⟩) := hf 1 (by kernel_rfl)
          refine wp_value (v := .pointer (some ⟨w.heap.size, 35, none⟩)) ?_ (hK _ _ rfl (grown_refl W _))
          simp only [execOp, e1]
          try go_simp
          try (first | rfl | omega | (simp only [IntKind.wrap_i64, IntKind.wrap_u8, IntKind.wrap_u64, IntKind.wrap_u16, IntKind.wrap_u32]; omega) | (rw [Int.tmod_eq_emod_of_nonneg (by omega)]) | (rw [Int.tmod_eq_emod_of_nonneg (by omega)]; omega))
        · intro a vs W hX hR he hf K hK
          rw [if_pos (wanted_none rfl)]
          have e35 : a.eval (.tmp 35) = .pointer (some ⟨w.heap.size, 35, none⟩) := (he 10 35 (by kernel_rfl) rfl).trans (hR 10 (by kernel_rfl))
          have hbW := bthen (below_drew _) (grow_below hX)
          have hc : W.cell? ⟨w.heap.size, 35, none⟩ = some (.int .i64 k.to) := ((HX.out.on hbW).cell 35).trans (HT.out 2)
          refine wp_value (v := _) ?_ (hK _ _ rfl (grown_refl W _))
          simp only [execOp, e35]
          try go_simp
        · intro a vs W hX hR he hf K hK
          rw [if_pos (wanted_none rfl)]
          have e36 : a.eval (.tmp 36) = .int .i64 k.to := (he 11 36 (by kernel_rfl) rfl).trans (hR 11 (by kernel_rfl))
          refine wp_enter (f := 31) (args := #[.int .i64 k.to]) (by simp only [execOp, e36]; go_simp; simpa [Act.eval] using e36) ((two_any k.to W t0 t1).mono ?_)
          rintro e w' ⟨rfl, hb⟩
          exact ⟨_, rfl, hK _ _ rfl (below_grow hb _)⟩
        · intro a vs W hX hR he hf K hK
          rw [if_pos (wanted_none rfl)]
          have e34 : a.eval (.tmp 34) = str (bytesH k ++ [ub k.pro] ++ toBe 2 (restN k.fr)) := (he 9 34 (by kernel_rfl) rfl).trans (hR 9 (by kernel_rfl))
          have e37 : a.eval (.tmp 37) = str (toBe 2 (restN k.to)) := (he 12 37 (by kernel_rfl) rfl).trans (hR 12 (by kernel_rfl))
          refine wp_value (v := _) ?_ (hK _ _ rfl (grown_refl W _))
          simp only [execOp, e34, e37]
          go_simp
          simp [ba_append]
          try (simp [toBe_length] <;> omega)
          try omega
        · intro a vs W hX hR he hf K hK
          rw [if_pos (wanted_none rfl)]
          have e38 : a.eval (.tmp 38) = str (bytesH k ++ [ub k.pro] ++ toBe 2 (restN k.fr) ++ toBe 2 (restN k.to)) := (he 13 38 (by kernel_rfl) rfl).trans (hR 13 (by kernel_rfl))
          refine wp_value (v := str (bytesH k ++ [ub k.pro] ++ toBe 2 (restN k.fr) ++ toBe 2 (restN k.to))) ?_ (hK _ _ rfl (grown_refl W _))
          simp only [execOp, e38]
          try go_simp
          try (first | rfl | omega | (simp only [IntKind.wrap_i64, IntKind.wrap_u8, IntKind.wrap_u64, IntKind.wrap_u16, IntKind.wrap_u32]; omega) | (rw [Int.tmod_eq_emod_of_nonneg (by omega)]) | (rw [Int.tmod_eq_emod_of_nonneg (by omega)]; omega))
        · intro vs w6 hX6 hR
          have q0 := hR 0 (by decide)
          have q1 := hR 1 (by decide)
          have q2 := hR 2 (by decide)
          have q3 := hR 3 (by decide)
          have q4 := hR 4 (by decide)
          have q5 := hR 5 (by decide)
          have q6 := hR 6 (by decide)
          have q7 := hR 7 (by decide)
          have q8 := hR 8 (by decide)
          have q9 := hR 9 (by decide)
          have q10 := hR 10 (by decide)
          have q11 := hR 11 (by decide)
          have q12 := hR 12 (by decide)
          have q13 := hR 13 (by decide)
          have q14 := hR 14 (by decide)
          change vs 0 = str (bytesH k) at q0
          change vs 1 = .pointer (some ⟨w.heap.size, 33, none⟩) at q1
          change vs 2 = .int .u8 k.pro at q2
          change (BsR [ub k.pro]) (vs 3) w6 at q3
          change vs 4 = str [ub k.pro] at q4
          change vs 5 = str (bytesH k ++ [ub k.pro]) at q5
          change vs 6 = .pointer (some ⟨w.heap.size, 34, none⟩) at q6
          change vs 7 = .int .i64 k.fr at q7
          change vs 8 = str (toBe 2 (restN k.fr)) at q8
          change vs 9 = str (bytesH k ++ [ub k.pro] ++ toBe 2 (restN k.fr)) at q9
          change vs 10 = .pointer (some ⟨w.heap.size, 35, none⟩) at q10
          change vs 11 = .int .i64 k.to at q11
          change vs 12 = str (toBe 2 (restN k.to)) at q12
          change vs 13 = str (bytesH k ++ [ub k.pro] ++ toBe 2 (restN k.fr) ++ toBe 2 (restN k.to)) at q13
          change vs 14 = str (bytesH k ++ [ub k.pro] ++ toBe 2 (restN k.fr) ++ toBe 2 (restN k.to)) at q14
          simp only [putAll, Act.put, List.setIfInBounds_toArray, List.set_cons_zero, List.set_cons_succ, q0, q1, q2, q4, q5, q6, q7, q8, q9, q10, q11, q12, q13, q14]
          clear q0 q1 q2 q4 q5 q6 q7 q8 q9 q10 q11 q12 q13 q14
          clear hR
          go_wp2
          go_ret
          exact ⟨by unfold bytesF bytesT; simp, bthen HB3.out (bthen (below_drew _) (grow_below hX6))⟩
    · skip
      go_enter Try.func12, Try.ntmps12
      go_wp2_with (first
      | (refine wpList_box_blk rfl 29 _ rfl k.cells rfl ?_; intro w1 hb1 hB1 hs1; have r1 := hb1.range 1 16; rw [HS.out] at r1; have R1 := Lib.hid r1; clear r1)
      | (refine wpList_load_midB rfl 24 (.tmp 6) rfl w.heap.size 1 rfl _ _ R1.out Try.underlying24 rfl (size24 _ HK.out.ok.src) ?_))
      refine (text_any k.src _ HSL.out).mono ?_
      rintro e w2 ⟨rfl, hb2⟩
      have hx2 := hb1.on hb2
      have r2 := hx2.range 17 16
      rw [HD.out] at r2
      have R2 := Lib.hid r2
      have HB2 := Lib.hid (bthen hB1 hb2)
      have HX2 := Lib.hid hx2
      clear r2 hb1 hB1 hs1 hb2 R1 hx2
      go_wp2_with (refine wpList_load_midB rfl 24 (.tmp 9) rfl w.heap.size 17 rfl _ _ R2.out Try.underlying24 rfl (size24 _ HK.out.ok.dst) ?_)
      refine (text_any k.dst _ HDL.out).mono ?_
      rintro e w3 ⟨rfl, hb3⟩
      have hx3 := HX2.out.on hb3
      have c0 : w3.cell? ⟨w.heap.size, 0, none⟩ = some (.bool k.six) := hx3.cell 0
      rw [H6.out] at c0
      have HX := Lib.hid hx3
      have HB3 := Lib.hid (bthen HB2.out hb3)
      have hsl : k.src.length ≤ 16 := by have := HSL.out; omega
      have hdl : k.dst.length ≤ 16 := by have := HDL.out; omega
      clear hb3 hx3 HX2 R2
      go_wp2_with fail
      rw [cat1, ba_cat7, show (1 :: k.src) ++ k.dst = bytesH k from HH.out.symm]
      refine wp_region_rel (fun A B => A.grownBy B none) (fun A => grown_refl A _) (fun A B C h k => grown_trans h k) (relAt (List.cons (fun v _ => v = str (bytesH k)) (List.cons (fun v _ => v = .pointer (some ⟨w.heap.size, 33, none⟩)) (List.cons (fun v _ => v = .int .u8 k.pro) (List.cons (BsR [ub k.pro]) (List.cons (fun v _ => v = str [ub k.pro]) (List.cons (fun v _ => v = str (bytesH k ++ [ub k.pro])) (List.cons (fun v _ => v = .pointer (some ⟨w.heap.size, 34, none⟩)) (List.cons (fun v _ => v = .int .i64 k.fr) (List.cons (fun v _ => v = str (toBe 2 (restN k.fr))) (List.cons (fun v _ => v = str (bytesH k ++ [ub k.pro] ++ toBe 2 (restN k.fr))) (List.cons (fun v _ => v = .pointer (some ⟨w.heap.size, 35, none⟩)) (List.cons (fun v _ => v = .int .i64 k.to) (List.cons (fun v _ => v = str (toBe 2 (restN k.to))) (List.cons (fun v _ => v = str (bytesH k ++ [ub k.pro] ++ toBe 2 (restN k.fr) ++ toBe 2 (restN k.to))) (List.cons (fun v _ => v = str (bytesH k ++ [ub k.pro] ++ toBe 2 (restN k.fr) ++ toBe 2 (restN k.to))) ([]))))))))))))))))) (MonoL.at_ (.cons (mono_val _) (.cons (mono_val _) (.cons (mono_val _) (.cons (mono_bs _) (.cons (mono_val _) (.cons (mono_val _) (.cons (mono_val _) (.cons (mono_val _) (.cons (mono_val _) (.cons (mono_val _) (.cons (mono_val _) (.cons (mono_val _) (.cons (mono_val _) (.cons (mono_val _) (.cons (mono_val _) .nil)))))))))))))))) (by kernel_rfl) (by kernel_rfl) ⟨?_, ?_, ?_, ?_, ?_, ?_, ?_, ?_, ?_, ?_, ?_, ?_, ?_, ?_, ?_, trivial⟩ ?_
      · intro a vs W hX hR he hf K hK
        rw [if_pos (wanted_none rfl)]
        have e5 : a.eval (.tmp 5) = str (bytesH k) := hf 5 (by kernel_rfl)
        refine wp_value (v := str (bytesH k)) ?_ (hK _ _ rfl (grown_refl W _))
        simp only [execOp, e5]
        try go_simp
        try (first | rfl | omega | (simp only [IntKind.wrap_i64, IntKind.wrap_u8, IntKind.wrap_u64, IntKind.wrap_u16, IntKind.wrap_u32]; omega) | (rw [Int.tmod_eq_emod_of_nonneg (by omega)]) | (rw [Int.tmod_eq_emod_of_nonneg (by omega)]; omega))
      · intro a vs W hX hR he hf K hK
        rw [if_pos (wanted_none rfl)]
        have e1 : a.eval (.tmp 1) = .pointer (some ⟨w.heap.size, 0, none⟩) := hf 1 (by kernel_rfl)
        refine wp_value (v := .pointer (some ⟨w.heap.size, 33, none⟩)) ?_ (hK _ _ rfl (grown_refl W _))
        simp only [execOp, e1]
        try go_simp
        try (first | rfl | omega | (simp only [IntKind.wrap_i64, IntKind.wrap_u8, IntKind.wrap_u64, IntKind.wrap_u16, IntKind.wrap_u32]; omega) | (rw [Int.tmod_eq_emod_of_nonneg (by omega)]) | (rw [Int.tmod_eq_emod_of_nonneg (by omega)]; omega))
      · intro a vs W hX hR he hf K hK
        rw [if_pos (wanted_none rfl)]
        have e26 : a.eval (.tmp 26) = .pointer (some ⟨w.heap.size, 33, none⟩) := (he 1 26 (by kernel_rfl) rfl).trans (hR 1 (by kernel_rfl))
        have hbW := bthen (below_drew _) (grow_below hX)
        have hc : W.cell? ⟨w.heap.size, 33, none⟩ = some (.int .u8 k.pro) := ((HX.out.on hbW).cell 33).trans (HT.out 0)
        refine wp_value (v := _) ?_ (hK _ _ rfl (grown_refl W _))
        simp only [execOp, e26]
        try go_simp
      · intro a vs W hX hR he hf K hK
        rw [if_pos (wanted_none rfl)]
        have e27 : a.eval (.tmp 27) = .int .u8 k.pro := (he 2 27 (by kernel_rfl) rfl).trans (hR 2 (by kernel_rfl))
        have f27 := e27
        simp only [Act.eval, Array.getD_eq_getD_getElem?] at f27
        refine wp_value (v := .slice (some ⟨W.heap.size, 0, none⟩) 1 1) (w' := W.alloc (.cells #[.int .u8 k.pro] 5)) ?_ (hK _ _ ⟨_, _, _, rfl, ⟨by rw [World.size_alloc]; exact row_lit W _ [ub k.pro] 1 (by simp [bv, HPRO.out]) rfl, Nat.le_refl _, by simp [maxLen]⟩⟩ (World.grownBy_alloc _ _ _))
        simp only [execOp]
        go_simp
      · intro a vs W hX hR he hf K hK
        rw [if_pos (wanted_none rfl)]
        have e28 := he 3 28 (by kernel_rfl) rfl
        have p28 := hR 3 (by kernel_rfl)
        change (BsR [ub k.pro]) (vs 3) W at p28
        obtain ⟨A, n, c, hv, ho⟩ := p28
        rw [hv] at e28
        exact wp_value (exec_str 22 9 5 _ rfl Try.underlying22 Try.underlying5 Try.underlying9 A n c _ e28 ho) (hK _ _ rfl (grown_refl W _))
      · intro a vs W hX hR he hf K hK
        rw [if_pos (wanted_none rfl)]
        have e25 : a.eval (.tmp 25) = str (bytesH k) := (he 0 25 (by kernel_rfl) rfl).trans (hR 0 (by kernel_rfl))
        have e29 : a.eval (.tmp 29) = str [ub k.pro] := (he 4 29 (by kernel_rfl) rfl).trans (hR 4 (by kernel_rfl))
        refine wp_value (v := _) ?_ (hK _ _ rfl (grown_refl W _))
        simp only [execOp, e25, e29]
        go_simp
        simp [ba_append]
        try (simp [toBe_length] <;> omega)
        try omega
      · intro a vs W hX hR he hf K hK
        rw [if_pos (wanted_none rfl)]
        have e1 : a.eval (.tmp 1) = .pointer (some ⟨w.heap.size, 0, none⟩) := hf 1 (by kernel_rfl)
        refine wp_value (v := .pointer (some ⟨w.heap.size, 34, none⟩)) ?_ (hK _ _ rfl (grown_refl W _))
        simp only [execOp, e1]
        try go_simp
        try (first | rfl | omega | (simp only [IntKind.wrap_i64, IntKind.wrap_u8, IntKind.wrap_u64, IntKind.wrap_u16, IntKind.wrap_u32]; omega) | (rw [Int.tmod_eq_emod_of_nonneg (by omega)]) | (rw [Int.tmod_eq_emod_of_nonneg (by omega)]; omega))
      · intro a vs W hX hR he hf K hK
        rw [if_pos (wanted_none rfl)]
        have e31 : a.eval (.tmp 31) = .pointer (some ⟨w.heap.size, 34, none⟩) := (he 6 31 (by kernel_rfl) rfl).trans (hR 6 (by kernel_rfl))
        have hbW := bthen (below_drew _) (grow_below hX)
        have hc : W.cell? ⟨w.heap.size, 34, none⟩ = some (.int .i64 k.fr) := ((HX.out.on hbW).cell 34).trans (HT.out 1)
        refine wp_value (v := _) ?_ (hK _ _ rfl (grown_refl W _))
        simp only [execOp, e31]
        try go_simp
      · intro a vs W hX hR he hf K hK
        rw [if_pos (wanted_none rfl)]
        have e32 : a.eval (.tmp 32) = .int .i64 k.fr := (he 7 32 (by kernel_rfl) rfl).trans (hR 7 (by kernel_rfl))
        refine wp_enter (f := 31) (args := #[.int .i64 k.fr]) (by simp only [execOp, e32]; go_simp; simpa [Act.eval] using e32) ((two_any k.fr W f0 f1).mono ?_)
        rintro e w' ⟨rfl, hb⟩
        exact ⟨_, rfl, hK _ _ rfl (below_grow hb _)⟩
      · intro a vs W hX hR he hf K hK
        rw [if_pos (wanted_none rfl)]
        have e30 : a.eval (.tmp 30) = str (bytesH k ++ [ub k.pro]) := (he 5 30 (by kernel_rfl) rfl).trans (hR 5 (by kernel_rfl))
        have e33 : a.eval (.tmp 33) = str (toBe 2 (restN k.fr)) := (he 8 33 (by kernel_rfl) rfl).trans (hR 8 (by kernel_rfl))
        refine wp_value (v := _) ?_ (hK _ _ rfl (grown_refl W _))
        simp only [execOp, e30, e33]
        go_simp
        simp [ba_append]
        try (simp [toBe_length] <;> omega)
        try omega
      · intro a vs W hX hR he hf K hK
        rw [if_pos (wanted_none rfl)]
        have e1 : a.eval (.tmp 1) = .pointer (some ⟨w.heap.size, 0, none⟩) := hf 1 (by kernel_rfl)
        refine wp_value (v := .pointer (some ⟨w.heap.size, 35, none⟩)) ?_ (hK _ _ rfl (grown_refl W _))
        simp only [execOp, e1]
        try go_simp
        try (first | rfl | omega | (simp only [IntKind.wrap_i64, IntKind.wrap_u8, IntKind.wrap_u64, IntKind.wrap_u16, IntKind.wrap_u32]; omega) | (rw [Int.tmod_eq_emod_of_nonneg (by omega)]) | (rw [Int.tmod_eq_emod_of_nonneg (by omega)]; omega))
      · intro a vs W hX hR he hf K hK
        rw [if_pos (wanted_none rfl)]
        have e35 : a.eval (.tmp 35) = .pointer (some ⟨w.heap.size, 35, none⟩) := (he 10 35 (by kernel_rfl) rfl).trans (hR 10 (by kernel_rfl))
        have hbW := bthen (below_drew _) (grow_below hX)
        have hc : W.cell? ⟨w.heap.size, 35, none⟩ = some (.int .i64 k.to) := ((HX.out.on hbW).cell 35).trans (HT.out 2)
        refine wp_value (v := _) ?_ (hK _ _ rfl (grown_refl W _))
        simp only [execOp, e35]
        try go_simp
      · intro a vs W hX hR he hf K hK
        rw [if_pos (wanted_none rfl)]
        have e36 : a.eval (.tmp 36) = .int .i64 k.to := (he 11 36 (by kernel_rfl) rfl).trans (hR 11 (by kernel_rfl))
        refine wp_enter (f := 31) (args := #[.int .i64 k.to]) (by simp only [execOp, e36]; go_simp; simpa [Act.eval] using e36) ((two_any k.to W t0 t1).mono ?_)
        rintro e w' ⟨rfl, hb⟩
        exact ⟨_, rfl, hK _ _ rfl (below_grow hb _)⟩
      · intro a vs W hX hR he hf K hK
        rw [if_pos (wanted_none rfl)]
        have e34 : a.eval (.tmp 34) = str (bytesH k ++ [ub k.pro] ++ toBe 2 (restN k.fr)) := (he 9 34 (by kernel_rfl) rfl).trans (hR 9 (by kernel_rfl))
        have e37 : a.eval (.tmp 37) = str (toBe 2 (restN k.to)) := (he 12 37 (by kernel_rfl) rfl).trans (hR 12 (by kernel_rfl))
        refine wp_value (v := _) ?_ (hK _ _ rfl (grown_refl W _))
        simp only [execOp, e34, e37]
        go_simp
        simp [ba_append]
        try (simp [toBe_length] <;> omega)
        try omega
      · intro a vs W hX hR he hf K hK
        rw [if_pos (wanted_none rfl)]
        have e38 : a.eval (.tmp 38) = str (bytesH k ++ [ub k.pro] ++ toBe 2 (restN k.fr) ++ toBe 2 (restN k.to)) := (he 13 38 (by kernel_rfl) rfl).trans (hR 13 (by kernel_rfl))
        refine wp_value (v := str (bytesH k ++ [ub k.pro] ++ toBe 2 (restN k.fr) ++ toBe 2 (restN k.to))) ?_ (hK _ _ rfl (grown_refl W _))
        simp only [execOp, e38]
        try go_simp
        try (first | rfl | omega | (simp only [IntKind.wrap_i64, IntKind.wrap_u8, IntKind.wrap_u64, IntKind.wrap_u16, IntKind.wrap_u32]; omega) | (rw [Int.tmod_eq_emod_of_nonneg (by omega)]) | (rw [Int.tmod_eq_emod_of_nonneg (by omega)]; omega))
      · intro vs w6 hX6 hR
        have q0 := hR 0 (by decide)
        have q1 := hR 1 (by decide)
        have q2 := hR 2 (by decide)
        have q3 := hR 3 (by decide)
        have q4 := hR 4 (by decide)
        have q5 := hR 5 (by decide)
        have q6 := hR 6 (by decide)
        have q7 := hR 7 (by decide)
        have q8 := hR 8 (by decide)
        have q9 := hR 9 (by decide)
        have q10 := hR 10 (by decide)
        have q11 := hR 11 (by decide)
        have q12 := hR 12 (by decide)
        have q13 := hR 13 (by decide)
        have q14 := hR 14 (by decide)
        change vs 0 = str (bytesH k) at q0
        change vs 1 = .pointer (some ⟨w.heap.size, 33, none⟩) at q1
        change vs 2 = .int .u8 k.pro at q2
        change (BsR [ub k.pro]) (vs 3) w6 at q3
        change vs 4 = str [ub k.pro] at q4
        change vs 5 = str (bytesH k ++ [ub k.pro]) at q5
        change vs 6 = .pointer (some ⟨w.heap.size, 34, none⟩) at q6
        change vs 7 = .int .i64 k.fr at q7
        change vs 8 = str (toBe 2 (restN k.fr)) at q8
        change vs 9 = str (bytesH k ++ [ub k.pro] ++ toBe 2 (restN k.fr)) at q9
        change vs 10 = .pointer (some ⟨w.heap.size, 35, none⟩) at q10
        change vs 11 = .int .i64 k.to at q11
        change vs 12 = str (toBe 2 (restN k.to)) at q12
        change vs 13 = str (bytesH k ++ [ub k.pro] ++ toBe 2 (restN k.fr) ++ toBe 2 (restN k.to)) at q13
        change vs 14 = str (bytesH k ++ [ub k.pro] ++ toBe 2 (restN k.fr) ++ toBe 2 (restN k.to)) at q14
        simp only [putAll, Act.put, List.setIfInBounds_toArray, List.set_cons_zero, List.set_cons_succ, q0, q1, q2, q4, q5, q6, q7, q8, q9, q10, q11, q12, q13, q14]
        clear q0 q1 q2 q4 q5 q6 q7 q8 q9 q10 q11 q12 q13 q14
        clear hR
        go_wp2
        go_ret
        exact ⟨by unfold bytesF bytesT; simp, bthen HB3.out (bthen (below_drew _) (grow_below hX6))⟩
  exact hsix _ rfl

end Go.Proofs.Ythjjcglheialfaa

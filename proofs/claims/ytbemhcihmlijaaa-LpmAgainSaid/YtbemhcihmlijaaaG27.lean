/- Texts of this claim put together, in build order: each one's own remark stands ahead of it. -/
import Derived.Test.YtbemhcihmlijaaaG26
import Derived.Deep.DeepCutAuto
import Derived.Test.YtbemhcihmlijaaaG22
/- What the reference's Do (layer 9) computes. No condition but sizes. -/
namespace Go.Proofs.Ytbemhcihmlijaaa
open Go.RowKit
set_option linter.unusedVariables false
set_option maxRecDepth 20000
set_option linter.unusedSimpArgs false

/-- what a step of a script makes of a row, and its code -/
def doR (is six : Bool) (room : Int) (L : List Itm) (kind : Int) (p : Px) (v : Int) : List Itm × Int :=
 if kind = 0 then putR is six room L p v else if kind = 1 then delR is six L p else (L, 0)
set_option maxHeartbeats 4000000 in
theorem rdo_put (is six : Bool) (room : Int) (L : List Itm) (hL : ∀ x ∈ L, x.1.fit) (A : Option Addr) (n c : Nat) (hn : n ≤ 65536) (hc : n ≤ c) (kind : Int) (hkd : kind = 0) (p : Px) (v0 : Int) (hf : p.fit) (w : World) (hr : Row w w.heap.size 19 A n (its L)) :
  Calls Try.prog 18 #[.agg (tC is six room (.slice A n c)).toArray, .int .i64 kind, .agg p.cells.toArray, .int .i64 v0] w fun e w' => ∃ A' n' c', e = .returned (.tuple #[.agg (tC is six room (.slice A' n' c')).toArray, .int .i64 (doR is six room L kind p v0).2]) ∧ Row w' w'.heap.size 19 A' n' (its (doR is six room L kind p v0).1) ∧ n' ≤ c' ∧ Below w.heap.size w w' ∧ NewA w A n A' n' := by
 have HF := Lib.hid hf
 have HL := Lib.hid hL
 have HR := Lib.hid hr
 have HC := Lib.hid (show doR is six room L kind p v0 = putR is six room L p v0 by unfold doR; rw [if_pos hkd])
 subst hkd
 clear hf hL hr
 go_enter Try.func18, Try.ntmps18
 go_upto_region 1 with (first
  | (refine wpList_box_blk (by rfl) 47 (.tmp 0) rfl (tC is six room (.slice A n c)) rfl ?_; intro w1 hb1 hB1 hs1; clear hs1)
  | (refine wpList_box_blk (by rfl) 30 (.tmp 2) rfl p.cells rfl ?_; intro w2 hb2 hB2 hs2; clear hs2)
  | (refine wpList_alloc_blk (by rfl) 47 rfl tZ zeroT ?_; intro w3 hb3 hB3 hs3; clear hs3))
 obtain ⟨g0, hg0⟩ : ∃ g, w.heap.size = g := ⟨_, rfl⟩
 obtain ⟨g1, hg1⟩ : ∃ g, w1.heap.size = g := ⟨_, rfl⟩
 obtain ⟨g2, hg2⟩ : ∃ g, w2.heap.size = g := ⟨_, rfl⟩
 have hk0 := (hb1.on hB2).on hB3
 have hk1 := hb2.on hB3
 have HW := Lib.hid (bthen (bthen hB1 hB2) hB3)
 have HLE := Lib.hid (show w.heap.size ≤ g2 by have := (bthen hB1 hB2).size; omega)
 rw [hg0] at hk0
 rw [hg1] at hk1
 rw [hg2] at hb3
 try rw [hg0]
 try rw [hg1]
 try rw [hg2]
 have HT := Lib.hid hk0
 have HP := Lib.hid hk1
 have HD := Lib.hid hb3
 have HRW := Lib.hid ((HR.out.below HW.out).more HW.out.size)
 clear hb1 hB1 hb2 hB2 hb3 hB3 hk0 hk1 hg0 hg1 hg2
 go_wp2_with (first
  | (refine wpList_value (by rfl) (exec_load 47 _ rfl g0 (by rfl) 47 (tC is six room (.slice A n c)) _ HT.out Try.underlying47 rfl (sizeT _ _ _ _)) ?_)
  | (refine wpList_value (by rfl) (exec_load 30 _ rfl g1 (by rfl) 30 p.cells _ HP.out Try.underlying30 rfl (sizePx _ HF.out.addr)) ?_))
 refine (rput_any is six room L HL.out A n c hn hc p v0 HF.out w3 HRW.out).mono ?_
 rintro e w4 ⟨A', n', c', rfl, hrow, hc', hb, hnew⟩
 have HD4 := Lib.hid (HD.out.on hb)
 have HROW := Lib.hid hrow
 have HNEW := Lib.hid hnew
 have HW4 := Lib.hid (bthen HW.out hb)
 have HSZ := Lib.hid HW.out.size
 clear hb hrow hnew
 go_wp2_with (refine wpList_store_all (by rfl) 47 _ _ rfl g2 (tC is six room (.slice A' n' c')) rfl rfl 47 _ HD4.out (sizeT _ _ _ _) rfl (oneTs _ _ _ _ _ _) ?_; intro w5 hb5 hg5 hs5)
 have hB5 : Below w.heap.size w w5 := bgrown HW4.out hg5 HW4.out.size HLE.out
 have hne : ∀ b o, A' = some ⟨b, o, none⟩ → 0 < n' → b ≠ g2 := by
  intro b o h0 hp e
  subst e
  rcases HNEW.out hp with ⟨h1, h1n⟩ | ⟨x, h1, h2⟩
  ·rw [h0] at h1
   obtain ⟨b9, o9, h9, h10, _⟩ := HR.out.2 (by omega)
   rw [← h1] at h9
   injection h9 with h9
   injection h9 with h9
   have := HLE.out
   omega
  ·rw [h0] at h1
   injection h1 with h1
   subst h1
   have := HD.out.lt
   simp only at h2
   omega
 refine bodyPost_ret (results_cell2 rfl _ _ g2 _ _ _ rfl hb5 Try.underlying47 rfl (sizeT _ _ _ _)) rfl ⟨A', n', c', by rw [HC.out]; rfl, ?_, hc', hB5, ?_⟩
 ·rw [HC.out]
  refine ⟨HROW.out.1, fun hp => ?_⟩
  obtain ⟨b, o, h0, h1, h2⟩ := HROW.out.2 hp
  refine ⟨b, o, h0, Nat.lt_of_lt_of_le h1 hg5.size, fun j u hu => ?_⟩
  rw [← h2 j u hu]
  unfold World.cell?
  rw [hg5.block b h1 (fun e => hne b o h0 hp (by injection e))]
 ·intro hp
  rcases HNEW.out hp with h | ⟨x, h1, h2⟩
  ·exact .inl h
  ·exact .inr ⟨x, h1, Nat.le_trans HSZ.out h2⟩
set_option maxHeartbeats 4000000 in
theorem rdo_del (is six : Bool) (room : Int) (L : List Itm) (hL : ∀ x ∈ L, x.1.fit) (A : Option Addr) (n c : Nat) (hn : n ≤ 65536) (hc : n ≤ c) (kind : Int) (hkd : kind = 1) (p : Px) (v0 : Int) (hf : p.fit) (w : World) (hr : Row w w.heap.size 19 A n (its L)) :
  Calls Try.prog 18 #[.agg (tC is six room (.slice A n c)).toArray, .int .i64 kind, .agg p.cells.toArray, .int .i64 v0] w fun e w' => ∃ A' n' c', e = .returned (.tuple #[.agg (tC is six room (.slice A' n' c')).toArray, .int .i64 (doR is six room L kind p v0).2]) ∧ Row w' w'.heap.size 19 A' n' (its (doR is six room L kind p v0).1) ∧ n' ≤ c' ∧ Below w.heap.size w w' ∧ NewA w A n A' n' := by
 have HF := Lib.hid hf
 have HL := Lib.hid hL
 have HR := Lib.hid hr
 have HC := Lib.hid (show doR is six room L kind p v0 = delR is six L p by subst hkd; rfl)
 subst hkd
 clear hf hL hr
 go_enter Try.func18, Try.ntmps18
 go_upto_region 1 with (first
  | (refine wpList_box_blk (by rfl) 47 (.tmp 0) rfl (tC is six room (.slice A n c)) rfl ?_; intro w1 hb1 hB1 hs1; clear hs1)
  | (refine wpList_box_blk (by rfl) 30 (.tmp 2) rfl p.cells rfl ?_; intro w2 hb2 hB2 hs2; clear hs2)
  | (refine wpList_alloc_blk (by rfl) 47 rfl tZ zeroT ?_; intro w3 hb3 hB3 hs3; clear hs3))
 obtain ⟨g0, hg0⟩ : ∃ g, w.heap.size = g := ⟨_, rfl⟩
 obtain ⟨g1, hg1⟩ : ∃ g, w1.heap.size = g := ⟨_, rfl⟩
 obtain ⟨g2, hg2⟩ : ∃ g, w2.heap.size = g := ⟨_, rfl⟩
 have hk0 := (hb1.on hB2).on hB3
 have hk1 := hb2.on hB3
 have HW := Lib.hid (bthen (bthen hB1 hB2) hB3)
 have HLE := Lib.hid (show w.heap.size ≤ g2 by have := (bthen hB1 hB2).size; omega)
 rw [hg0] at hk0
 rw [hg1] at hk1
 rw [hg2] at hb3
 try rw [hg0]
 try rw [hg1]
 try rw [hg2]
 have HT := Lib.hid hk0
 have HP := Lib.hid hk1
 have HD := Lib.hid hb3
 have HRW := Lib.hid ((HR.out.below HW.out).more HW.out.size)
 clear hb1 hB1 hb2 hB2 hb3 hB3 hk0 hk1 hg0 hg1 hg2
 go_wp2_with (first
  | (refine wpList_value (by rfl) (exec_load 47 _ rfl g0 (by rfl) 47 (tC is six room (.slice A n c)) _ HT.out Try.underlying47 rfl (sizeT _ _ _ _)) ?_)
  | (refine wpList_value (by rfl) (exec_load 30 _ rfl g1 (by rfl) 30 p.cells _ HP.out Try.underlying30 rfl (sizePx _ HF.out.addr)) ?_))
 refine (rdelete_any is six room L HL.out A n c hn hc p HF.out w3 HRW.out).mono ?_
 rintro e w4 ⟨A', n', c', rfl, hrow, hc', hb, hnew⟩
 have HD4 := Lib.hid (HD.out.on hb)
 have HROW := Lib.hid hrow
 have HNEW := Lib.hid hnew
 have HW4 := Lib.hid (bthen HW.out hb)
 have HSZ := Lib.hid HW.out.size
 clear hb hrow hnew
 go_wp2_with (refine wpList_store_all (by rfl) 47 _ _ rfl g2 (tC is six room (.slice A' n' c')) rfl rfl 47 _ HD4.out (sizeT _ _ _ _) rfl (oneTs _ _ _ _ _ _) ?_; intro w5 hb5 hg5 hs5)
 have hB5 : Below w.heap.size w w5 := bgrown HW4.out hg5 HW4.out.size HLE.out
 have hne : ∀ b o, A' = some ⟨b, o, none⟩ → 0 < n' → b ≠ g2 := by
  intro b o h0 hp e
  subst e
  rcases HNEW.out hp with ⟨h1, h1n⟩ | ⟨x, h1, h2⟩
  ·rw [h0] at h1
   obtain ⟨b9, o9, h9, h10, _⟩ := HR.out.2 (by omega)
   rw [← h1] at h9
   injection h9 with h9
   injection h9 with h9
   have := HLE.out
   omega
  ·rw [h0] at h1
   injection h1 with h1
   subst h1
   have := HD.out.lt
   simp only at h2
   omega
 refine bodyPost_ret (results_cell2 rfl _ _ g2 _ _ _ rfl hb5 Try.underlying47 rfl (sizeT _ _ _ _)) rfl ⟨A', n', c', by rw [HC.out]; rfl, ?_, hc', hB5, ?_⟩
 ·rw [HC.out]
  refine ⟨HROW.out.1, fun hp => ?_⟩
  obtain ⟨b, o, h0, h1, h2⟩ := HROW.out.2 hp
  refine ⟨b, o, h0, Nat.lt_of_lt_of_le h1 hg5.size, fun j u hu => ?_⟩
  rw [← h2 j u hu]
  unfold World.cell?
  rw [hg5.block b h1 (fun e => hne b o h0 hp (by injection e))]
 ·intro hp
  rcases HNEW.out hp with h | ⟨x, h1, h2⟩
  ·exact .inl h
  ·exact .inr ⟨x, h1, Nat.le_trans HSZ.out h2⟩
set_option maxHeartbeats 4000000 in
theorem rdo_none (is six : Bool) (room : Int) (L : List Itm) (hL : ∀ x ∈ L, x.1.fit) (A : Option Addr) (n c : Nat) (hn : n ≤ 65536) (hc : n ≤ c) (kind : Int) (hkd : ¬ kind = 0 ∧ ¬ kind = 1) (p : Px) (v0 : Int) (hf : p.fit) (w : World) (hr : Row w w.heap.size 19 A n (its L)) :
  Calls Try.prog 18 #[.agg (tC is six room (.slice A n c)).toArray, .int .i64 kind, .agg p.cells.toArray, .int .i64 v0] w fun e w' => ∃ A' n' c', e = .returned (.tuple #[.agg (tC is six room (.slice A' n' c')).toArray, .int .i64 (doR is six room L kind p v0).2]) ∧ Row w' w'.heap.size 19 A' n' (its (doR is six room L kind p v0).1) ∧ n' ≤ c' ∧ Below w.heap.size w w' ∧ NewA w A n A' n' := by
 have HF := Lib.hid hf
 have HL := Lib.hid hL
 have HR := Lib.hid hr
 have HC := Lib.hid (show doR is six room L kind p v0 = (L, 0) by unfold doR; rw [if_neg hkd.1, if_neg hkd.2])
 obtain ⟨hk0', hk1'⟩ := hkd
 clear hf hL hr
 go_enter Try.func18, Try.ntmps18
 go_upto_region 1 with (first
  | (refine wpList_box_blk (by rfl) 47 (.tmp 0) rfl (tC is six room (.slice A n c)) rfl ?_; intro w1 hb1 hB1 hs1; clear hs1)
  | (refine wpList_box_blk (by rfl) 30 (.tmp 2) rfl p.cells rfl ?_; intro w2 hb2 hB2 hs2; clear hs2)
  | (refine wpList_alloc_blk (by rfl) 47 rfl tZ zeroT ?_; intro w3 hb3 hB3 hs3; clear hs3))
 obtain ⟨g0, hg0⟩ : ∃ g, w.heap.size = g := ⟨_, rfl⟩
 obtain ⟨g1, hg1⟩ : ∃ g, w1.heap.size = g := ⟨_, rfl⟩
 obtain ⟨g2, hg2⟩ : ∃ g, w2.heap.size = g := ⟨_, rfl⟩
 have hk0 := (hb1.on hB2).on hB3
 have hk1 := hb2.on hB3
 have HW := Lib.hid (bthen (bthen hB1 hB2) hB3)
 have HLE := Lib.hid (show w.heap.size ≤ g2 by have := (bthen hB1 hB2).size; omega)
 rw [hg0] at hk0
 rw [hg1] at hk1
 rw [hg2] at hb3
 try rw [hg0]
 try rw [hg1]
 try rw [hg2]
 have HT := Lib.hid hk0
 have HP := Lib.hid hk1
 have HD := Lib.hid hb3
 have HRW := Lib.hid ((HR.out.below HW.out).more HW.out.size)
 clear hb1 hB1 hb2 hB2 hb3 hB3 hk0 hk1 hg0 hg1 hg2
 go_wp2_with (first
  | (refine wpList_value (by rfl) (exec_load 47 _ rfl g0 (by rfl) 47 (tC is six room (.slice A n c)) _ HT.out Try.underlying47 rfl (sizeT _ _ _ _)) ?_)
  | (refine wpList_value (by rfl) (exec_load 30 _ rfl g1 (by rfl) 30 p.cells _ HP.out Try.underlying30 rfl (sizePx _ HF.out.addr)) ?_)
  | (refine wpList_store_all (by rfl) 47 _ _ rfl g2 (tC is six room (.slice A n c)) rfl rfl 47 _ HD.out (sizeT _ _ _ _) rfl (oneTs _ _ _ _ _ _) ?_; intro w5 hb5 hg5 hs5))
 have hB5 : Below w.heap.size w w5 := bgrown HW.out hg5 HW.out.size HLE.out
 refine bodyPost_ret (results_cell2 rfl _ _ g2 _ _ _ rfl hb5 Try.underlying47 rfl (sizeT _ _ _ _)) rfl ⟨A, n, c, by rw [HC.out]; rfl, ?_, hc, hB5, fun _ => .inl ⟨rfl, Nat.le_refl _⟩⟩
 rw [HC.out]
 exact (HR.out.below hB5).more hB5.size
theorem rdo_any (is six : Bool) (room : Int) (L : List Itm) (hL : ∀ x ∈ L, x.1.fit) (A : Option Addr) (n c : Nat) (hn : n ≤ 65536) (hc : n ≤ c) (kind : Int) (p : Px) (v0 : Int) (hf : p.fit) (w : World) (hr : Row w w.heap.size 19 A n (its L)) :
  Calls Try.prog 18 #[.agg (tC is six room (.slice A n c)).toArray, .int .i64 kind, .agg p.cells.toArray, .int .i64 v0] w fun e w' => ∃ A' n' c', e = .returned (.tuple #[.agg (tC is six room (.slice A' n' c')).toArray, .int .i64 (doR is six room L kind p v0).2]) ∧ Row w' w'.heap.size 19 A' n' (its (doR is six room L kind p v0).1) ∧ n' ≤ c' ∧ Below w.heap.size w w' ∧ NewA w A n A' n' := by
 by_cases h0 : kind = 0
 ·exact rdo_put is six room L hL A n c hn hc kind h0 p v0 hf w hr
 ·by_cases h1 : kind = 1
  ·exact rdo_del is six room L hL A n c hn hc kind h1 p v0 hf w hr
  ·exact rdo_none is six room L hL A n c hn hc kind ⟨h0, h1⟩ p v0 hf w hr
end Go.Proofs.Ytbemhcihmlijaaa

/- The table of layer 9 and its reference side by side: what each method answers, by the reference's row. No condition but sizes. -/
namespace Go.Proofs.Ytbemhcihmlijaaa
open Go.RowKit
set_option linter.unusedVariables false
set_option linter.unusedSimpArgs false
set_option maxRecDepth 20000

/-! the reference's answers are the tree's -/
theorem okR_T (six : Bool) (p : Px) : okR true six p = okT six p := by
 unfold okR okT
 rw [Bool.true_and, show (p.six == six) = decide (p.six = six) from by cases p.six <;> cases six <;> rfl]
theorem putR_ans {six : Bool} {room : Int} {L : List Itm} (h : Lok six L) {p : Px} (hf : p.addr.length = 16) (v : Int) : putR true six room L p v = ansP six room L p v := by
 unfold putR ansP
 rw [okR_T]
 by_cases ho : okT six p = true
 ·rw [if_pos ho, if_pos ho]
  obtain ⟨g, h6⟩ := (okT_iff hf).1 ho
  rw [hasC_same h hf h6, putC_same h hf h6]
 ·rw [if_neg ho, if_neg ho]
theorem delR_ans {six : Bool} {L : List Itm} (h : Lok six L) {p : Px} (hf : p.addr.length = 16) : delR true six L p = ansD six L p := by
 unfold delR ansD
 rw [okR_T]
 by_cases ho : okT six p = true
 ·rw [if_pos ho, if_pos ho]
  obtain ⟨g, h6⟩ := (okT_iff hf).1 ho
  rw [hasC_same h hf h6, delC_same h hf h6]
 ·rw [if_neg ho, if_neg ho]
theorem getC_ans {six : Bool} {L : List Itm} (h : Lok six L) {p : Px} (hf : p.addr.length = 16) : (getC L p, hasC L p) = ansG six L p := by
 unfold ansG
 by_cases ho : okT six p = true
 ·rw [if_pos ho]
  obtain ⟨g, h6⟩ := (okT_iff hf).1 ho
  rw [getC_same h hf h6]
 ·rw [if_neg ho]
  have hb := hasC_bad h (p := p) (fun e => ho ((okT_iff hf).2 e))
  rw [hb, hasC_none hb]
theorem lookC_ans (L : List Itm) (a : List UInt8) : ansL' L a = ansL L a := rfl
theorem all_ids (t : Tr) : t.all.length ≤ t.ids.length := by
 induction t with
 | nil => exact Nat.le_refl _
 | node n p is v l r ihl ihr =>
  unfold Tr.all Tr.ids
  cases is <;> simp <;> omega

/-! tables by their rows -/
/-- the blocks S, and those that came between two worlds -/
def ext (S : Nat → Prop) (w w' : World) (b : Nat) : Prop := S b ∨ (w.heap.size ≤ b ∧ b < w'.heap.size)
def ptV : Option Nat → Value
 | none => .pointer none
 | some g => .pointer (some ⟨g, 0, none⟩)
/-- a table (or none), the blocks that it may have, and its row -/
def TabO (w : World) (S : Nat → Prop) (o : Option Nat) (is six : Bool) (room : Int) (L : List Itm) (K : Nat) : Prop :=
 match o with
 | none => is = false ∧ L = []
 | some g => is = true ∧ ∃ t A c Af cf, Tab w g t A c Af cf ∧ TbOk t L ∧ t.six = six ∧ t.room = room ∧ t.N.length ≤ K ∧ ∀ b, own3 g A c Af cf b → S b
section
variable {w w' : World} {S : Nat → Prop} {o : Option Nat} {is six : Bool} {room : Int} {L : List Itm} {K : Nat}
theorem TabO.on (h : TabO w S o is six room L K) (hb : Below w.heap.size w w') : TabO w' S o is six room L K := by
 cases o with
 | none => exact h
 | some g =>
  obtain ⟨h1, t, A, c, Af, cf, h2, h3⟩ := h
  exact ⟨h1, t, A, c, Af, cf, h2.on hb, h3⟩
theorem TabO.kept {T : Nat → Prop} (h : TabO w S o is six room L K) (hk : Kept T w w') (hd : ∀ b, S b → ¬ T b) : TabO w' S o is six room L K := by
 cases o with
 | none => exact h
 | some g =>
  obtain ⟨h1, t, A, c, Af, cf, h2, h3, h4, h5, h6, h7⟩ := h
  exact ⟨h1, t, A, c, Af, cf, h2.kept hk (fun b hb => hd b (h7 b hb)), h3, h4, h5, h6, h7⟩
theorem TabO.mono {S' : Nat → Prop} {K' : Nat} (h : TabO w S o is six room L K) (hs : ∀ b, b < w.heap.size → S b → S' b) (hK : K ≤ K') : TabO w S' o is six room L K' := by
 cases o with
 | none => exact h
 | some g =>
  obtain ⟨h1, t, A, c, Af, cf, h2, h3, h4, h5, h6, h7⟩ := h
  exact ⟨h1, t, A, c, Af, cf, h2, h3, h4, h5, Nat.le_trans h6 hK, fun b hb => hs b (h2.lt b hb) (h7 b hb)⟩
theorem TabO.lok (h : TabO w S o is six room L K) : Lok six L := by
 cases o with
 | none => rw [h.2]; exact Lok.nil _
 | some g =>
  obtain ⟨h1, t, A, c, Af, cf, h2, h3, h4, _⟩ := h
  rw [← h4]; exact h3.lok
theorem TabO.fit (h : TabO w S o is six room L K) : ∀ x ∈ L, x.1.fit := fun x hx => (h.lok.good x hx).fit
theorem TabO.len (h : TabO w S o is six room L K) : L.length ≤ K := by
 cases o with
 | none => rw [h.2]; exact Nat.zero_le _
 | some g =>
  obtain ⟨h1, t, A, c, Af, cf, h2, h3, h4, _, h6, _⟩ := h
  obtain ⟨tr, _, hp, hr⟩ := h3.tree
  have e1 := hr.len
  have e2 := all_ids tr
  have e3 := hp.flen
  omega
theorem tput_O (h : TabO w S o is six room L K) (hK : K ≤ 999990) (p : Px) (hf : p.fit) (v : Int) :
  Calls Try.prog 11 #[ptV o, .agg p.cells.toArray, .int .i64 v] w fun e w' => e = .returned (.int .i64 (putR is six room L p v).2) ∧ TabO w' (ext S w w') o is six room (putR is six room L p v).1 (K + 2) ∧ Kept S w w' := by
 have hl := h.len
 have hlk := h.lok
 cases o with
 | none =>
  obtain ⟨rfl, rfl⟩ := h
  refine (tput_nil p hf v w).mono ?_
  rintro e w' ⟨rfl, hb⟩
  exact ⟨rfl, ⟨rfl, rfl⟩, Kept.of_below hb⟩
 | some g =>
  obtain ⟨rfl, t, A, c, Af, cf, h2, h3, rfl, rfl, h6, h7⟩ := h
  obtain ⟨F, t', e, hok, e6, er, eN⟩ := h3.put p hf.addr v (by omega)
  rw [putR_ans hlk hf.addr]
  have hc := h3.count
  refine (tput_any w g t A Af c cf h2 ⟨by omega, by omega⟩ p hf v F _ t' e).mono ?_
  rintro e w' ⟨A', c', Af', cf', rfl, h9, h10, h11⟩
  refine ⟨rfl, ⟨rfl, t', A', c', Af', cf', h9, hok, e6, er, by omega, fun b hb => ?_⟩, ⟨h10.os, h10.tape, h10.output, h10.size, fun k hk hs => h10.block k hk (fun hm => hs (h7 k hm))⟩⟩
  rcases h11 b hb with h12 | h12
  ·exact .inl (h7 b h12)
  ·exact .inr ⟨h12, h9.lt b hb⟩
theorem tdel_O (h : TabO w S o is six room L K) (hK : K ≤ 999990) (p : Px) (hf : p.fit) :
  Calls Try.prog 17 #[ptV o, .agg p.cells.toArray] w fun e w' => e = .returned (.int .i64 (delR is six L p).2) ∧ TabO w' (ext S w w') o is six room (delR is six L p).1 K ∧ Kept S w w' := by
 have hl := h.len
 have hlk := h.lok
 cases o with
 | none =>
  obtain ⟨rfl, rfl⟩ := h
  refine (tdelete_nil p hf w).mono ?_
  rintro e w' ⟨rfl, hb⟩
  exact ⟨rfl, ⟨rfl, rfl⟩, Kept.of_below hb⟩
 | some g =>
  obtain ⟨rfl, t, A, c, Af, cf, h2, h3, rfl, rfl, h6, h7⟩ := h
  obtain ⟨F, t', e, hok, e6, er, eN⟩ := h3.del p hf.addr (by omega)
  rw [delR_ans hlk hf.addr]
  have hc := h3.count
  refine (tdelete_any w g t A Af c cf h2 ⟨by omega, by omega⟩ p hf F _ t' e).mono ?_
  rintro e w' ⟨A', c', Af', cf', rfl, h9, h10, h11⟩
  refine ⟨rfl, ⟨rfl, t', A', c', Af', cf', h9, hok, e6, er, by omega, fun b hb => ?_⟩, ⟨h10.os, h10.tape, h10.output, h10.size, fun k hk hs => h10.block k hk (fun hm => hs (h7 k hm))⟩⟩
  rcases h11 b hb with h12 | h12
  ·exact .inl (h7 b h12)
  ·exact .inr ⟨h12, h9.lt b hb⟩
theorem tget_O (h : TabO w S o is six room L K) (p : Px) (hf : p.fit) :
  Calls Try.prog 10 #[ptV o, .agg p.cells.toArray] w fun e w' => e = .returned (.tuple #[.int .i64 (getC L p), .bool (hasC L p)]) ∧ Below w.heap.size w w' := by
 have hlk := h.lok
 cases o with
 | none =>
  obtain ⟨rfl, rfl⟩ := h
  exact tget_nil p hf w
 | some g =>
  obtain ⟨rfl, t, A, c, Af, cf, h2, h3, rfl, rfl, h6, h7⟩ := h
  obtain ⟨F, e⟩ := h3.get' p hf.addr
  have ha := getC_ans hlk hf.addr
  exact tget_any w g t A Af c cf h2 p hf F (getC L p) (hasC L p) (by rw [e, ← ha])
theorem tlook_O (h : TabO w S o is six room L K) (ad : List UInt8) (ha : ad.length = 16) :
  Calls Try.prog 14 #[ptV o, .agg (bv ad).toArray] w fun e w' => e = .returned (.tuple #[.agg (itC (ansL' L ad).1).toArray, .bool (ansL' L ad).2]) ∧ Below w.heap.size w w' := by
 cases o with
 | none =>
  obtain ⟨rfl, rfl⟩ := h
  exact tlook_nil ad ha w
 | some g =>
  obtain ⟨rfl, t, A, c, Af, cf, h2, h3, rfl, rfl, h6, h7⟩ := h
  obtain ⟨F, e⟩ := h3.look ad ha
  exact tlook_any w g t A Af c cf h2 ad ha F _ _ e
theorem tlen_O (h : TabO w S o is six room L K) : Calls Try.prog 21 #[ptV o] w fun e w' => e = .returned (.int .i64 (L.length : Int)) ∧ w = w' := by
 cases o with
 | none =>
  obtain ⟨rfl, rfl⟩ := h
  exact tlen_nil w
 | some g =>
  obtain ⟨rfl, t, A, c, Af, cf, h2, h3, rfl, rfl, h6, h7⟩ := h
  rw [← h3.count]
  exact tlen_any w g t A Af c cf h2
theorem tall_O (h : TabO w S o is six room L K) (hK : K ≤ 999990) :
  Calls Try.prog 12 #[ptV o] w fun e w' => ∃ A' c', e = .returned (.slice A' L.length c') ∧ Own w' w.heap.size 38 19 A' L.length c' (its L) ∧ Below w.heap.size w w' := by
 have hl := h.len
 cases o with
 | none =>
  obtain ⟨rfl, rfl⟩ := h
  refine (tall_nil w).mono ?_
  rintro e w' ⟨rfl, rfl⟩
  exact ⟨none, 0, rfl, Own.nil _ _ _ _ _, Below.refl _ _⟩
 | some g =>
  obtain ⟨rfl, t, A, c, Af, cf, h2, h3, rfl, rfl, h6, h7⟩ := h
  obtain ⟨F, e⟩ := h3.all
  exact tall_any w g t A Af c cf h2 F L e (by omega)
end
theorem tnew_O (six : Bool) (room : Int) (w : World) :
  Calls Try.prog 9 #[.bool six, .int .i64 room] w fun e w' => ∃ o, e = .returned (ptV o) ∧ (o = none ↔ (room < 1 ∨ 65536 < room)) ∧ TabO w' (ext (fun _ => False) w w') o (!o.isNone) six room [] 1 ∧ Below w.heap.size w w' := by
 by_cases h : room < 1 ∨ 65536 < room
 ·refine (tnew_nil six room h w).mono ?_
  rintro e w' ⟨rfl, hb⟩
  exact ⟨none, rfl, ⟨fun _ => h, fun _ => rfl⟩, ⟨rfl, rfl⟩, hb⟩
 ·refine (tnew_any six room (fun e => h (.inl e)) (fun e => h (.inr e)) w).mono ?_
  rintro e w' ⟨g, A, c, rfl, hT, hb, ho⟩
  exact ⟨some g, rfl, ⟨(fun e => by cases e), fun e => absurd e h⟩, ⟨rfl, _, A, c, none, 0, hT, TbOk.new six room, rfl, rfl, Nat.le_refl _, fun b hb' => .inr ⟨ho b hb', hT.lt b hb'⟩⟩, hb⟩
end Go.Proofs.Ytbemhcihmlijaaa


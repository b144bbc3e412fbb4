/- Texts of this claim put together, in build order: each one's own remark stands ahead of it. -/
import Derived.Test.YtdmgomknamdcfaaG02
import Derived.Test.YtdmgomknamdcfaaG33
import Derived.Test.YtdmgomknamdcfaaG27
import Derived.Deep.DeepCutAuto
/- What the reference's New, Put, Delete, Get and Look of both kinds compute. No condition but sizes. -/
namespace Go.Proofs.Ytdmgomknamdcfaa
open Go.RowKit
set_option linter.unusedVariables false
set_option maxRecDepth 20000
set_option linter.unusedSimpArgs false

/-- a row of each kind, as the reference has it: its table's cells -/
structure Rf where
 is : Bool
 s : Bool → Bool
 r : Bool → Int
 A : Bool → Option Addr
 n : Bool → Nat
 c : Bool → Nat
def Rf.row (F : Rf) (b : Bool) : Value := .slice (F.A b) (F.n b) (F.c b)
def Rf.T (F : Rf) (b : Bool) : List Value := tC F.is (F.s b) (F.r b) (F.row b)
def Rf.cells (F : Rf) : List Value := F.T false ++ F.T true
/-- the row of one kind is another one -/
def Rf.set (F : Rf) (b : Bool) (A : Option Addr) (n c : Nat) : Rf := ⟨F.is, F.s, F.r, fun k => if k = b then A else F.A k, fun k => if k = b then n else F.n k, fun k => if k = b then c else F.c k⟩
theorem Rf.len (F : Rf) : F.cells.length = 8 := rfl
theorem Rf.size (F : Rf) : (Try.prog.info? 52).map (·.size) = some F.cells.length := by rw [F.len]; kernel_rfl
theorem Rf.one (F : Rf) : ∀ v ∈ F.cells, v.oneCell' = true := by
 intro v hv
 rcases List.mem_append.1 hv with h | h
 ·exact oneTs _ _ _ _ _ _ v h
 exact oneTs _ _ _ _ _ _ v h
def Rf.zero : Rf := ⟨false, fun _ => false, fun _ => 0, fun _ => none, fun _ => 0, fun _ => 0⟩
theorem zeroF (w : World) : (zeroValue 52).run Try.prog w = .ok (.agg Rf.zero.cells.toArray) w := by kernel_rfl
theorem Rf.range4 {w : World} {g : Nat} {t : TypeId} {F : Rf} (h : Blk w g t F.cells) : w.rangeAt g 0 (F.T false) := by
 have hr := h.range 0 4
 exact hr
theorem Rf.range6 {w : World} {g : Nat} {t : TypeId} {F : Rf} (h : Blk w g t F.cells) : w.rangeAt g 4 (F.T true) := by
 have hr := h.range 4 4
 exact hr
theorem Rf.set4 (F : Rf) (A : Option Addr) (n c : Nat) : F.cells.take 0 ++ tC F.is (F.s false) (F.r false) (.slice A n c) ++ F.cells.drop (0 + (tC F.is (F.s false) (F.r false) (.slice A n c)).length) = (F.set false A n c).cells := rfl
theorem Rf.set6 (F : Rf) (A : Option Addr) (n c : Nat) : F.cells.take 4 ++ tC F.is (F.s true) (F.r true) (.slice A n c) ++ F.cells.drop (4 + (tC F.is (F.s true) (F.r true) (.slice A n c)).length) = (F.set true A n c).cells := rfl
theorem run_buildF (x y : List Value) (hx : x.length = 4) (hy : y.length = 4) (w : World) : (Instr.build 52 #[(0, .agg x.toArray), (1, .agg y.toArray)]).run Try.prog w = .ok (.agg (x ++ y).toArray) w := by
 obtain ⟨a0, a1, a2, a3, rfl⟩ : ∃ a b c d, x = [a, b, c, d] := by
  match x, hx with
  | [a, b, c, d], _ => exact ⟨a, b, c, d, rfl⟩
 obtain ⟨b0, b1, b2, b3, rfl⟩ : ∃ a b c d, y = [a, b, c, d] := by
  match y, hy with
  | [a, b, c, d], _ => exact ⟨a, b, c, d, rfl⟩
 kernel_rfl
theorem exec_buildF {w : World} {o : Oper} {q : Act} (x0 x1 : Operand) (ho : o.op = .build 52 #[(0, x0), (1, x1)]) (x y : List Value) (hx : x.length = 4) (hy : y.length = 4) (h0 : q.eval x0 = .agg x.toArray) (h1 : q.eval x1 = .agg y.toArray) :
  (execOp q.eval o).run Try.prog w = .ok (.value (.agg (x ++ y).toArray)) w := by
 unfold execOp
 simp only [ho, List.map_toArray, List.map_cons, List.map_nil, h0, h1, Sem.run_bind, run_buildF x y hx hy, Result.andThen_ok]
 rfl
theorem newR_len (six : Bool) (room : Int) : (newR six room).length = 4 := by unfold newR; split <;> rfl
theorem newR_one (six : Bool) (room : Int) : ∀ v ∈ newR six room, v.oneCell' = true := by
 unfold newR
 split
 ·exact oneTs _ _ _ _ _ _
 exact oneTs _ _ _ _ _ _
set_option maxHeartbeats 2000000 in
theorem rnew10_any (room : Int) (w : World) :
  Calls Try.prog 19 #[.int .i64 room] w fun e w' => e = .returned (.agg (newR false room ++ newR true room).toArray) ∧ Below w.heap.size w w' := by
 go_enter Try.func19, Try.ntmps19
 go_upto_region 1 with (refine wpList_alloc_blk (by rfl) 52 rfl Rf.zero.cells zeroF ?_; intro w1 hb1 hB1 hs1; clear hs1)
 obtain ⟨g2, hg2⟩ : ∃ g, w.heap.size = g := ⟨_, rfl⟩
 have HG2 := Hh (show w.heap.size ≤ g2 by omega)
 have HW := Hh hB1
 rw [hg2] at hb1
 try rw [hg2]
 have H2 := Hh hb1
 clear hb1 hB1 hg2
 go_wp2_with fail
 refine (rnew_any false room w1).mono ?_
 rintro e w2 ⟨rfl, hb⟩
 replace HW := Hh (bthen HW.out hb)
 replace H2 := Hh (H2.out.on hb)
 clear hb
 go_wp2_with fail
 refine (rnew_any true room w2).mono ?_
 rintro e w3 ⟨rfl, hb⟩
 replace HW := Hh (bthen HW.out hb)
 replace H2 := Hh (H2.out.on hb)
 clear hb
 have hl : (newR false room ++ newR true room).length = 8 := by rw [List.length_append, newR_len, newR_len]
 have HL := Hh hl
 have HO := Hh (show ∀ v ∈ newR false room ++ newR true room, v.oneCell' = true from fun v hv => (List.mem_append.1 hv).elim (newR_one _ _ v) (newR_one _ _ v))
 clear hl
 go_wp2_with (first
  | (refine wpList_value (by rfl) (exec_buildF _ _ rfl (newR false room) (newR true room) (newR_len _ _) (newR_len _ _) rfl rfl) ?_)
  | (refine wpList_store_all (by rfl) 52 _ _ rfl g2 (newR false room ++ newR true room) rfl rfl 52 _ H2.out (by rw [HL.out]; kernel_rfl) (by rw [HL.out]; rfl) HO.out ?_; intro w5 hb5 hg5 hs5))
 have hB5 : Below w.heap.size w w5 := bgrown HW.out hg5 HW.out.size HG2.out
 exact bodyPost_ret (results_cell1 rfl _ _ g2 _ _ _ rfl hb5 Try.underlying52 rfl (by rw [HL.out]; kernel_rfl)) rfl ⟨rfl, hB5⟩
theorem row_lt9 {w : World} {A : Option Addr} {n : Nat} {L : List Itm} (h : Row w w.heap.size 19 A n (its L)) (hn : 0 < n) (x : Addr) (hx : A = some x) : x.block < w.heap.size := by
 obtain ⟨b, o, rfl, hb, _⟩ := h.cells hn
 injection hx with hx
 subst hx
 exact hb
set_option maxHeartbeats 4000000 in
theorem rput10_any (F : Rf) (M : Bool → List Itm) (w : World) (hM : ∀ b, (∀ x ∈ M b, x.1.fit) ∧ F.n b ≤ 65536 ∧ F.n b ≤ F.c b) (hr : ∀ b, Row w w.heap.size 19 (F.A b) (F.n b) (its (M b))) (p : Px) (hp : p.fit) (vl : Int) :
  Calls Try.prog 20 #[.agg F.cells.toArray, .agg p.cells.toArray, .int .i64 vl] w fun e w' => ∃ A' n' c', e = .returned (.tuple #[.agg (F.set p.six A' n' c').cells.toArray, .int .i64 (putR F.is (F.s p.six) (F.r p.six) (M p.six) p vl).2]) ∧ Row w' w'.heap.size 19 A' n' (its (putR F.is (F.s p.six) (F.r p.six) (M p.six) p vl).1) ∧ n' ≤ c' ∧ Below w.heap.size w w' ∧ NewA w (F.A p.six) (F.n p.six) A' n' := by
 have HM := Hh hM
 have HRW := Hh hr
 have HP := Hh hp
 clear hM hr hp
 go_enter Try.func20, Try.ntmps20
 go_upto_region 1 with (first
  | (refine wpList_box_blk (by rfl) 52 (.tmp 0) rfl F.cells rfl ?_; intro w1 hb1 hB1 hs1; clear hs1)
  | (refine wpList_box_blk (by rfl) 30 (.tmp 1) rfl p.cells rfl ?_; intro w2 hb2 hB2 hs2; clear hs2)
  | (refine wpList_alloc_blk (by rfl) 52 rfl Rf.zero.cells zeroF ?_; intro w3 hb3 hB3 hs3; clear hs3))
 obtain ⟨gF, hgF⟩ : ∃ g, w.heap.size = g := ⟨_, rfl⟩
 obtain ⟨gP, hgP⟩ : ∃ g, w1.heap.size = g := ⟨_, rfl⟩
 obtain ⟨gR, hgR⟩ : ∃ g, w2.heap.size = g := ⟨_, rfl⟩
 have z1 := hB1.size
 have z2 := hB2.size
 have l1 := hb1.lt
 have HW := Hh (bthen (bthen hB1 hB2) hB3)
 have hF3 := (hb1.on hB2).on hB3
 have hP3 := hb2.on hB3
 have HGF := Hh (show w.heap.size ≤ gF by omega)
 have HGR := Hh (show w.heap.size ≤ gR by omega)
 have HFR := Hh (show gF < gR by omega)
 rw [hgF] at hF3
 rw [hgP] at hP3
 rw [hgR] at hb3
 try rw [hgF]
 try rw [hgP]
 try rw [hgR]
 have HF := Hh hF3
 have HPX := Hh hP3
 have HRS := Hh hb3
 clear hb1 hB1 hb2 hB2 hb3 hB3 z1 z2 l1 hF3 hP3 hgF hgP hgR
 cases hs : p.six
 ·have c0 : w3.cell? ⟨gP, 0, none⟩ = some (.bool false) := by rw [← hs]; exact HPX.out.cell 0
  have HS := Hh hs
  clear hs
  go_wp2_with (first
   | (refine wpList_value (by rfl) (exec_load_mid 50 _ rfl gF 0 (by rfl) (F.T false) _ (Rf.range4 HF.out) Try.underlying50 rfl (sizeT _ _ _ _)) ?_)
   | (refine wpList_value (by rfl) (exec_load 30 _ rfl gP (by rfl) 30 p.cells _ HPX.out Try.underlying30 rfl (sizePx _ HP.out.addr)) ?_))
  refine (rput_any F.is (F.s false) (F.r false) (M false) (HM.out false).1 (F.A false) (F.n false) (F.c false) (HM.out false).2.1 (HM.out false).2.2 p vl HP.out w3 ((HRW.out false).below HW.out |>.more HW.out.size)).mono ?_
  rintro e w4 ⟨A', n', c', rfl, hr', hc', hb, hN⟩
  have HR4 := Hh hr'
  have HC4 := Hh hc'
  have HN4 := Hh (show NewA w (F.A false) (F.n false) A' n' from fun h => (hN h).elim .inl fun ⟨x, h1, h2⟩ => .inr ⟨x, h1, Nat.le_trans HW.out.size h2⟩)
  have HDF := Hh (show 0 < n' → ∀ x, A' = some x → x.block ≠ gF ∧ x.block ≠ gR from fun h x hx => by
   have l1 := HF.out.lt
   have l2 := HRS.out.lt
   have l3 := HGF.out
   have l4 := HGR.out
   rcases hN h with ⟨h1, h2⟩ | ⟨y, h1, h2⟩
   ·have h3 := row_lt9 (HRW.out false) (by omega) x (by rw [← h1]; exact hx)
    exact ⟨by omega, by omega⟩
   rw [hx] at h1
   injection h1 with h1
   subst h1
   exact ⟨by omega, by omega⟩)
  replace HW := Hh (bthen HW.out hb)
  replace HF := Hh (HF.out.on hb)
  replace HRS := Hh (HRS.out.on hb)
  clear hr' hc' hb hN c0
  obtain ⟨E, hE⟩ : ∃ E, (putR F.is (F.s false) (F.r false) (M false) p vl).2 = E := ⟨_, rfl⟩
  have HE := Hh hE
  rw [hE]
  clear hE
  go_upto_region 6 with (first
   | (refine wpList_alloc_blk (by rfl) 50 rfl tZ zeroT ?_; intro wa hba hBa hsa)
   | (refine wpList_store_all (by rfl) 50 _ _ rfl w4.heap.size (tC F.is (F.s false) (F.r false) (.slice A' n' c')) rfl rfl 50 _ hba (sizeT _ _ _ _) rfl (oneTs _ _ _ _ _ _) ?_; intro w5 hb5 hg5 hs5))
  have hbb := bgrown hBa hg5 hBa.size (Nat.le_refl _)
  replace HW := Hh (bthen HW.out hbb)
  replace HF := Hh (HF.out.on hbb)
  replace HRS := Hh (HRS.out.on hbb)
  replace HR4 := Hh ((Kept.of_below (S := fun _ => False) hbb).row HR4.out (fun _ _ _ h => h))
  obtain ⟨g8, hg8⟩ : ∃ g, w4.heap.size = g := ⟨_, rfl⟩
  rw [hg8] at hb5
  try rw [hg8]
  have H8 := Hh hb5
  clear hba hBa hsa hb5 hg5 hs5 hbb hg8
  go_upto_region 7 with (first
   | (refine wpList_value (by rfl) (exec_load 50 _ rfl g8 (by rfl) 50 (tC F.is (F.s false) (F.r false) (.slice A' n' c')) _ H8.out Try.underlying50 rfl (sizeT _ _ _ _)) ?_)
   | (refine wpList_store_blk (by rfl) 50 _ _ rfl gF 0 (tC F.is (F.s false) (F.r false) (.slice A' n' c')) rfl rfl 52 F.cells HF.out (sizeT _ _ _ _) (show 0 + 4 ≤ 8 from by decide) (oneTs _ _ _ _ _ _) ?_; intro w6 hb6 hg6 hs6))
  rw [Rf.set4] at hb6
  have hw6 := bgrown HW.out hg6 HW.out.size HGF.out
  have hrs6 := HRS.out.grown hg6 (fun e => by injection e with e; have := HFR.out; omega)
  have hr6 := (Kept.of_grown (S := fun b => b = gF) hg6 (fun k h => by injection h with h; exact h.symm)).row HR4.out (fun h x hx e => (HDF.out h x hx).1 e)
  have HW6 := Hh hw6
  have HF6 := Hh hb6
  have HRS6 := Hh hrs6
  have HR6 := Hh hr6
  clear hb6 hg6 hs6 hw6 hrs6 hr6
  go_wp2_with (first
   | (refine wpList_value (by rfl) (exec_load 52 _ rfl gF (by rfl) 52 (F.set false A' n' c').cells _ HF6.out Try.underlying52 rfl (Rf.size _)) ?_)
   | (refine wpList_store_all (by rfl) 52 _ _ rfl gR (F.set false A' n' c').cells rfl rfl 52 _ HRS6.out (Rf.size _) rfl (Rf.one _) ?_; intro w7 hb7 hg7 hs7))
  have hB7 : Below w.heap.size w w7 := bgrown HW6.out hg7 HW6.out.size HGR.out
  have hr7 := (Kept.of_grown (S := fun b => b = gR) hg7 (fun k h => by injection h with h; exact h.symm)).row HR6.out (fun h x hx e => (HDF.out h x hx).2 e)
  refine bodyPost_ret (results_cell2 rfl _ _ gR _ _ _ rfl hb7 Try.underlying52 rfl (Rf.size _)) rfl ⟨A', n', c', ?_, ?_, HC4.out, hB7, ?_⟩
  ·rw [HS.out, HE.out]; rfl
  ·rw [HS.out]; exact hr7
  rw [HS.out]; exact HN4.out
 have c0 : w3.cell? ⟨gP, 0, none⟩ = some (.bool true) := by rw [← hs]; exact HPX.out.cell 0
 have HS := Hh hs
 clear hs
 go_wp2_with (first
  | (refine wpList_value (by rfl) (exec_load_mid 50 _ rfl gF 4 (by rfl) (F.T true) _ (Rf.range6 HF.out) Try.underlying50 rfl (sizeT _ _ _ _)) ?_)
  | (refine wpList_value (by rfl) (exec_load 30 _ rfl gP (by rfl) 30 p.cells _ HPX.out Try.underlying30 rfl (sizePx _ HP.out.addr)) ?_))
 refine (rput_any F.is (F.s true) (F.r true) (M true) (HM.out true).1 (F.A true) (F.n true) (F.c true) (HM.out true).2.1 (HM.out true).2.2 p vl HP.out w3 ((HRW.out true).below HW.out |>.more HW.out.size)).mono ?_
 rintro e w4 ⟨A', n', c', rfl, hr', hc', hb, hN⟩
 have HR4 := Hh hr'
 have HC4 := Hh hc'
 have HN4 := Hh (show NewA w (F.A true) (F.n true) A' n' from fun h => (hN h).elim .inl fun ⟨x, h1, h2⟩ => .inr ⟨x, h1, Nat.le_trans HW.out.size h2⟩)
 have HDF := Hh (show 0 < n' → ∀ x, A' = some x → x.block ≠ gF ∧ x.block ≠ gR from fun h x hx => by
  have l1 := HF.out.lt
  have l2 := HRS.out.lt
  have l3 := HGF.out
  have l4 := HGR.out
  rcases hN h with ⟨h1, h2⟩ | ⟨y, h1, h2⟩
  ·have h3 := row_lt9 (HRW.out true) (by omega) x (by rw [← h1]; exact hx)
   exact ⟨by omega, by omega⟩
  rw [hx] at h1
  injection h1 with h1
  subst h1
  exact ⟨by omega, by omega⟩)
 replace HW := Hh (bthen HW.out hb)
 replace HF := Hh (HF.out.on hb)
 replace HRS := Hh (HRS.out.on hb)
 clear hr' hc' hb hN c0
 obtain ⟨E, hE⟩ : ∃ E, (putR F.is (F.s true) (F.r true) (M true) p vl).2 = E := ⟨_, rfl⟩
 have HE := Hh hE
 rw [hE]
 clear hE
 go_upto_region 3 with (first
  | (refine wpList_alloc_blk (by rfl) 50 rfl tZ zeroT ?_; intro wa hba hBa hsa)
  | (refine wpList_store_all (by rfl) 50 _ _ rfl w4.heap.size (tC F.is (F.s true) (F.r true) (.slice A' n' c')) rfl rfl 50 _ hba (sizeT _ _ _ _) rfl (oneTs _ _ _ _ _ _) ?_; intro w5 hb5 hg5 hs5))
 have hbb := bgrown hBa hg5 hBa.size (Nat.le_refl _)
 replace HW := Hh (bthen HW.out hbb)
 replace HF := Hh (HF.out.on hbb)
 replace HRS := Hh (HRS.out.on hbb)
 replace HR4 := Hh ((Kept.of_below (S := fun _ => False) hbb).row HR4.out (fun _ _ _ h => h))
 obtain ⟨g8, hg8⟩ : ∃ g, w4.heap.size = g := ⟨_, rfl⟩
 rw [hg8] at hb5
 try rw [hg8]
 have H8 := Hh hb5
 clear hba hBa hsa hb5 hg5 hs5 hbb hg8
 go_upto_region 4 with (first
  | (refine wpList_value (by rfl) (exec_load 50 _ rfl g8 (by rfl) 50 (tC F.is (F.s true) (F.r true) (.slice A' n' c')) _ H8.out Try.underlying50 rfl (sizeT _ _ _ _)) ?_)
  | (refine wpList_store_blk (by rfl) 50 _ _ rfl gF 4 (tC F.is (F.s true) (F.r true) (.slice A' n' c')) rfl rfl 52 F.cells HF.out (sizeT _ _ _ _) (show 4 + 4 ≤ 8 from by decide) (oneTs _ _ _ _ _ _) ?_; intro w6 hb6 hg6 hs6))
 rw [Rf.set6] at hb6
 have hw6 := bgrown HW.out hg6 HW.out.size HGF.out
 have hrs6 := HRS.out.grown hg6 (fun e => by injection e with e; have := HFR.out; omega)
 have hr6 := (Kept.of_grown (S := fun b => b = gF) hg6 (fun k h => by injection h with h; exact h.symm)).row HR4.out (fun h x hx e => (HDF.out h x hx).1 e)
 have HW6 := Hh hw6
 have HF6 := Hh hb6
 have HRS6 := Hh hrs6
 have HR6 := Hh hr6
 clear hb6 hg6 hs6 hw6 hrs6 hr6
 go_wp2_with (first
  | (refine wpList_value (by rfl) (exec_load 52 _ rfl gF (by rfl) 52 (F.set true A' n' c').cells _ HF6.out Try.underlying52 rfl (Rf.size _)) ?_)
  | (refine wpList_store_all (by rfl) 52 _ _ rfl gR (F.set true A' n' c').cells rfl rfl 52 _ HRS6.out (Rf.size _) rfl (Rf.one _) ?_; intro w7 hb7 hg7 hs7))
 have hB7 : Below w.heap.size w w7 := bgrown HW6.out hg7 HW6.out.size HGR.out
 have hr7 := (Kept.of_grown (S := fun b => b = gR) hg7 (fun k h => by injection h with h; exact h.symm)).row HR6.out (fun h x hx e => (HDF.out h x hx).2 e)
 refine bodyPost_ret (results_cell2 rfl _ _ gR _ _ _ rfl hb7 Try.underlying52 rfl (Rf.size _)) rfl ⟨A', n', c', ?_, ?_, HC4.out, hB7, ?_⟩
 ·rw [HS.out, HE.out]; rfl
 ·rw [HS.out]; exact hr7
 rw [HS.out]; exact HN4.out
set_option maxHeartbeats 4000000 in
theorem rdel10_any (F : Rf) (M : Bool → List Itm) (w : World) (hM : ∀ b, (∀ x ∈ M b, x.1.fit) ∧ F.n b ≤ 65536 ∧ F.n b ≤ F.c b) (hr : ∀ b, Row w w.heap.size 19 (F.A b) (F.n b) (its (M b))) (p : Px) (hp : p.fit) :
  Calls Try.prog 21 #[.agg F.cells.toArray, .agg p.cells.toArray] w fun e w' => ∃ A' n' c', e = .returned (.tuple #[.agg (F.set p.six A' n' c').cells.toArray, .int .i64 (delR F.is (F.s p.six) (M p.six) p).2]) ∧ Row w' w'.heap.size 19 A' n' (its (delR F.is (F.s p.six) (M p.six) p).1) ∧ n' ≤ c' ∧ Below w.heap.size w w' ∧ NewA w (F.A p.six) (F.n p.six) A' n' := by
 have HM := Hh hM
 have HRW := Hh hr
 have HP := Hh hp
 clear hM hr hp
 go_enter Try.func21, Try.ntmps21
 go_upto_region 1 with (first
  | (refine wpList_box_blk (by rfl) 52 (.tmp 0) rfl F.cells rfl ?_; intro w1 hb1 hB1 hs1; clear hs1)
  | (refine wpList_box_blk (by rfl) 30 (.tmp 1) rfl p.cells rfl ?_; intro w2 hb2 hB2 hs2; clear hs2)
  | (refine wpList_alloc_blk (by rfl) 52 rfl Rf.zero.cells zeroF ?_; intro w3 hb3 hB3 hs3; clear hs3))
 obtain ⟨gF, hgF⟩ : ∃ g, w.heap.size = g := ⟨_, rfl⟩
 obtain ⟨gP, hgP⟩ : ∃ g, w1.heap.size = g := ⟨_, rfl⟩
 obtain ⟨gR, hgR⟩ : ∃ g, w2.heap.size = g := ⟨_, rfl⟩
 have z1 := hB1.size
 have z2 := hB2.size
 have l1 := hb1.lt
 have HW := Hh (bthen (bthen hB1 hB2) hB3)
 have hF3 := (hb1.on hB2).on hB3
 have hP3 := hb2.on hB3
 have HGF := Hh (show w.heap.size ≤ gF by omega)
 have HGR := Hh (show w.heap.size ≤ gR by omega)
 have HFR := Hh (show gF < gR by omega)
 rw [hgF] at hF3
 rw [hgP] at hP3
 rw [hgR] at hb3
 try rw [hgF]
 try rw [hgP]
 try rw [hgR]
 have HF := Hh hF3
 have HPX := Hh hP3
 have HRS := Hh hb3
 clear hb1 hB1 hb2 hB2 hb3 hB3 z1 z2 l1 hF3 hP3 hgF hgP hgR
 cases hs : p.six
 ·have c0 : w3.cell? ⟨gP, 0, none⟩ = some (.bool false) := by rw [← hs]; exact HPX.out.cell 0
  have HS := Hh hs
  clear hs
  go_wp2_with (first
   | (refine wpList_value (by rfl) (exec_load_mid 50 _ rfl gF 0 (by rfl) (F.T false) _ (Rf.range4 HF.out) Try.underlying50 rfl (sizeT _ _ _ _)) ?_)
   | (refine wpList_value (by rfl) (exec_load 30 _ rfl gP (by rfl) 30 p.cells _ HPX.out Try.underlying30 rfl (sizePx _ HP.out.addr)) ?_))
  refine (rdelete_any F.is (F.s false) (F.r false) (M false) (HM.out false).1 (F.A false) (F.n false) (F.c false) (HM.out false).2.1 (HM.out false).2.2 p HP.out w3 ((HRW.out false).below HW.out |>.more HW.out.size)).mono ?_
  rintro e w4 ⟨A', n', c', rfl, hr', hc', hb, hN⟩
  have HR4 := Hh hr'
  have HC4 := Hh hc'
  have HN4 := Hh (show NewA w (F.A false) (F.n false) A' n' from fun h => (hN h).elim .inl fun ⟨x, h1, h2⟩ => .inr ⟨x, h1, Nat.le_trans HW.out.size h2⟩)
  have HDF := Hh (show 0 < n' → ∀ x, A' = some x → x.block ≠ gF ∧ x.block ≠ gR from fun h x hx => by
   have l1 := HF.out.lt
   have l2 := HRS.out.lt
   have l3 := HGF.out
   have l4 := HGR.out
   rcases hN h with ⟨h1, h2⟩ | ⟨y, h1, h2⟩
   ·have h3 := row_lt9 (HRW.out false) (by omega) x (by rw [← h1]; exact hx)
    exact ⟨by omega, by omega⟩
   rw [hx] at h1
   injection h1 with h1
   subst h1
   exact ⟨by omega, by omega⟩)
  replace HW := Hh (bthen HW.out hb)
  replace HF := Hh (HF.out.on hb)
  replace HRS := Hh (HRS.out.on hb)
  clear hr' hc' hb hN c0
  obtain ⟨E, hE⟩ : ∃ E, (delR F.is (F.s false) (M false) p).2 = E := ⟨_, rfl⟩
  have HE := Hh hE
  rw [hE]
  clear hE
  go_upto_region 6 with (first
   | (refine wpList_alloc_blk (by rfl) 50 rfl tZ zeroT ?_; intro wa hba hBa hsa)
   | (refine wpList_store_all (by rfl) 50 _ _ rfl w4.heap.size (tC F.is (F.s false) (F.r false) (.slice A' n' c')) rfl rfl 50 _ hba (sizeT _ _ _ _) rfl (oneTs _ _ _ _ _ _) ?_; intro w5 hb5 hg5 hs5))
  have hbb := bgrown hBa hg5 hBa.size (Nat.le_refl _)
  replace HW := Hh (bthen HW.out hbb)
  replace HF := Hh (HF.out.on hbb)
  replace HRS := Hh (HRS.out.on hbb)
  replace HR4 := Hh ((Kept.of_below (S := fun _ => False) hbb).row HR4.out (fun _ _ _ h => h))
  obtain ⟨g8, hg8⟩ : ∃ g, w4.heap.size = g := ⟨_, rfl⟩
  rw [hg8] at hb5
  try rw [hg8]
  have H8 := Hh hb5
  clear hba hBa hsa hb5 hg5 hs5 hbb hg8
  go_upto_region 7 with (first
   | (refine wpList_value (by rfl) (exec_load 50 _ rfl g8 (by rfl) 50 (tC F.is (F.s false) (F.r false) (.slice A' n' c')) _ H8.out Try.underlying50 rfl (sizeT _ _ _ _)) ?_)
   | (refine wpList_store_blk (by rfl) 50 _ _ rfl gF 0 (tC F.is (F.s false) (F.r false) (.slice A' n' c')) rfl rfl 52 F.cells HF.out (sizeT _ _ _ _) (show 0 + 4 ≤ 8 from by decide) (oneTs _ _ _ _ _ _) ?_; intro w6 hb6 hg6 hs6))
  rw [Rf.set4] at hb6
  have hw6 := bgrown HW.out hg6 HW.out.size HGF.out
  have hrs6 := HRS.out.grown hg6 (fun e => by injection e with e; have := HFR.out; omega)
  have hr6 := (Kept.of_grown (S := fun b => b = gF) hg6 (fun k h => by injection h with h; exact h.symm)).row HR4.out (fun h x hx e => (HDF.out h x hx).1 e)
  have HW6 := Hh hw6
  have HF6 := Hh hb6
  have HRS6 := Hh hrs6
  have HR6 := Hh hr6
  clear hb6 hg6 hs6 hw6 hrs6 hr6
  go_wp2_with (first
   | (refine wpList_value (by rfl) (exec_load 52 _ rfl gF (by rfl) 52 (F.set false A' n' c').cells _ HF6.out Try.underlying52 rfl (Rf.size _)) ?_)
   | (refine wpList_store_all (by rfl) 52 _ _ rfl gR (F.set false A' n' c').cells rfl rfl 52 _ HRS6.out (Rf.size _) rfl (Rf.one _) ?_; intro w7 hb7 hg7 hs7))
  have hB7 : Below w.heap.size w w7 := bgrown HW6.out hg7 HW6.out.size HGR.out
  have hr7 := (Kept.of_grown (S := fun b => b = gR) hg7 (fun k h => by injection h with h; exact h.symm)).row HR6.out (fun h x hx e => (HDF.out h x hx).2 e)
  refine bodyPost_ret (results_cell2 rfl _ _ gR _ _ _ rfl hb7 Try.underlying52 rfl (Rf.size _)) rfl ⟨A', n', c', ?_, ?_, HC4.out, hB7, ?_⟩
  ·rw [HS.out, HE.out]; rfl
  ·rw [HS.out]; exact hr7
  rw [HS.out]; exact HN4.out
 have c0 : w3.cell? ⟨gP, 0, none⟩ = some (.bool true) := by rw [← hs]; exact HPX.out.cell 0
 have HS := Hh hs
 clear hs
 go_wp2_with (first
  | (refine wpList_value (by rfl) (exec_load_mid 50 _ rfl gF 4 (by rfl) (F.T true) _ (Rf.range6 HF.out) Try.underlying50 rfl (sizeT _ _ _ _)) ?_)
  | (refine wpList_value (by rfl) (exec_load 30 _ rfl gP (by rfl) 30 p.cells _ HPX.out Try.underlying30 rfl (sizePx _ HP.out.addr)) ?_))
 refine (rdelete_any F.is (F.s true) (F.r true) (M true) (HM.out true).1 (F.A true) (F.n true) (F.c true) (HM.out true).2.1 (HM.out true).2.2 p HP.out w3 ((HRW.out true).below HW.out |>.more HW.out.size)).mono ?_
 rintro e w4 ⟨A', n', c', rfl, hr', hc', hb, hN⟩
 have HR4 := Hh hr'
 have HC4 := Hh hc'
 have HN4 := Hh (show NewA w (F.A true) (F.n true) A' n' from fun h => (hN h).elim .inl fun ⟨x, h1, h2⟩ => .inr ⟨x, h1, Nat.le_trans HW.out.size h2⟩)
 have HDF := Hh (show 0 < n' → ∀ x, A' = some x → x.block ≠ gF ∧ x.block ≠ gR from fun h x hx => by
  have l1 := HF.out.lt
  have l2 := HRS.out.lt
  have l3 := HGF.out
  have l4 := HGR.out
  rcases hN h with ⟨h1, h2⟩ | ⟨y, h1, h2⟩
  ·have h3 := row_lt9 (HRW.out true) (by omega) x (by rw [← h1]; exact hx)
   exact ⟨by omega, by omega⟩
  rw [hx] at h1
  injection h1 with h1
  subst h1
  exact ⟨by omega, by omega⟩)
 replace HW := Hh (bthen HW.out hb)
 replace HF := Hh (HF.out.on hb)
 replace HRS := Hh (HRS.out.on hb)
 clear hr' hc' hb hN c0
 obtain ⟨E, hE⟩ : ∃ E, (delR F.is (F.s true) (M true) p).2 = E := ⟨_, rfl⟩
 have HE := Hh hE
 rw [hE]
 clear hE
 go_upto_region 3 with (first
  | (refine wpList_alloc_blk (by rfl) 50 rfl tZ zeroT ?_; intro wa hba hBa hsa)
  | (refine wpList_store_all (by rfl) 50 _ _ rfl w4.heap.size (tC F.is (F.s true) (F.r true) (.slice A' n' c')) rfl rfl 50 _ hba (sizeT _ _ _ _) rfl (oneTs _ _ _ _ _ _) ?_; intro w5 hb5 hg5 hs5))
 have hbb := bgrown hBa hg5 hBa.size (Nat.le_refl _)
 replace HW := Hh (bthen HW.out hbb)
 replace HF := Hh (HF.out.on hbb)
 replace HRS := Hh (HRS.out.on hbb)
 replace HR4 := Hh ((Kept.of_below (S := fun _ => False) hbb).row HR4.out (fun _ _ _ h => h))
 obtain ⟨g8, hg8⟩ : ∃ g, w4.heap.size = g := ⟨_, rfl⟩
 rw [hg8] at hb5
 try rw [hg8]
 have H8 := Hh hb5
 clear hba hBa hsa hb5 hg5 hs5 hbb hg8
 go_upto_region 4 with (first
  | (refine wpList_value (by rfl) (exec_load 50 _ rfl g8 (by rfl) 50 (tC F.is (F.s true) (F.r true) (.slice A' n' c')) _ H8.out Try.underlying50 rfl (sizeT _ _ _ _)) ?_)
  | (refine wpList_store_blk (by rfl) 50 _ _ rfl gF 4 (tC F.is (F.s true) (F.r true) (.slice A' n' c')) rfl rfl 52 F.cells HF.out (sizeT _ _ _ _) (show 4 + 4 ≤ 8 from by decide) (oneTs _ _ _ _ _ _) ?_; intro w6 hb6 hg6 hs6))
 rw [Rf.set6] at hb6
 have hw6 := bgrown HW.out hg6 HW.out.size HGF.out
 have hrs6 := HRS.out.grown hg6 (fun e => by injection e with e; have := HFR.out; omega)
 have hr6 := (Kept.of_grown (S := fun b => b = gF) hg6 (fun k h => by injection h with h; exact h.symm)).row HR4.out (fun h x hx e => (HDF.out h x hx).1 e)
 have HW6 := Hh hw6
 have HF6 := Hh hb6
 have HRS6 := Hh hrs6
 have HR6 := Hh hr6
 clear hb6 hg6 hs6 hw6 hrs6 hr6
 go_wp2_with (first
  | (refine wpList_value (by rfl) (exec_load 52 _ rfl gF (by rfl) 52 (F.set true A' n' c').cells _ HF6.out Try.underlying52 rfl (Rf.size _)) ?_)
  | (refine wpList_store_all (by rfl) 52 _ _ rfl gR (F.set true A' n' c').cells rfl rfl 52 _ HRS6.out (Rf.size _) rfl (Rf.one _) ?_; intro w7 hb7 hg7 hs7))
 have hB7 : Below w.heap.size w w7 := bgrown HW6.out hg7 HW6.out.size HGR.out
 have hr7 := (Kept.of_grown (S := fun b => b = gR) hg7 (fun k h => by injection h with h; exact h.symm)).row HR6.out (fun h x hx e => (HDF.out h x hx).2 e)
 refine bodyPost_ret (results_cell2 rfl _ _ gR _ _ _ rfl hb7 Try.underlying52 rfl (Rf.size _)) rfl ⟨A', n', c', ?_, ?_, HC4.out, hB7, ?_⟩
 ·rw [HS.out, HE.out]; rfl
 ·rw [HS.out]; exact hr7
 rw [HS.out]; exact HN4.out
set_option maxHeartbeats 2000000 in
theorem rget10_any (F : Rf) (M : Bool → List Itm) (w : World) (hM : ∀ b, (∀ x ∈ M b, x.1.fit) ∧ F.n b ≤ 65536 ∧ F.n b ≤ F.c b) (hr : ∀ b, Row w w.heap.size 19 (F.A b) (F.n b) (its (M b))) (p : Px) (hp : p.fit) :
  Calls Try.prog 23 #[.agg F.cells.toArray, .agg p.cells.toArray] w fun e w' => e = .returned (.tuple #[.int .i64 (getC (M p.six) p), .bool (hasC (M p.six) p)]) ∧ Below w.heap.size w w' := by
 have HM := Hh hM
 have HRW := Hh hr
 have HP := Hh hp
 clear hM hr hp
 go_enter Try.func23, Try.ntmps23
 go_upto_region 1 with (first
  | (refine wpList_box_blk (by rfl) 52 (.tmp 0) rfl F.cells rfl ?_; intro w1 hb1 hB1 hs1; clear hs1)
  | (refine wpList_box_blk (by rfl) 30 (.tmp 1) rfl p.cells rfl ?_; intro w2 hb2 hB2 hs2; clear hs2))
 obtain ⟨gF, hgF⟩ : ∃ g, w.heap.size = g := ⟨_, rfl⟩
 obtain ⟨gP, hgP⟩ : ∃ g, w1.heap.size = g := ⟨_, rfl⟩
 have hF3 := hb1.on hB2
 have HW := Hh (bthen hB1 hB2)
 rw [hgF] at hF3
 rw [hgP] at hb2
 try rw [hgF]
 try rw [hgP]
 have HF := Hh hF3
 have HPX := Hh hb2
 clear hb1 hB1 hb2 hB2 hF3 hgF hgP
 cases hs : p.six
 ·have c0 : w2.cell? ⟨gP, 0, none⟩ = some (.bool false) := by rw [← hs]; exact HPX.out.cell 0
  have HS := Hh hs
  clear hs
  go_wp2_with (first
   | (refine wpList_value (by rfl) (exec_load_mid 50 _ rfl gF 0 (by rfl) (F.T false) _ (Rf.range4 HF.out) Try.underlying50 rfl (sizeT _ _ _ _)) ?_)
   | (refine wpList_value (by rfl) (exec_load 30 _ rfl gP (by rfl) 30 p.cells _ HPX.out Try.underlying30 rfl (sizePx _ HP.out.addr)) ?_))
  refine (rget_any F.is (F.s false) (F.r false) (M false) (HM.out false).1 (F.A false) (F.n false) (F.c false) (by have := (HM.out false).2.1; omega) p HP.out w2 ((HRW.out false).below HW.out |>.more HW.out.size)).mono ?_
  rintro e w4 ⟨rfl, hb⟩
  replace HW := Hh (bthen HW.out hb)
  clear hb c0
  go_wp2_with fail
  go_ret2
  exact ⟨by rw [HS.out]; rfl, HW.out⟩
 have c0 : w2.cell? ⟨gP, 0, none⟩ = some (.bool true) := by rw [← hs]; exact HPX.out.cell 0
 have HS := Hh hs
 clear hs
 go_wp2_with (first
  | (refine wpList_value (by rfl) (exec_load_mid 50 _ rfl gF 4 (by rfl) (F.T true) _ (Rf.range6 HF.out) Try.underlying50 rfl (sizeT _ _ _ _)) ?_)
  | (refine wpList_value (by rfl) (exec_load 30 _ rfl gP (by rfl) 30 p.cells _ HPX.out Try.underlying30 rfl (sizePx _ HP.out.addr)) ?_))
 refine (rget_any F.is (F.s true) (F.r true) (M true) (HM.out true).1 (F.A true) (F.n true) (F.c true) (by have := (HM.out true).2.1; omega) p HP.out w2 ((HRW.out true).below HW.out |>.more HW.out.size)).mono ?_
 rintro e w4 ⟨rfl, hb⟩
 replace HW := Hh (bthen HW.out hb)
 clear hb c0
 go_wp2_with fail
 go_ret2
 exact ⟨by rw [HS.out]; rfl, HW.out⟩
set_option maxHeartbeats 2000000 in
theorem rlook10_any (F : Rf) (M : Bool → List Itm) (w : World) (hM : ∀ b, (∀ x ∈ M b, x.1.good) ∧ F.n b ≤ 65536 ∧ F.n b ≤ F.c b) (hr : ∀ b, Row w w.heap.size 19 (F.A b) (F.n b) (its (M b))) (six : Bool) (ad : List UInt8) (ha : ad.length = 16) :
  Calls Try.prog 22 #[.agg F.cells.toArray, .bool six, .agg (bv ad).toArray] w fun e w' => e = .returned (.tuple #[.agg (itC (ansL' (M six) ad).1).toArray, .bool (ansL' (M six) ad).2]) ∧ Below w.heap.size w w' := by
 obtain ⟨Y, hY⟩ : ∃ x, ansL' (M six) ad = x := ⟨_, rfl⟩
 have hyf : Y.1.1.fit := by
  rw [← hY]
  unfold ansL'
  cases hB : bestP ad (M six) none with
  | none => exact ⟨rfl, by decide, by decide⟩
  | some y => exact ((hM six).1 y (bestP_mem hB)).fit
 rw [hY]
 obtain ⟨y, b⟩ := Y
 have HYF := Hh hyf
 have HY := Hh hY
 have HM := Hh hM
 have HRW := Hh hr
 have HAL := Hh ha
 clear hM hr ha hyf hY
 go_enter Try.func22, Try.ntmps22
 go_upto_region 1 with (first
  | (refine wpList_box_blk (by rfl) 52 (.tmp 0) rfl F.cells rfl ?_; intro w1 hb1 hB1 hs1; clear hs1)
  | (refine wpList_box_blk (by rfl) 23 (.tmp 2) rfl (bv ad) rfl ?_; intro w2 hb2 hB2 hs2; clear hs2)
  | (refine wpList_alloc_blk (by rfl) 57 rfl (itC (Px.zero, 0)) zero57 ?_; intro w3 hb3 hB3 hs3; clear hs3))
 obtain ⟨gF, hgF⟩ : ∃ g, w.heap.size = g := ⟨_, rfl⟩
 obtain ⟨gP, hgP⟩ : ∃ g, w1.heap.size = g := ⟨_, rfl⟩
 obtain ⟨gR, hgR⟩ : ∃ g, w2.heap.size = g := ⟨_, rfl⟩
 have z1 := hB1.size
 have z2 := hB2.size
 have HW := Hh (bthen (bthen hB1 hB2) hB3)
 have hF3 := (hb1.on hB2).on hB3
 have hP3 := hb2.on hB3
 have HGR := Hh (show w.heap.size ≤ gR by omega)
 rw [hgF] at hF3
 rw [hgP] at hP3
 rw [hgR] at hb3
 try rw [hgF]
 try rw [hgP]
 try rw [hgR]
 have HF := Hh hF3
 have HPX := Hh hP3
 have HRS := Hh hb3
 clear hb1 hB1 hb2 hB2 hb3 hB3 z1 z2 hF3 hP3 hgF hgP hgR
 cases six
 ·go_wp2_with (first
   | (refine wpList_value (by rfl) (exec_load_mid 50 _ rfl gF 0 (by rfl) (F.T false) _ (Rf.range4 HF.out) Try.underlying50 rfl (sizeT _ _ _ _)) ?_)
   | (refine wpList_value (by rfl) (exec_load 23 _ rfl gP (by rfl) 23 (bv ad) _ HPX.out Try.underlying23 rfl (size16 _ HAL.out)) ?_))
  refine (rlook_any F.is (F.s false) (F.r false) (M false) (HM.out false).1 (F.A false) (F.n false) (F.c false) (by have := (HM.out false).2.1; omega) ad HAL.out w3 ((HRW.out false).below HW.out |>.more HW.out.size)).mono ?_
  rintro e w4 ⟨rfl, hb⟩
  rw [HY.out]
  replace HW := Hh (bthen HW.out hb)
  replace HRS := Hh (HRS.out.on hb)
  clear hb
  go_wp2_with (refine wpList_store_all (by rfl) 57 _ _ rfl gR (itC y) rfl rfl 57 _ HRS.out (size57 _ HYF.out.addr) (by rw [itC_length y HYF.out.addr]; rfl) (itC_one _) ?_; intro w7 hb7 hg7 hs7)
  have hB7 : Below w.heap.size w w7 := bgrown HW.out hg7 HW.out.size HGR.out
  exact bodyPost_ret (results_cell2 rfl _ _ gR _ _ _ rfl hb7 Try.underlying57 rfl (size57 _ HYF.out.addr)) rfl ⟨rfl, hB7⟩
 go_wp2_with (first
  | (refine wpList_value (by rfl) (exec_load_mid 50 _ rfl gF 4 (by rfl) (F.T true) _ (Rf.range6 HF.out) Try.underlying50 rfl (sizeT _ _ _ _)) ?_)
  | (refine wpList_value (by rfl) (exec_load 23 _ rfl gP (by rfl) 23 (bv ad) _ HPX.out Try.underlying23 rfl (size16 _ HAL.out)) ?_))
 refine (rlook_any F.is (F.s true) (F.r true) (M true) (HM.out true).1 (F.A true) (F.n true) (F.c true) (by have := (HM.out true).2.1; omega) ad HAL.out w3 ((HRW.out true).below HW.out |>.more HW.out.size)).mono ?_
 rintro e w4 ⟨rfl, hb⟩
 rw [HY.out]
 replace HW := Hh (bthen HW.out hb)
 replace HRS := Hh (HRS.out.on hb)
 clear hb
 go_wp2_with (refine wpList_store_all (by rfl) 57 _ _ rfl gR (itC y) rfl rfl 57 _ HRS.out (size57 _ HYF.out.addr) (by rw [itC_length y HYF.out.addr]; rfl) (itC_one _) ?_; intro w7 hb7 hg7 hs7)
 have hB7 : Below w.heap.size w w7 := bgrown HW.out hg7 HW.out.size HGR.out
 exact bodyPost_ret (results_cell2 rfl _ _ gR _ _ _ rfl hb7 Try.underlying57 rfl (size57 _ HYF.out.addr)) rfl ⟨rfl, hB7⟩
end Go.Proofs.Ytdmgomknamdcfaa

/- What the reference's Of and Covers (layer 8) compute. No condition but sizes. -/
namespace Go.Proofs.Ytdmgomknamdcfaa
open Go.RowKit
set_option linter.unusedVariables false
set_option maxRecDepth 20000
set_option linter.unusedSimpArgs false

theorem px_ad {w : World} {g : Nat} {t : TypeId} {p : Px} (h : Blk w g t p.cells) (hp : p.addr.length = 16) : w.rangeAt g 1 (bv p.addr) := by
 have hr := h.range 1 16
 rw [p.drop_addr hp] at hr
 exact hr
set_option maxHeartbeats 2000000 in
theorem rcovers_any (p : Px) (hp : p.good) (q : Px) (hq : q.good) (w : World) :
  Calls Try.prog 16 #[.agg p.cells.toArray, .agg q.cells.toArray] w fun e w' => e = .returned (.bool (covP p q)) ∧ Below w.heap.size w w' := by
 have HP := Hh hp
 have HQ := Hh hq
 clear hp hq
 go_enter Try.func16, Try.ntmps16
 go_upto_region 1 with (first
  | (refine wpList_box_blk (by rfl) 30 (.tmp 0) rfl p.cells rfl ?_; intro w1 hb1 hB1 hs1; clear hs1)
  | (refine wpList_box_blk (by rfl) 30 (.tmp 1) rfl q.cells rfl ?_; intro w2 hb2 hB2 hs2; clear hs2))
 obtain ⟨g2, hg2⟩ : ∃ g, w.heap.size = g := ⟨_, rfl⟩
 obtain ⟨g3, hg3⟩ : ∃ g, w1.heap.size = g := ⟨_, rfl⟩
 have hk2 := hb1.on hB2
 have HW := Hh (bthen hB1 hB2)
 rw [hg2] at hk2
 rw [hg3] at hb2
 try rw [hg2]
 try rw [hg3]
 have H2 := Hh hk2
 have H3 := Hh hb2
 clear hb1 hB1 hb2 hB2 hk2 hg2 hg3
 go_wp2_with (first
  | (refine wpList_value (by rfl) (exec_load 30 _ rfl g2 (by rfl) 30 p.cells _ H2.out Try.underlying30 rfl (sizePx _ HP.out.addr)) ?_)
  | (refine wpList_value (by rfl) (exec_load_mid 23 _ rfl g3 1 (by rfl) (bv q.addr) _ (px_ad H3.out HQ.out.addr) Try.underlying23 rfl (size16 _ HQ.out.addr)) ?_))
 refine (rhas_any p HP.out q.addr HQ.out.addr w2).mono ?_
 rintro e w3 ⟨rfl, hb⟩
 have HW3 := Hh (bthen HW.out hb)
 have H23 := Hh (H2.out.on hb)
 have H33 := Hh (H3.out.on hb)
 clear hb
 have c1 : w3.cell? ⟨g2, 0, none⟩ = some (.bool p.six) := H23.out.cell 0
 have c2 : w3.cell? ⟨g3, 0, none⟩ = some (.bool q.six) := H33.out.cell 0
 have c3 : w3.cell? ⟨g2, 17, none⟩ = some (.int .i64 p.len) := (H23.out.cell 17).trans (p.get_len HP.out.addr)
 have c4 : w3.cell? ⟨g3, 17, none⟩ = some (.int .i64 q.len) := (H33.out.cell 17).trans (q.get_len HQ.out.addr)
 obtain ⟨h, hh⟩ : ∃ h, hasA p q.addr = h := ⟨_, rfl⟩
 obtain ⟨s1, hs1⟩ : ∃ h, p.six = h := ⟨_, rfl⟩
 obtain ⟨s2, hs2⟩ : ∃ h, q.six = h := ⟨_, rfl⟩
 have HC := Hh (show covP p q = ((s1 == s2) && (decide (p.len ≤ q.len) && h)) by unfold covP; rw [hs1, hs2, hh])
 rw [hh]
 rw [hs1] at c1
 rw [hs2] at c2
 clear hh hs1 hs2
 by_cases hl : p.len ≤ q.len
 ·have HD := Hh (decide_eq_true hl)
  cases s1 <;> cases s2 <;> cases h
  all_goals
   go_wp2_with fail
   go_ret
   exact ⟨by rw [HC.out, HD.out]; rfl, HW3.out⟩
 have HD := Hh (decide_eq_false hl)
 cases s1 <;> cases s2 <;> cases h
 all_goals
  go_wp2_with fail
  go_ret
  exact ⟨by rw [HC.out, HD.out]; rfl, HW3.out⟩
end Go.Proofs.Ytdmgomknamdcfaa


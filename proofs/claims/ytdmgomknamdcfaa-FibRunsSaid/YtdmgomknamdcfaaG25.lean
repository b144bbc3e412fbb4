/- Texts of this claim put together, in build order: each one's own remark stands ahead of it. -/
import Derived.Test.YtdmgomknamdcfaaG02
import Derived.Test.YtdmgomknamdcfaaG24
/- What the reference's Get (layer 9) computes. No condition but sizes. -/
namespace Go.Proofs.Ytdmgomknamdcfaa
open Go.RowKit
set_option linter.unusedVariables false
set_option maxRecDepth 20000
set_option linter.unusedSimpArgs false

/-- what stands at the prefix, 0 where nothing does -/
def getC (L : List Itm) (p : Px) : Int :=
 match L[cntC L p]? with
 | some x => if x.1 = p then x.2 else 0
 | none => 0
theorem hasC_some {L : List Itm} {p : Px} (h : hasC L p = true) : ∃ x, L[cntC L p]? = some x ∧ x.1 = p ∧ getC L p = x.2 := by
 unfold hasC at h
 unfold getC
 cases hx : L[cntC L p]? with
 | none => rw [hx] at h; cases h
 | some x =>
  rw [hx] at h
  have h1 : x.1 = p := of_decide_eq_true h
  exact ⟨x, rfl, h1, by simp only []; rw [if_pos h1]⟩
theorem hasC_none {L : List Itm} {p : Px} (h : hasC L p = false) : getC L p = 0 := by
 unfold hasC at h
 unfold getC
 cases hx : L[cntC L p]? with
 | none => rfl
 | some x =>
  rw [hx] at h
  simp only []
  rw [if_neg (of_decide_eq_false h)]
set_option maxHeartbeats 4000000 in
theorem rget_any (is six : Bool) (room : Int) (L : List Itm) (hL : ∀ x ∈ L, x.1.fit) (A : Option Addr) (n c : Nat) (hn : n < 9223372036854775807) (p : Px) (hf : p.fit) (w : World) (hr : Row w w.heap.size 19 A n (its L)) :
  Calls Try.prog 53 #[.agg (tC is six room (.slice A n c)).toArray, .agg p.cells.toArray] w fun e w' => e = .returned (.tuple #[.int .i64 (getC L p), .bool (hasC L p)]) ∧ Below w.heap.size w w' := by
 have HF := Hh hf
 have HL := Hh hL
 have HR := Hh hr
 have HLN := Hh (its_row hr hL)
 clear hf hL hr
 go_enter Try.func53, Try.ntmps53
 go_upto_region 1 with (first
  | (refine wpList_box_blk (by rfl) 50 (.tmp 0) rfl (tC is six room (.slice A n c)) rfl ?_; intro w1 hb1 hB1 hs1; clear hs1)
  | (refine wpList_box_blk (by rfl) 30 (.tmp 1) rfl p.cells rfl ?_; intro w2 hb2 hB2 hs2; clear hs2))
 obtain ⟨g0, hg0⟩ : ∃ g, w.heap.size = g := ⟨_, rfl⟩
 obtain ⟨g1, hg1⟩ : ∃ g, w1.heap.size = g := ⟨_, rfl⟩
 have hk0 := hb1.on hB2
 have HW := Hh (bthen hB1 hB2)
 rw [hg0] at hk0
 rw [hg1] at hb2
 try rw [hg0]
 try rw [hg1]
 have HT := Hh hk0
 have HP := Hh hb2
 have HRW := Hh (HR.out.below HW.out)
 have HSZ := Hh HW.out.size
 clear hb1 hB1 hb2 hB2 hk0 hg0 hg1
 have c0 : w2.cell? ⟨g0, 3, none⟩ = some (.slice A n c) := HT.out.cell 3
 go_wp2_with (refine wpList_value (by rfl) (exec_load 30 _ rfl g1 (by rfl) 30 p.cells _ HP.out Try.underlying30 rfl (sizePx _ HF.out.addr)) ?_)
 refine (rfind_any L HL.out A n c hn p HF.out w2 (HRW.out.more HSZ.out)).mono ?_
 rintro e w5 ⟨rfl, hb⟩
 replace HW := Hh (bthen HW.out hb)
 clear c0
 have c0 : w5.cell? ⟨g0, 3, none⟩ = some (.slice A n c) := (HT.out.on hb).cell 3
 clear hb
 cases hh : hasC L p
 ·have HG := Hh (hasC_none hh)
  have HH := Hh hh
  clear hh
  go_wp2_with fail
  go_ret2
  exact ⟨by rw [HG.out, HH.out]; rfl, HW.out⟩
 obtain ⟨x, hx, hxp, hg⟩ := hasC_some hh
 have HG := Hh hg
 obtain ⟨k, hk⟩ : ∃ k, cntC L p = k := ⟨_, rfl⟩
 rw [hk] at hx
 try rw [hk]
 obtain ⟨bA, oA, rfl, hbA, _, hcA⟩ := its_at HR.out HL.out k x hx
 have hlt : k < n := by rw [← HLN.out]; exact (List.getElem?_eq_some_iff.1 hx).1
 have hlt2 : (k : Int) < (n : Int) := by omega
 have c1 : w5.cell? ⟨bA, oA + k * 19 + 18, none⟩ = some (.int .i64 x.2) := (HW.out.cell (p := ⟨bA, _, none⟩) hbA).trans hcA
 have HH := Hh hh
 clear hh hx hxp hg hk hcA hbA
 go_wp2_with fail
 go_ret2
 exact ⟨by rw [HG.out, HH.out]; rfl, HW.out⟩
end Go.Proofs.Ytdmgomknamdcfaa

/- What the reference's New (layer 9) computes. No condition. -/
namespace Go.Proofs.Ytdmgomknamdcfaa
open Go.RowKit
set_option linter.unusedVariables false
set_option maxRecDepth 20000
set_option linter.unusedSimpArgs false

def tZ : List Value := tC false false 0 (.slice none 0 0)
theorem zeroT (w : World) : (zeroValue 50).run Try.prog w = .ok (.agg tZ.toArray) w := by kernel_rfl
theorem sizeT (is six : Bool) (room : Int) (row : Value) : (Try.prog.info? 50).map (·.size) = some (tC is six room row).length := by
 rw [show (tC is six room row).length = 4 from rfl]
 kernel_rfl
theorem exec_buildT0 {w : World} {o : Oper} {q : Act} (ho : o.op = .build 50 #[]) : (execOp q.eval o).run Try.prog w = .ok (.value (.agg tZ.toArray)) w := by
 unfold execOp
 simp only [ho, List.map_toArray, List.map_nil, Sem.run_bind, show (Instr.build 50 #[]).run Try.prog w = .ok (.agg tZ.toArray) w by kernel_rfl, Result.andThen_ok]
 rfl
theorem exec_buildT3 {w : World} {o : Oper} {q : Act} (x0 x1 x2 : Operand) (ho : o.op = .build 50 #[(0, x0), (1, x1), (2, x2)]) (b s : Bool) (n : Int) (h0 : q.eval x0 = .bool b) (h1 : q.eval x1 = .bool s) (h2 : q.eval x2 = .int .i64 n) :
  (execOp q.eval o).run Try.prog w = .ok (.value (.agg (tC b s n (.slice none 0 0)).toArray)) w := by
 unfold execOp
 simp only [ho, List.map_toArray, List.map_cons, List.map_nil, h0, h1, h2, Sem.run_bind, show (Instr.build 50 #[(0, .bool b), (1, .bool s), (2, .int .i64 n)]).run Try.prog w = .ok (.agg (tC b s n (.slice none 0 0)).toArray) w by kernel_rfl, Result.andThen_ok]
 rfl
theorem oneT (is six : Bool) (room : Int) : ∀ v ∈ tC is six room (.slice none 0 0), v.oneCell' = true := by
 intro v hv
 simp only [tC, List.mem_cons, List.not_mem_nil, or_false] at hv
 rcases hv with rfl | rfl | rfl | rfl <;> rfl
def newR (six : Bool) (room : Int) : List Value := if room < 1 ∨ 65536 < room then tZ else tC true six room (.slice none 0 0)
set_option maxHeartbeats 4000000 in
theorem rnew_any (six : Bool) (room : Int) (w : World) :
  Calls Try.prog 49 #[.bool six, .int .i64 room] w fun e w' => e = .returned (.agg (newR six room).toArray) ∧ Below w.heap.size w w' := by
 by_cases h1 : room < 1
 ·have HC := Hh (show newR six room = tZ by unfold newR; rw [if_pos (Or.inl h1)])
  go_enter Try.func49, Try.ntmps49
  go_upto_region 1 with (refine wpList_alloc_blk (by rfl) 50 rfl tZ zeroT ?_; intro w1 hb1 hB1 hs1; clear hs1)
  obtain ⟨g0, hg0⟩ : ∃ g, w.heap.size = g := ⟨_, rfl⟩
  have hle : w.heap.size ≤ g0 := by omega
  have HW := Hh hB1
  rw [hg0] at hb1
  try rw [hg0]
  have HT := Hh hb1
  have HL := Hh hle
  clear hb1 hB1 hg0 hle
  go_wp2_with (first
   | (refine wpList_value (by rfl) (exec_buildT0 rfl) ?_)
   | (refine wpList_store_all (by rfl) 50 _ _ rfl g0 (tZ) rfl rfl 50 _ HT.out (sizeT _ _ _ _) rfl (oneT _ _ _) ?_; intro w5 hb5 hg5 hs5))
  have hB5 : Below w.heap.size w w5 := bgrown HW.out hg5 HW.out.size HL.out
  exact bodyPost_ret (results_cell1 rfl _ _ g0 _ _ _ rfl hb5 Try.underlying50 rfl (sizeT _ _ _ _)) rfl ⟨by rw [HC.out], hB5⟩
 by_cases h2 : 65536 < room
 ·have HC := Hh (show newR six room = tZ by unfold newR; rw [if_pos (Or.inr h2)])
  go_enter Try.func49, Try.ntmps49
  go_upto_region 1 with (refine wpList_alloc_blk (by rfl) 50 rfl tZ zeroT ?_; intro w1 hb1 hB1 hs1; clear hs1)
  obtain ⟨g0, hg0⟩ : ∃ g, w.heap.size = g := ⟨_, rfl⟩
  have hle : w.heap.size ≤ g0 := by omega
  have HW := Hh hB1
  rw [hg0] at hb1
  try rw [hg0]
  have HT := Hh hb1
  have HL := Hh hle
  clear hb1 hB1 hg0 hle
  go_wp2_with (first
   | (refine wpList_value (by rfl) (exec_buildT0 rfl) ?_)
   | (refine wpList_store_all (by rfl) 50 _ _ rfl g0 (tZ) rfl rfl 50 _ HT.out (sizeT _ _ _ _) rfl (oneT _ _ _) ?_; intro w5 hb5 hg5 hs5))
  have hB5 : Below w.heap.size w w5 := bgrown HW.out hg5 HW.out.size HL.out
  exact bodyPost_ret (results_cell1 rfl _ _ g0 _ _ _ rfl hb5 Try.underlying50 rfl (sizeT _ _ _ _)) rfl ⟨by rw [HC.out], hB5⟩
 have HC := Hh (show newR six room = tC true six room (.slice none 0 0) by unfold newR; rw [if_neg (by omega)])
 go_enter Try.func49, Try.ntmps49
 go_upto_region 1 with (refine wpList_alloc_blk (by rfl) 50 rfl tZ zeroT ?_; intro w1 hb1 hB1 hs1; clear hs1)
 obtain ⟨g0, hg0⟩ : ∃ g, w.heap.size = g := ⟨_, rfl⟩
 have hle : w.heap.size ≤ g0 := by omega
 have HW := Hh hB1
 rw [hg0] at hb1
 try rw [hg0]
 have HT := Hh hb1
 have HL := Hh hle
 clear hb1 hB1 hg0 hle
 go_wp2_with (first
  | (refine wpList_value (by rfl) (exec_buildT3 _ _ _ rfl true six room rfl rfl rfl) ?_)
  | (refine wpList_store_all (by rfl) 50 _ _ rfl g0 (tC true six room (.slice none 0 0)) rfl rfl 50 _ HT.out (sizeT _ _ _ _) rfl (oneT _ _ _) ?_; intro w5 hb5 hg5 hs5))
 have hB5 : Below w.heap.size w w5 := bgrown HW.out hg5 HW.out.size HL.out
 exact bodyPost_ret (results_cell1 rfl _ _ g0 _ _ _ rfl hb5 Try.underlying50 rfl (sizeT _ _ _ _)) rfl ⟨by rw [HC.out], hB5⟩
end Go.Proofs.Ytdmgomknamdcfaa

/- Rows of items put together and cut; the reference's rows by Compare alone are those by kind. No condition but sizes. -/
namespace Go.Proofs.Ytdmgomknamdcfaa
open Go.RowKit
set_option linter.unusedVariables false
set_option maxRecDepth 20000
set_option linter.unusedSimpArgs false

theorem its_append (x y : List Itm) : its (x ++ y) = its x ++ its y := by simp [its]
theorem its_take (L : List Itm) (h : ∀ x ∈ L, x.1.fit) (k : Nat) (hk : k ≤ L.length) : (its L).take (k * 19) = its (L.take k) := by
 have h1 : its L = its (L.take k) ++ its (L.drop k) := by rw [← its_append, List.take_append_drop]
 have h2 := its_length (L.take k) (fun x hx => h x (List.mem_of_mem_take hx))
 rw [List.length_take, Nat.min_eq_left hk] at h2
 rw [h1]
 exact List.take_left' h2
theorem its_drop (L : List Itm) (h : ∀ x ∈ L, x.1.fit) (k : Nat) (hk : k ≤ L.length) : (its L).drop (k * 19) = its (L.drop k) := by
 have h1 : its L = its (L.take k) ++ its (L.drop k) := by rw [← its_append, List.take_append_drop]
 have h2 := its_length (L.take k) (fun x hx => h x (List.mem_of_mem_take hx))
 rw [List.length_take, Nat.min_eq_left hk] at h2
 rw [h1]
 exact List.drop_left' h2
theorem itC_one (x : Itm) : ∀ u ∈ itC x, u.oneCell' = true := by
 intro u hu
 unfold itC at hu
 rcases List.mem_append.1 hu with h | h
 ·exact onePx x.1 u h
 obtain rfl := List.mem_singleton.1 h
 rfl
theorem its_one (L : List Itm) : ∀ u ∈ its L, u.oneCell' = true := by
 intro u hu
 obtain ⟨x, hx, h⟩ := List.mem_flatMap.1 hu
 exact itC_one x u h
def itZ : List Value := itC (Px.zero, 0)
theorem infoItem : (Try.prog.info? 57).map (fun i => (i.zero, i.size, i.bytes)) = some (some (.agg itZ.toArray), 19, 40) := by kernel_rfl
/-- the row without what stands at the prefix, or would -/
def delC (L : List Itm) (p : Px) : List Itm := L.take (cntC L p) ++ L.drop (cntC L p + 1)
def putC (L : List Itm) (p : Px) (n : Int) : List Itm := L.take (cntC L p) ++ (p, n) :: L.drop (if hasC L p then cntC L p + 1 else cntC L p)
theorem hasC_same {s : Bool} {L : List Itm} (h : Lok s L) {p : Px} (hp : p.addr.length = 16) (hs : p.six = s) : hasC L p = hasP L p := by
 unfold hasC hasP
 rw [cntC_same h hp hs]
 cases L[cntP L p]? <;> rfl
theorem delC_same {s : Bool} {L : List Itm} (h : Lok s L) {p : Px} (hp : p.addr.length = 16) (hs : p.six = s) : delC L p = delP L p := by
 unfold delC delP
 rw [cntC_same h hp hs]
theorem putC_same {s : Bool} {L : List Itm} (h : Lok s L) {p : Px} (hp : p.addr.length = 16) (hs : p.six = s) (n : Int) : putC L p n = putP L p n := by
 unfold putC putP
 rw [cntC_same h hp hs, hasC_same h hp hs]
theorem getC_same {s : Bool} {L : List Itm} (h : Lok s L) {p : Px} (hp : p.addr.length = 16) (hs : p.six = s) : valP L p = (getC L p, hasC L p) := by
 unfold valP
 cases hh : hasC L p
 ·rw [← hasC_same h hp hs, hh, hasC_none hh]
  rfl
 obtain ⟨x, hx, hxp, hg⟩ := hasC_some hh
 rw [← hasC_same h hp hs, hh, ← cntC_same h hp hs, List.getD_eq_getElem?_getD, hx, hg]
 rfl
/-- a prefix that may not be stands nowhere -/
theorem hasC_bad {s : Bool} {L : List Itm} (h : Lok s L) {p : Px} (hp : ¬ (p.good ∧ p.six = s)) : hasC L p = false := by
 cases hh : hasC L p
 ·rfl
 obtain ⟨x, hx, hxp, _⟩ := hasC_some hh
 have hm := List.mem_of_getElem? hx
 exact absurd ⟨hxp ▸ h.good x hm, hxp ▸ h.six x hm⟩ hp
end Go.Proofs.Ytdmgomknamdcfaa

/- What the reference's Delete (layer 9) computes. No condition but sizes. -/
namespace Go.Proofs.Ytdmgomknamdcfaa
open Go.RowKit
set_option linter.unusedVariables false
set_option maxRecDepth 20000
set_option linter.unusedSimpArgs false

def delR (is six : Bool) (L : List Itm) (p : Px) : List Itm × Int := if okR is six p then if hasC L p then (delC L p, 0) else (L, 31) else (L, 1)
theorem oneTs (is six : Bool) (room : Int) (A : Option Addr) (n c : Nat) : ∀ v ∈ tC is six room (.slice A n c), v.oneCell' = true := by
 intro v hv
 simp only [tC, List.mem_cons, List.not_mem_nil, or_false] at hv
 rcases hv with rfl | rfl | rfl | rfl <;> rfl
/-- a row is the old one, or new, or empty -/
def NewA (w : World) (A : Option Addr) (n : Nat) (A' : Option Addr) (n' : Nat) : Prop := 0 < n' → (A' = A ∧ n' ≤ n) ∨ ∃ x, A' = some x ∧ w.heap.size ≤ x.block
set_option maxHeartbeats 4000000 in
theorem rdelete_any (is six : Bool) (room : Int) (L : List Itm) (hL : ∀ x ∈ L, x.1.fit) (A : Option Addr) (n c : Nat) (hn : n ≤ 65536) (hc : n ≤ c) (p : Px) (hf : p.fit) (w : World) (hr : Row w w.heap.size 19 A n (its L)) :
  Calls Try.prog 51 #[.agg (tC is six room (.slice A n c)).toArray, .agg p.cells.toArray] w fun e w' => ∃ A' n' c', e = .returned (.tuple #[.agg (tC is six room (.slice A' n' c')).toArray, .int .i64 (delR is six L p).2]) ∧ Row w' w'.heap.size 19 A' n' (its (delR is six L p).1) ∧ n' ≤ c' ∧ Below w.heap.size w w' ∧ NewA w A n A' n' := by
 have HF := Hh hf
 have HL := Hh hL
 have HR := Hh hr
 have HLN := Hh (its_row hr hL)
 clear hf hL hr
 go_enter Try.func51, Try.ntmps51
 go_upto_region 1 with (first
  | (refine wpList_box_blk (by rfl) 50 (.tmp 0) rfl (tC is six room (.slice A n c)) rfl ?_; intro w1 hb1 hB1 hs1; clear hs1)
  | (refine wpList_box_blk (by rfl) 30 (.tmp 1) rfl p.cells rfl ?_; intro w2 hb2 hB2 hs2; clear hs2)
  | (refine wpList_alloc_blk (by rfl) 50 rfl tZ zeroT ?_; intro w3 hb3 hB3 hs3; clear hs3))
 obtain ⟨g0, hg0⟩ : ∃ g, w.heap.size = g := ⟨_, rfl⟩
 obtain ⟨g1, hg1⟩ : ∃ g, w1.heap.size = g := ⟨_, rfl⟩
 obtain ⟨g2, hg2⟩ : ∃ g, w2.heap.size = g := ⟨_, rfl⟩
 have hk0 := (hb1.on hB2).on hB3
 have hk1 := hb2.on hB3
 have HW := Hh (bthen (bthen hB1 hB2) hB3)
 have hle : w.heap.size ≤ g2 := by have := (bthen hB1 hB2).size; omega
 rw [hg0] at hk0
 rw [hg1] at hk1
 rw [hg2] at hb3
 try rw [hg0]
 try rw [hg1]
 try rw [hg2]
 have HT := Hh hk0
 have HP := Hh hk1
 have HD := Hh hb3
 have HLE := Hh hle
 have HGE := Hh (show w.heap.size ≤ g0 by omega)
 have HNE := Hh (show g2 ≠ g0 by have := hb1.lt; have := hB2.size; omega)
 have HRW := Hh (HR.out.below HW.out)
 have HSZ := Hh HW.out.size
 clear hb1 hB1 hb2 hB2 hb3 hB3 hk0 hk1 hg0 hg1 hg2 hle
 go_wp2_with (first
  | (refine wpList_value (by rfl) (exec_load 50 _ rfl g0 (by rfl) 50 (tC is six room (.slice A n c)) _ HT.out Try.underlying50 rfl (sizeT _ _ _ _)) ?_)
  | (refine wpList_value (by rfl) (exec_load 30 _ rfl g1 (by rfl) 30 p.cells _ HP.out Try.underlying30 rfl (sizePx _ HF.out.addr)) ?_))
 refine (rright_any is six room (.slice A n c) p HF.out w3).mono ?_
 rintro e w4 ⟨rfl, hb⟩
 replace HRW := Hh (HRW.out.below (hb.mono HSZ.out))
 replace HSZ := Hh (Nat.le_trans HSZ.out hb.size)
 replace HT := Hh (HT.out.on hb)
 replace HP := Hh (HP.out.on hb)
 replace HD := Hh (HD.out.on hb)
 replace HW := Hh (bthen HW.out hb)
 clear hb
 cases ho : okR is six p
 ·have HC := Hh (show delR is six L p = (L, 1) by unfold delR; rw [ho]; rfl)
  clear ho
  go_wp2_with (first
   | (refine wpList_value (by rfl) (exec_load 50 _ rfl g0 (by rfl) 50 (tC is six room (.slice A n c)) _ HT.out Try.underlying50 rfl (sizeT _ _ _ _)) ?_)
   | (refine wpList_store_all (by rfl) 50 _ _ rfl g2 (tC is six room (.slice A n c)) rfl rfl 50 _ HD.out (sizeT _ _ _ _) rfl (oneTs _ _ _ _ _ _) ?_; intro w5 hb5 hg5 hs5))
  have hB5 : Below w.heap.size w w5 := bgrown HW.out hg5 HW.out.size HLE.out
  refine bodyPost_ret (results_cell2 rfl _ _ g2 _ _ _ rfl hb5 Try.underlying50 rfl (sizeT _ _ _ _)) rfl ⟨A, n, c, by rw [HC.out]; rfl, ?_, hc, hB5, fun _ => .inl ⟨rfl, Nat.le_refl _⟩⟩
  rw [HC.out]
  exact (HR.out.below hB5).more hB5.size
 have c0 : w4.cell? ⟨g0, 3, none⟩ = some (.slice A n c) := HT.out.cell 3
 have HOK := Hh ho
 clear ho
 go_wp2_with (refine wpList_value (by rfl) (exec_load 30 _ rfl g1 (by rfl) 30 p.cells _ HP.out Try.underlying30 rfl (sizePx _ HF.out.addr)) ?_)
 refine (rfind_any L HL.out A n c (by omega) p HF.out w4 (HRW.out.more HSZ.out)).mono ?_
 rintro e w5 ⟨rfl, hb⟩
 replace HRW := Hh (HRW.out.below (hb.mono HSZ.out))
 replace HSZ := Hh (Nat.le_trans HSZ.out hb.size)
 replace HT := Hh (HT.out.on hb)
 replace HP := Hh (HP.out.on hb)
 replace HD := Hh (HD.out.on hb)
 replace HW := Hh (bthen HW.out hb)
 clear hb c0
 have c0 : w5.cell? ⟨g0, 3, none⟩ = some (.slice A n c) := HT.out.cell 3
 cases hh : hasC L p
 ·have HC := Hh (show delR is six L p = (L, 31) by unfold delR; rw [HOK.out, hh]; rfl)
  clear hh c0
  go_wp2_with (first
   | (refine wpList_value (by rfl) (exec_load 50 _ rfl g0 (by rfl) 50 (tC is six room (.slice A n c)) _ HT.out Try.underlying50 rfl (sizeT _ _ _ _)) ?_)
   | (refine wpList_store_all (by rfl) 50 _ _ rfl g2 (tC is six room (.slice A n c)) rfl rfl 50 _ HD.out (sizeT _ _ _ _) rfl (oneTs _ _ _ _ _ _) ?_; intro w6 hb5 hg5 hs5))
  have hB5 : Below w.heap.size w w6 := bgrown HW.out hg5 HW.out.size HLE.out
  refine bodyPost_ret (results_cell2 rfl _ _ g2 _ _ _ rfl hb5 Try.underlying50 rfl (sizeT _ _ _ _)) rfl ⟨A, n, c, by rw [HC.out]; rfl, ?_, hc, hB5, fun _ => .inl ⟨rfl, Nat.le_refl _⟩⟩
  rw [HC.out]
  exact (HR.out.below hB5).more hB5.size
 have HC := Hh (show delR is six L p = (delC L p, 0) by unfold delR; rw [HOK.out, hh]; rfl)
 obtain ⟨x, hx, _, _⟩ := hasC_some hh
 obtain ⟨k, hk⟩ : ∃ k, cntC L p = k := ⟨_, rfl⟩
 rw [hk] at hx
 try rw [hk]
 have hlt : k < n := by rw [← HLN.out]; exact (List.getElem?_eq_some_iff.1 hx).1
 have HCN := Hh hk
 have hlt2 : (k : Int) < (n : Int) := by omega
 have hlt3 : (k : Int) + 1 ≤ (n : Int) := by omega
 have hlt4 : k + 1 ≤ c := by omega
 clear hh hx hk
 have HSZ0 := Hh HSZ.out
 have HO := Hh (Own.nil w5 w5.heap.size 57 19 none)
 have HR1 := Hh (((HRW.out.more HSZ.out).take (k := k) (by omega)))
 have H1 := Hh (show ∀ u ∈ (its L).take (k * 19), u.oneCell' = true from fun u hu => its_one L u (List.mem_of_mem_take hu))
 go_upto_region 9 with (at_builtin; refine wpList_append_Own _ rfl _ _ 48 rfl w5.heap.size 57 _ 19 40 Try.underlying48 infoItem rfl (by decide) _ _ _ _ rfl HO.out w5.heap.size _ _ _ ((its L).take (k * 19)) rfl HR1.out H1.out (by simp only [maxLen]; omega) (by omega) (Nat.le_refl _) ?_; intro A6 c6 w6 hown6 hg6 hA6)
 have HG0 := Hh HT.out.lt
 have HG2 := Hh HD.out.lt
 have HSZ5 := Hh HSZ.out
 have hb6 : Below w5.heap.size w5 w6 := grow_below (by exact hg6)
 have hO6 := hown6
 rw [List.nil_append, Nat.zero_add] at hO6
 have HO6 := Hh hO6
 replace HRW := Hh (HRW.out.below (hb6.mono HSZ.out))
 replace HSZ := Hh (Nat.le_trans HSZ.out hb6.size)
 replace HT := Hh (HT.out.on hb6)
 replace HD := Hh (HD.out.on hb6)
 replace HW := Hh (bthen HW.out hb6)
 have HS6 := Hh hb6.size
 clear c0 hown6 hg6 hA6 hO6 hb6 HO HR1 H1 HP
 have c0 : w6.cell? ⟨g0, 3, none⟩ = some (.slice A n c) := HT.out.cell 3
 have HR2 := Hh (((HRW.out.more HSZ.out).cut (k := k + 1) (by omega) hc))
 have H2 := Hh (show ∀ u ∈ (its L).drop ((k + 1) * 19), u.oneCell' = true from fun u hu => its_one L u (List.mem_of_mem_drop hu))
 go_upto_region 10 with (at_builtin; refine wpList_append_Own _ rfl _ _ 48 rfl w5.heap.size 57 _ 19 40 Try.underlying48 infoItem rfl (by decide) _ _ _ _ rfl HO6.out w6.heap.size _ _ _ ((its L).drop ((k + 1) * 19)) rfl HR2.out H2.out (by simp only [maxLen]; omega) (by omega) HS6.out ?_; intro A7 c7 w7 hown7 hg7 hA7)
 all_goals (
  have hb7 : Below w5.heap.size w6 w7 := (Below.refl w5.heap.size w6).grown hg7 HS6.out (fun g hg => (HO6.out.lt g hg).1)
  have HT7 := Hh (HT.out.below hb7 HG0.out)
  have HD7 := Hh (HD.out.below hb7 HG2.out)
  have HW7 := Hh (HW.out.trans (hb7.mono HSZ5.out))
  have HO7 := Hh hown7
  have hn7 : k + (n - (k + 1)) = n - 1 := by omega
  rw [its_take L HL.out k (by rw [HLN.out]; omega), its_drop L HL.out (k + 1) (by rw [HLN.out]; omega), ← its_append, hn7] at hown7
  have HOD := Hh (show its (delC L p) = its (L.take k ++ L.drop (k + 1)) by unfold delC; rw [HCN.out])
  have HO8 := Hh hown7
  clear hb7 hg7 hA7 c0 hown7 HO7
  have c0 := HT7.out.cell 3
  have f0 : w7.frozen? ⟨g0, 3, none⟩ = false := HT7.out.frozen 3
  simp only [tC, List.getElem?_cons_succ, List.getElem?_cons_zero] at c0
  rw [hn7]
  go_wp2_with (first
   | (refine wpList_value (by rfl) (exec_load 50 _ rfl g0 (by rfl) 50 (tC is six room (.slice A7 (n - 1) c7)) _ (HT7.out.set 3 _) Try.underlying50 rfl (sizeT _ _ _ _)) ?_)
   | (refine wpList_store_all (by rfl) 50 _ _ rfl g2 (tC is six room (.slice A7 (n - 1) c7)) rfl rfl 50 _ (HD7.out.far HNE.out _) (sizeT _ _ _ _) rfl (oneTs _ _ _ _ _ _) ?_; intro w8 hb8 hg8 hs8))
  all_goals (
   have hgs : w7.grownBy (w7.setCell ⟨g0, 3, none⟩ (.slice A7 (n - 1) c7)) (some g0) := grown_set (grown_refl w7 _) 3 _
   have hO9 := (HO8.out.kept hgs (fun g hg e => by injection e with e; have := (HO8.out.lt g hg).1; have := HG0.out; omega)).kept hg8 (fun g hg e => by injection e with e; have := (HO8.out.lt g hg).1; have := HG2.out; omega)
   have hB9 := bgrown (bgrown HW7.out hgs HW7.out.size HGE.out) hg8 (Nat.le_trans HW7.out.size hgs.size) HLE.out
   refine bodyPost_ret (results_cell2 rfl _ _ g2 _ _ _ rfl hb8 Try.underlying50 rfl (sizeT _ _ _ _)) rfl ⟨A7, n - 1, c7, by rw [HC.out]; rfl, ?_, hO9.le, hB9, fun h0 => by obtain ⟨g9, h9, hb9, _⟩ := hO9.open_ h0; exact .inr ⟨⟨g9, 0, none⟩, h9, Nat.le_trans HSZ0.out hb9⟩⟩
   rw [HC.out]
   show Row _ _ 19 _ _ (its (delC L p))
   rw [HOD.out]
   exact hO9.row))
end Go.Proofs.Ytdmgomknamdcfaa

/- An item built; what the reference's Put answers. No condition but sizes. -/
namespace Go.Proofs.Ytdmgomknamdcfaa
open Go.RowKit
set_option linter.unusedVariables false
set_option maxRecDepth 20000
set_option linter.unusedSimpArgs false

theorem run_buildI (p : Px) (hp : p.addr.length = 16) (n : Int) (w : World) : (Instr.build 57 #[(0, .agg p.cells.toArray), (1, .int .i64 n)]).run Try.prog w = .ok (.agg (itC (p, n)).toArray) w := by
 obtain ⟨b, l, m⟩ := p
 obtain ⟨s0, s1, s2, s3, s4, s5, s6, s7, s8, s9, s10, s11, s12, s13, s14, s15, rfl⟩ := list16p l hp
 kernel_rfl
theorem exec_buildI {w : World} {o : Oper} {q : Act} (x0 x1 : Operand) (ho : o.op = .build 57 #[(0, x0), (1, x1)]) (p : Px) (hp : p.addr.length = 16) (n : Int) (h0 : q.eval x0 = .agg p.cells.toArray) (h1 : q.eval x1 = .int .i64 n) :
  (execOp q.eval o).run Try.prog w = .ok (.value (.agg (itC (p, n)).toArray)) w := by
 unfold execOp
 simp only [ho, List.map_toArray, List.map_cons, List.map_nil, h0, h1, Sem.run_bind, run_buildI p hp n, Result.andThen_ok]
 rfl
theorem cntC_le (L : List Itm) (p : Px) : cntC L p ≤ L.length := by
 induction L with
 | nil => exact Nat.le_refl _
 | cons x L ih =>
  unfold cntC
  split
  ·simp; omega
  omega
theorem exec_sliceI {w : World} {o : Oper} {q : Act} (x0 : Operand) (ho : o.op = .buildSlice 48 1 #[(0, x0)]) (p : Px) (hp : p.addr.length = 16) (n : Int) (h0 : q.eval x0 = .agg (itC (p, n)).toArray) :
  (execOp q.eval o).run Try.prog w = .ok (.value (.slice (some ⟨w.heap.size, 0, none⟩) 1 1)) (w.alloc (.cells (itC (p, n)).toArray 57)) := by
 unfold execOp
 simp only [ho, List.map_toArray, List.map_cons, List.map_nil, h0]
 clear h0 ho
 obtain ⟨b, l, m⟩ := p
 obtain ⟨s0, s1, s2, s3, s4, s5, s6, s7, s8, s9, s10, s11, s12, s13, s14, s15, rfl⟩ := list16p l hp
 first | kernel_rfl | rfl
/-- what Put makes of a row, and its code -/
def putR (is six : Bool) (room : Int) (L : List Itm) (p : Px) (n : Int) : List Itm × Int :=
 if okR is six p then if hasC L p = false ∧ (L.length : Int) = room then (L, 30) else (putC L p n, 0) else (L, 1)
set_option maxHeartbeats 4000000 in
theorem rput_any (is six : Bool) (room : Int) (L : List Itm) (hL : ∀ x ∈ L, x.1.fit) (A : Option Addr) (n c : Nat) (hn : n ≤ 65536) (hc : n ≤ c) (p : Px) (v0 : Int) (hf : p.fit) (w : World) (hr : Row w w.heap.size 19 A n (its L)) :
  Calls Try.prog 50 #[.agg (tC is six room (.slice A n c)).toArray, .agg p.cells.toArray, .int .i64 v0] w fun e w' => ∃ A' n' c', e = .returned (.tuple #[.agg (tC is six room (.slice A' n' c')).toArray, .int .i64 (putR is six room L p v0).2]) ∧ Row w' w'.heap.size 19 A' n' (its (putR is six room L p v0).1) ∧ n' ≤ c' ∧ Below w.heap.size w w' ∧ NewA w A n A' n' := by
 have HF := Hh hf
 have HL := Hh hL
 have HR := Hh hr
 have HLN := Hh (its_row hr hL)
 clear hf hL hr
 go_enter Try.func50, Try.ntmps50
 go_upto_region 1 with (first
  | (refine wpList_box_blk (by rfl) 50 (.tmp 0) rfl (tC is six room (.slice A n c)) rfl ?_; intro w1 hb1 hB1 hs1; clear hs1)
  | (refine wpList_box_blk (by rfl) 30 (.tmp 1) rfl p.cells rfl ?_; intro w2 hb2 hB2 hs2; clear hs2)
  | (refine wpList_alloc_blk (by rfl) 50 rfl tZ zeroT ?_; intro w3 hb3 hB3 hs3; clear hs3))
 obtain ⟨g0, hg0⟩ : ∃ g, w.heap.size = g := ⟨_, rfl⟩
 obtain ⟨g1, hg1⟩ : ∃ g, w1.heap.size = g := ⟨_, rfl⟩
 obtain ⟨g2, hg2⟩ : ∃ g, w2.heap.size = g := ⟨_, rfl⟩
 have hk0 := (hb1.on hB2).on hB3
 have hk1 := hb2.on hB3
 have HW := Hh (bthen (bthen hB1 hB2) hB3)
 have hle : w.heap.size ≤ g2 := by have := (bthen hB1 hB2).size; omega
 rw [hg0] at hk0
 rw [hg1] at hk1
 rw [hg2] at hb3
 try rw [hg0]
 try rw [hg1]
 try rw [hg2]
 have HT := Hh hk0
 have HP := Hh hk1
 have HD := Hh hb3
 have HLE := Hh hle
 have HGE := Hh (show w.heap.size ≤ g0 by omega)
 have HNE := Hh (show g2 ≠ g0 by have := hb1.lt; have := hB2.size; omega)
 have HRW := Hh (HR.out.below HW.out)
 have HSZ := Hh HW.out.size
 clear hb1 hB1 hb2 hB2 hb3 hB3 hk0 hk1 hg0 hg1 hg2 hle
 go_wp2_with (first
  | (refine wpList_value (by rfl) (exec_load 50 _ rfl g0 (by rfl) 50 (tC is six room (.slice A n c)) _ HT.out Try.underlying50 rfl (sizeT _ _ _ _)) ?_)
  | (refine wpList_value (by rfl) (exec_load 30 _ rfl g1 (by rfl) 30 p.cells _ HP.out Try.underlying30 rfl (sizePx _ HF.out.addr)) ?_))
 refine (rright_any is six room (.slice A n c) p HF.out w3).mono ?_
 rintro e w4 ⟨rfl, hb⟩
 replace HRW := Hh (HRW.out.below (hb.mono HSZ.out))
 replace HSZ := Hh (Nat.le_trans HSZ.out hb.size)
 replace HT := Hh (HT.out.on hb)
 replace HP := Hh (HP.out.on hb)
 replace HD := Hh (HD.out.on hb)
 replace HW := Hh (bthen HW.out hb)
 clear hb
 cases ho : okR is six p
 ·have HC := Hh (show putR is six room L p v0 = (L, 1) by unfold putR; rw [ho]; rfl)
  clear ho
  go_wp2_with (first
   | (refine wpList_value (by rfl) (exec_load 50 _ rfl g0 (by rfl) 50 (tC is six room (.slice A n c)) _ HT.out Try.underlying50 rfl (sizeT _ _ _ _)) ?_)
   | (refine wpList_store_all (by rfl) 50 _ _ rfl g2 (tC is six room (.slice A n c)) rfl rfl 50 _ HD.out (sizeT _ _ _ _) rfl (oneTs _ _ _ _ _ _) ?_; intro w5 hb5 hg5 hs5))
  have hB5 : Below w.heap.size w w5 := bgrown HW.out hg5 HW.out.size HLE.out
  refine bodyPost_ret (results_cell2 rfl _ _ g2 _ _ _ rfl hb5 Try.underlying50 rfl (sizeT _ _ _ _)) rfl ⟨A, n, c, by rw [HC.out]; rfl, ?_, hc, hB5, fun _ => .inl ⟨rfl, Nat.le_refl _⟩⟩
  rw [HC.out]
  exact (HR.out.below hB5).more hB5.size
 have c0 : w4.cell? ⟨g0, 3, none⟩ = some (.slice A n c) := HT.out.cell 3
 have HOK := Hh ho
 clear ho
 go_wp2_with (refine wpList_value (by rfl) (exec_load 30 _ rfl g1 (by rfl) 30 p.cells _ HP.out Try.underlying30 rfl (sizePx _ HF.out.addr)) ?_)
 refine (rfind_any L HL.out A n c (by omega) p HF.out w4 (HRW.out.more HSZ.out)).mono ?_
 rintro e w5 ⟨rfl, hb⟩
 replace HRW := Hh (HRW.out.below (hb.mono HSZ.out))
 replace HSZ := Hh (Nat.le_trans HSZ.out hb.size)
 replace HT := Hh (HT.out.on hb)
 replace HP := Hh (HP.out.on hb)
 replace HD := Hh (HD.out.on hb)
 replace HW := Hh (bthen HW.out hb)
 clear hb c0
 have c0 : w5.cell? ⟨g0, 3, none⟩ = some (.slice A n c) := HT.out.cell 3
 have c1 : w5.cell? ⟨g0, 2, none⟩ = some (.int .i64 room) := HT.out.cell 2
 cases hh : hasC L p
 ·by_cases hroom : (n : Int) = room
  ·have HC := Hh (show putR is six room L p v0 = (L, 30) by unfold putR; rw [HOK.out, if_pos rfl, if_pos ⟨hh, by rw [HLN.out]; exact hroom⟩])
   clear hh
   go_wp2_with (first
    | (refine wpList_value (by rfl) (exec_load 50 _ rfl g0 (by rfl) 50 (tC is six room (.slice A n c)) _ HT.out Try.underlying50 rfl (sizeT _ _ _ _)) ?_)
    | (refine wpList_store_all (by rfl) 50 _ _ rfl g2 (tC is six room (.slice A n c)) rfl rfl 50 _ HD.out (sizeT _ _ _ _) rfl (oneTs _ _ _ _ _ _) ?_; intro w6 hb5 hg5 hs5))
   have hB5 : Below w.heap.size w w6 := bgrown HW.out hg5 HW.out.size HLE.out
   refine bodyPost_ret (results_cell2 rfl _ _ g2 _ _ _ rfl hb5 Try.underlying50 rfl (sizeT _ _ _ _)) rfl ⟨A, n, c, by rw [HC.out]; rfl, ?_, hc, hB5, fun _ => .inl ⟨rfl, Nat.le_refl _⟩⟩
   rw [HC.out]
   exact (HR.out.below hB5).more hB5.size
  have HC := Hh (show putR is six room L p v0 = (putC L p v0, 0) by unfold putR; rw [HOK.out, if_pos rfl, if_neg (fun e => hroom (by rw [← e.2, HLN.out]))])
  have HHH := Hh (show (if hasC L p = true then cntC L p + 1 else cntC L p) = cntC L p by rw [hh]; rfl)
  have hrf : ((n : Int) == room) = false := by simpa using hroom
  clear hh hroom
  have HSZ0 := Hh HSZ.out
  obtain ⟨k, hk⟩ : ∃ k, cntC L p = k := ⟨_, rfl⟩
  have hlt : k ≤ n := by rw [← HLN.out, ← hk]; exact cntC_le L p
  have HCN := Hh hk
  try rw [hk]
  have HO := Hh (Own.nil w5 w5.heap.size 57 19 none)
  have HR1 := Hh (((HRW.out.more HSZ.out).take (k := k) (by omega)))
  have H1 := Hh (show ∀ u ∈ (its L).take (k * 19), u.oneCell' = true from fun u hu => its_one L u (List.mem_of_mem_take hu))
  clear hk
  go_upto_region 9 with (at_builtin; refine wpList_append_Own _ rfl _ _ 48 rfl w5.heap.size 57 _ 19 40 Try.underlying48 infoItem rfl (by decide) _ _ _ _ rfl HO.out w5.heap.size _ _ _ ((its L).take (k * 19)) rfl HR1.out H1.out (by simp only [maxLen]; omega) (by omega) (Nat.le_refl _) ?_; intro A6 c6 w6 hown6 hg6 hA6)
  have HG0 := Hh HT.out.lt
  have HG2 := Hh HD.out.lt
  have HSZ5 := Hh HSZ.out
  have hb6 : Below w5.heap.size w5 w6 := grow_below (by exact hg6)
  have hO6 := hown6
  rw [List.nil_append, Nat.zero_add] at hO6
  have HO6 := Hh hO6
  replace HRW := Hh (HRW.out.below (hb6.mono HSZ.out))
  replace HSZ := Hh (Nat.le_trans HSZ.out hb6.size)
  replace HT := Hh (HT.out.on hb6)
  replace HP := Hh (HP.out.on hb6)
  replace HD := Hh (HD.out.on hb6)
  replace HW := Hh (bthen HW.out hb6)
  have HS6 := Hh hb6.size
  have hBk := Blk.new w6 57 (itC (p, v0))
  have hrw := hBk.row 19 0 1 (by rw [itC_length (p, v0) HF.out.addr]; omega)
  rw [List.drop_zero, Nat.one_mul, List.take_of_length_le (by rw [itC_length (p, v0) HF.out.addr]; omega)] at hrw
  have HRI := Hh hrw
  have HAL := Hh (alloc_below w6 (.cells (itC (p, v0)).toArray 57))
  have H2 := Hh (itC_one (p, v0))
  clear c0 c1 hown6 hg6 hA6 hO6 hb6 HO HR1 H1 hBk hrw
  go_upto_region 10 with (first
   | (refine wpList_value (by rfl) (exec_load 30 _ rfl g1 (by rfl) 30 p.cells _ HP.out Try.underlying30 rfl (sizePx _ HF.out.addr)) ?_)
   | (refine wpList_value (by rfl) (exec_buildI _ _ rfl p HF.out.addr v0 rfl rfl) ?_)
   | (refine wpList_value (by rfl) (exec_sliceI _ rfl p HF.out.addr v0 rfl) ?_)
   | (at_builtin; refine wpList_append_Own _ rfl _ _ 48 rfl w5.heap.size 57 _ 19 40 Try.underlying48 infoItem rfl (by decide) _ _ _ _ rfl (HO6.out.alloc _) (w6.alloc (.cells (itC (p, v0)).toArray 57)).heap.size (some ⟨w6.heap.size, 0, none⟩) 1 1 (itC (p, v0)) rfl HRI.out H2.out (by simp only [maxLen]; omega) (by omega) (Nat.le_trans HS6.out HAL.out.size) ?_; intro A7 c7 w7 hown7 hg7 hA7))
  have hb7 : Below w5.heap.size w6 w7 := (HAL.out.mono HS6.out).grown hg7 (Nat.le_trans HS6.out HAL.out.size) (fun g hg => (HO6.out.lt g hg).1)
  have HT7 := Hh (HT.out.below hb7 HG0.out)
  have HD7 := Hh (HD.out.below hb7 HG2.out)
  have HW7 := Hh (HW.out.trans (hb7.mono HSZ5.out))
  have HO7 := Hh hown7
  have HRW7 := Hh (HRW.out.below (hb7.mono HSZ5.out))
  have HSZ7 := Hh (Nat.le_trans HSZ.out hb7.size)
  have HS7 := Hh (Nat.le_trans HS6.out hb7.size)
  have c0 : w7.cell? ⟨g0, 3, none⟩ = some (.slice A n c) := HT7.out.cell 3
  have HR3 := Hh (((HRW7.out.more HSZ7.out).cut (k := k) (by omega) hc))
  have H3 := Hh (show ∀ u ∈ (its L).drop ((k) * 19), u.oneCell' = true from fun u hu => its_one L u (List.mem_of_mem_drop hu))
  clear hown7 hg7 hA7 hb7
  go_upto_region 13 with (at_builtin; refine wpList_append_Own _ rfl _ _ 48 rfl w5.heap.size 57 _ 19 40 Try.underlying48 infoItem rfl (by decide) _ _ _ _ rfl HO7.out w7.heap.size _ _ _ ((its L).drop ((k) * 19)) rfl HR3.out H3.out (by simp only [maxLen]; omega) (by omega) HS7.out ?_; intro A8 c8 w8 hown8 hg8 hA8)
  all_goals (
   have hb8 : Below w5.heap.size w7 w8 := (Below.refl w5.heap.size w7).grown hg8 HS7.out (fun g hg => (HO7.out.lt g hg).1)
   have HT8 := Hh (HT7.out.below hb8 HG0.out)
   have HD8 := Hh (HD7.out.below hb8 HG2.out)
   have HW8 := Hh (HW7.out.trans (hb8.mono HSZ5.out))
   have hn8 : k + 1 + (n - (k)) = n + 1 := by omega
   rw [its_take L HL.out k (by rw [HLN.out]; omega), its_drop L HL.out (k) (by rw [HLN.out]; omega), hn8, List.append_assoc] at hown8
   have HOD := Hh (show its (putC L p v0) = its (L.take k) ++ (itC (p, v0) ++ its (L.drop (k))) by unfold putC; rw [HHH.out, HCN.out, its_append]; rfl)
   have HO8 := Hh hown8
   clear hb8 hg8 hA8 c0 hown8
   have c0 := HT8.out.cell 3
   have f0 : w8.frozen? ⟨g0, 3, none⟩ = false := HT8.out.frozen 3
   simp only [tC, List.getElem?_cons_succ, List.getElem?_cons_zero] at c0
   rw [hn8]
   go_wp2_with (first
    | (refine wpList_value (by rfl) (exec_load 50 _ rfl g0 (by rfl) 50 (tC is six room (.slice A8 (n + 1) c8)) _ (HT8.out.set 3 _) Try.underlying50 rfl (sizeT _ _ _ _)) ?_)
    | (refine wpList_store_all (by rfl) 50 _ _ rfl g2 (tC is six room (.slice A8 (n + 1) c8)) rfl rfl 50 _ (HD8.out.far HNE.out _) (sizeT _ _ _ _) rfl (oneTs _ _ _ _ _ _) ?_; intro w9 hb9 hg9 hs9))
   all_goals (
    have hgs : w8.grownBy (w8.setCell ⟨g0, 3, none⟩ (.slice A8 (n + 1) c8)) (some g0) := grown_set (grown_refl w8 _) 3 _
    have hO9 := (HO8.out.kept hgs (fun g hg e => by injection e with e; have := (HO8.out.lt g hg).1; have := HG0.out; omega)).kept hg9 (fun g hg e => by injection e with e; have := (HO8.out.lt g hg).1; have := HG2.out; omega)
    have hB9 := bgrown (bgrown HW8.out hgs HW8.out.size HGE.out) hg9 (Nat.le_trans HW8.out.size hgs.size) HLE.out
    refine bodyPost_ret (results_cell2 rfl _ _ g2 _ _ _ rfl hb9 Try.underlying50 rfl (sizeT _ _ _ _)) rfl ⟨A8, n + 1, c8, by rw [HC.out]; rfl, ?_, hO9.le, hB9, fun h0 => by obtain ⟨g9, h9, hbb9, _⟩ := hO9.open_ h0; exact .inr ⟨⟨g9, 0, none⟩, h9, Nat.le_trans HSZ0.out hbb9⟩⟩
    rw [HC.out]
    show Row _ _ 19 _ _ (its (putC L p v0))
    rw [HOD.out]
    exact hO9.row))
 have HC := Hh (show putR is six room L p v0 = (putC L p v0, 0) by unfold putR; rw [HOK.out, if_pos rfl, if_neg (fun e => by rw [hh] at e; exact Bool.noConfusion e.1)])
 have HHH := Hh (show (if hasC L p = true then cntC L p + 1 else cntC L p) = cntC L p + 1 by rw [hh]; rfl)
 obtain ⟨x9, hx9, _, _⟩ := hasC_some hh
 have hlt0 : cntC L p < L.length := (List.getElem?_eq_some_iff.1 hx9).1
 clear hh hx9
 have HSZ0 := Hh HSZ.out
 obtain ⟨k, hk⟩ : ∃ k, cntC L p = k := ⟨_, rfl⟩
 have hlt : k < n := by rw [← HLN.out, ← hk]; exact hlt0
 have HCN := Hh hk
 try rw [hk]
 have HO := Hh (Own.nil w5 w5.heap.size 57 19 none)
 have HR1 := Hh (((HRW.out.more HSZ.out).take (k := k) (by omega)))
 have H1 := Hh (show ∀ u ∈ (its L).take (k * 19), u.oneCell' = true from fun u hu => its_one L u (List.mem_of_mem_take hu))
 clear hk
 go_upto_region 9 with (at_builtin; refine wpList_append_Own _ rfl _ _ 48 rfl w5.heap.size 57 _ 19 40 Try.underlying48 infoItem rfl (by decide) _ _ _ _ rfl HO.out w5.heap.size _ _ _ ((its L).take (k * 19)) rfl HR1.out H1.out (by simp only [maxLen]; omega) (by omega) (Nat.le_refl _) ?_; intro A6 c6 w6 hown6 hg6 hA6)
 have HG0 := Hh HT.out.lt
 have HG2 := Hh HD.out.lt
 have HSZ5 := Hh HSZ.out
 have hb6 : Below w5.heap.size w5 w6 := grow_below (by exact hg6)
 have hO6 := hown6
 rw [List.nil_append, Nat.zero_add] at hO6
 have HO6 := Hh hO6
 replace HRW := Hh (HRW.out.below (hb6.mono HSZ.out))
 replace HSZ := Hh (Nat.le_trans HSZ.out hb6.size)
 replace HT := Hh (HT.out.on hb6)
 replace HP := Hh (HP.out.on hb6)
 replace HD := Hh (HD.out.on hb6)
 replace HW := Hh (bthen HW.out hb6)
 have HS6 := Hh hb6.size
 have hBk := Blk.new w6 57 (itC (p, v0))
 have hrw := hBk.row 19 0 1 (by rw [itC_length (p, v0) HF.out.addr]; omega)
 rw [List.drop_zero, Nat.one_mul, List.take_of_length_le (by rw [itC_length (p, v0) HF.out.addr]; omega)] at hrw
 have HRI := Hh hrw
 have HAL := Hh (alloc_below w6 (.cells (itC (p, v0)).toArray 57))
 have H2 := Hh (itC_one (p, v0))
 clear c0 c1 hown6 hg6 hA6 hO6 hb6 HO HR1 H1 hBk hrw
 go_upto_region 10 with (first
  | (refine wpList_value (by rfl) (exec_load 30 _ rfl g1 (by rfl) 30 p.cells _ HP.out Try.underlying30 rfl (sizePx _ HF.out.addr)) ?_)
  | (refine wpList_value (by rfl) (exec_buildI _ _ rfl p HF.out.addr v0 rfl rfl) ?_)
  | (refine wpList_value (by rfl) (exec_sliceI _ rfl p HF.out.addr v0 rfl) ?_)
  | (at_builtin; refine wpList_append_Own _ rfl _ _ 48 rfl w5.heap.size 57 _ 19 40 Try.underlying48 infoItem rfl (by decide) _ _ _ _ rfl (HO6.out.alloc _) (w6.alloc (.cells (itC (p, v0)).toArray 57)).heap.size (some ⟨w6.heap.size, 0, none⟩) 1 1 (itC (p, v0)) rfl HRI.out H2.out (by simp only [maxLen]; omega) (by omega) (Nat.le_trans HS6.out HAL.out.size) ?_; intro A7 c7 w7 hown7 hg7 hA7))
 have hb7 : Below w5.heap.size w6 w7 := (HAL.out.mono HS6.out).grown hg7 (Nat.le_trans HS6.out HAL.out.size) (fun g hg => (HO6.out.lt g hg).1)
 have HT7 := Hh (HT.out.below hb7 HG0.out)
 have HD7 := Hh (HD.out.below hb7 HG2.out)
 have HW7 := Hh (HW.out.trans (hb7.mono HSZ5.out))
 have HO7 := Hh hown7
 have HRW7 := Hh (HRW.out.below (hb7.mono HSZ5.out))
 have HSZ7 := Hh (Nat.le_trans HSZ.out hb7.size)
 have HS7 := Hh (Nat.le_trans HS6.out hb7.size)
 have c0 : w7.cell? ⟨g0, 3, none⟩ = some (.slice A n c) := HT7.out.cell 3
 have HR3 := Hh (((HRW7.out.more HSZ7.out).cut (k := k + 1) (by omega) hc))
 have H3 := Hh (show ∀ u ∈ (its L).drop ((k + 1) * 19), u.oneCell' = true from fun u hu => its_one L u (List.mem_of_mem_drop hu))
 clear hown7 hg7 hA7 hb7
 go_upto_region 13 with (at_builtin; refine wpList_append_Own _ rfl _ _ 48 rfl w5.heap.size 57 _ 19 40 Try.underlying48 infoItem rfl (by decide) _ _ _ _ rfl HO7.out w7.heap.size _ _ _ ((its L).drop ((k + 1) * 19)) rfl HR3.out H3.out (by simp only [maxLen]; omega) (by omega) HS7.out ?_; intro A8 c8 w8 hown8 hg8 hA8)
 all_goals (
  have hb8 : Below w5.heap.size w7 w8 := (Below.refl w5.heap.size w7).grown hg8 HS7.out (fun g hg => (HO7.out.lt g hg).1)
  have HT8 := Hh (HT7.out.below hb8 HG0.out)
  have HD8 := Hh (HD7.out.below hb8 HG2.out)
  have HW8 := Hh (HW7.out.trans (hb8.mono HSZ5.out))
  have hn8 : k + 1 + (n - (k + 1)) = n := by omega
  rw [its_take L HL.out k (by rw [HLN.out]; omega), its_drop L HL.out (k + 1) (by rw [HLN.out]; omega), hn8, List.append_assoc] at hown8
  have HOD := Hh (show its (putC L p v0) = its (L.take k) ++ (itC (p, v0) ++ its (L.drop (k + 1))) by unfold putC; rw [HHH.out, HCN.out, its_append]; rfl)
  have HO8 := Hh hown8
  clear hb8 hg8 hA8 c0 hown8
  have c0 := HT8.out.cell 3
  have f0 : w8.frozen? ⟨g0, 3, none⟩ = false := HT8.out.frozen 3
  simp only [tC, List.getElem?_cons_succ, List.getElem?_cons_zero] at c0
  rw [hn8]
  go_wp2_with (first
   | (refine wpList_value (by rfl) (exec_load 50 _ rfl g0 (by rfl) 50 (tC is six room (.slice A8 (n) c8)) _ (HT8.out.set 3 _) Try.underlying50 rfl (sizeT _ _ _ _)) ?_)
   | (refine wpList_store_all (by rfl) 50 _ _ rfl g2 (tC is six room (.slice A8 (n) c8)) rfl rfl 50 _ (HD8.out.far HNE.out _) (sizeT _ _ _ _) rfl (oneTs _ _ _ _ _ _) ?_; intro w9 hb9 hg9 hs9))
  all_goals (
   have hgs : w8.grownBy (w8.setCell ⟨g0, 3, none⟩ (.slice A8 (n) c8)) (some g0) := grown_set (grown_refl w8 _) 3 _
   have hO9 := (HO8.out.kept hgs (fun g hg e => by injection e with e; have := (HO8.out.lt g hg).1; have := HG0.out; omega)).kept hg9 (fun g hg e => by injection e with e; have := (HO8.out.lt g hg).1; have := HG2.out; omega)
   have hB9 := bgrown (bgrown HW8.out hgs HW8.out.size HGE.out) hg9 (Nat.le_trans HW8.out.size hgs.size) HLE.out
   refine bodyPost_ret (results_cell2 rfl _ _ g2 _ _ _ rfl hb9 Try.underlying50 rfl (sizeT _ _ _ _)) rfl ⟨A8, n, c8, by rw [HC.out]; rfl, ?_, hO9.le, hB9, fun h0 => by obtain ⟨g9, h9, hbb9, _⟩ := hO9.open_ h0; exact .inr ⟨⟨g9, 0, none⟩, h9, Nat.le_trans HSZ0.out hbb9⟩⟩
   rw [HC.out]
   show Row _ _ 19 _ _ (its (putC L p v0))
   rw [HOD.out]
   exact hO9.row))
end Go.Proofs.Ytdmgomknamdcfaa


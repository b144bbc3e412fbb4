/- Texts of this claim put together, in build order: each one's own remark stands ahead of it. -/
import Derived.Test.YtdmgomknamdcfaaG02
import Derived.Test.YtdmgomknamdcfaaG17
import Derived.Deep.DeepCutAuto
/- What the table's New and Look (layer 9) compute. No condition but sizes. -/
namespace Go.Proofs.Ytdmgomknamdcfaa
open Go.RowKit
set_option linter.unusedVariables false
set_option maxRecDepth 20000
set_option linter.unusedSimpArgs false

def newT (six : Bool) (room : Int) : Tb := ⟨six, room, 0, [Nd.zero], [], 0⟩
theorem exec_makeNd {w : World} {o : Oper} {q : Act} (ho : o.op = .makeSlice 90 (.const (.int .i64 1)) (.const (.int .i64 1))) : (execOp q.eval o).run Try.prog w = .ok (.value (.slice (some ⟨w.heap.size, 0, none⟩) 1 1)) (w.alloc (.cells Nd.zero.cells.toArray 98)) := by
 unfold execOp
 simp only [ho]
 kernel_rfl
theorem run_buildTb (six : Bool) (room : Int) (A : Option Addr) (n c : Nat) (w : World) : (Instr.build 93 #[(0, .bool six), (1, .int .i64 room), (3, .slice A n c)]).run Try.prog w = .ok (.agg (#[.bool six, .int .i64 room, .int .i64 0, .slice A n c, .slice none 0 0, .int .i64 0])) w := by kernel_rfl
theorem exec_buildTb {w : World} {o : Oper} {q : Act} (x0 x1 x3 : Operand) (ho : o.op = .build 93 #[(0, x0), (1, x1), (3, x3)]) (six : Bool) (room : Int) (A : Option Addr) (c : Nat) (h0 : q.eval x0 = .bool six) (h1 : q.eval x1 = .int .i64 room) (h3 : q.eval x3 = .slice A 1 c) :
  (execOp q.eval o).run Try.prog w = .ok (.value (.agg (tbC (newT six room) A c none 0).toArray)) w := by
 unfold execOp
 simp only [ho, List.map_toArray, List.map_cons, List.map_nil, h0, h1, h3, Sem.run_bind, run_buildTb, Result.andThen_ok]
 rfl
theorem tnew_nil (six : Bool) (room : Int) (hr : room < 1 ∨ 65536 < room) (w : World) :
  Calls Try.prog 29 #[.bool six, .int .i64 room] w fun e w' => e = .returned (.pointer none) ∧ Below w.heap.size w w' := by
 rcases hr with h | h
 ·go_enter Try.func29, Try.ntmps29
  go_wp2_with fail
  go_ret
  exact ⟨rfl, Below.refl _ _⟩
 have h1 : ¬ room < 1 := by omega
 go_enter Try.func29, Try.ntmps29
 go_wp2_with fail
 go_ret
 exact ⟨rfl, Below.refl _ _⟩
theorem tnew_any (six : Bool) (room : Int) (h1 : ¬ room < 1) (h2 : ¬ 65536 < room) (w : World) :
  Calls Try.prog 29 #[.bool six, .int .i64 room] w fun e w' => ∃ g A c, e = .returned (.pointer (some ⟨g, 0, none⟩)) ∧ Tab w' g (newT six room) A c none 0 ∧ Below w.heap.size w w' ∧ ∀ b, own3 g A c none 0 b → w.heap.size ≤ b := by
 go_enter Try.func29, Try.ntmps29
 go_upto_region 3 with fail
 have hN := Own.made (base := 0) (n := 1) (sz := 22) (e := 98) w Nd.zero.cells.toArray (Nat.zero_le _) (by decide) (by rfl)
 have hB := alloc_below w (.cells Nd.zero.cells.toArray 98)
 have hsz : (w.alloc (.cells Nd.zero.cells.toArray 98)).heap.size = w.heap.size + 1 := by simp
 go_wp2_with (first
  | (refine wpList_value (by rfl) (exec_makeNd rfl) ?_)
  | (refine wpList_value (by rfl) (exec_buildTb _ _ _ rfl six room (some ⟨w.heap.size, 0, none⟩) 1 rfl rfl rfl) ?_)
  | (refine wpList_box_blk (by rfl) 93 _ rfl (tbC (newT six room) (some ⟨w.heap.size, 0, none⟩) 1 none 0) rfl ?_; intro w2 hb2 hB2 hs2))
 have hbl : ∀ b, Go.Proofs.Ytdmgomknamdcfaa.blk (some ⟨w.heap.size, 0, none⟩) 1 = some b → b = w.heap.size := fun b hb => by
  obtain ⟨x, hx, hxb, _⟩ := blk_some hb
  injection hx with hx
  rw [← hx] at hxb
  exact hxb.symm
 have hno : ∀ b, Go.Proofs.Ytdmgomknamdcfaa.blk none 0 = some b → False := fun b hb => by simp [Go.Proofs.Ytdmgomknamdcfaa.blk] at hb
 have hT : Tab w2 (w.alloc (.cells Nd.zero.cells.toArray 98)).heap.size (newT six room) (some ⟨w.heap.size, 0, none⟩) 1 none 0 := by
  refine ⟨hb2, ?_, Own.nil _ _ _ _ _, ?_, ?_, fun b hb => (hno b hb).elim, fun b _ hb => (hno b hb).elim⟩
  ·have := hN.below hB2
   simpa [newT, nds] using this
  ·intro x hx
   obtain rfl := List.mem_singleton.1 hx
   exact Px.zero_fit
  intro b hb
  rw [hbl b hb]
  omega
 have hBB : Below w.heap.size w w2 := bthen hB hB2
 have hown : ∀ b, own3 (w.alloc (.cells Nd.zero.cells.toArray 98)).heap.size (some ⟨w.heap.size, 0, none⟩) 1 none 0 b → w.heap.size ≤ b := by
  rintro b (hb | hb | hb)
  ·rw [hb, hsz]; omega
  ·rw [hbl b hb]; exact Nat.le_refl _
  exact (hno b hb).elim
 obtain ⟨gq, hgq⟩ : ∃ gq, (w.alloc (.cells Nd.zero.cells.toArray 98)).heap.size = gq := ⟨_, rfl⟩
 rw [hgq] at hT hown
 rw [hsz] at hgq
 clear hN hB hb2 hB2 hs2 hbl hno hsz
 try rw [hgq]
 go_ret
 trace_state
 exact ⟨gq, rfl, _, _, hT, hBB, hown⟩
/-- the longest prefix that has an address, step by step -/
def lookN (N : List Nd) (a : List UInt8) : Nat → Nat → Nat → Option Nat
 | 0, _, _ => none
 | f + 1, k, b => if k = 0 then some b else
  match N[k]? with
  | none => none
  | some x => if hasA x.p a = true then lookN N a f (x.kid (bitN a x.p.len)) (if x.is = true then k else b) else some b
def cntL (N : List Nd) (a : List UInt8) : Nat → Nat → Nat
 | 0, _ => 0
 | f + 1, k => if k = 0 then 0 else
  match N[k]? with
  | none => 0
  | some x => if hasA x.p a = true then 1 + cntL N a f (x.kid (bitN a x.p.len)) else 0
theorem cntL_more (N : List Nd) (a : List UInt8) : ∀ (f k b r : Nat), lookN N a f k b = some r → ∀ F, f ≤ F → cntL N a F k = cntL N a f k
 | 0, k, b, r, h, _, _ => by cases h
 | f + 1, k, b, r, h, F, hF => by
  obtain ⟨G, rfl⟩ : ∃ G, F = G + 1 := ⟨F - 1, by omega⟩
  unfold lookN at h
  unfold cntL
  split
  ·rfl
  rename_i hk
  rw [if_neg hk] at h
  split
  ·rfl
  rename_i x hx
  rw [hx] at h
  simp only [] at h
  split
  ·rename_i hc
   rw [if_pos hc] at h
   rw [cntL_more N a f _ _ r h G (by omega)]
  rfl
def lookT (t : Tb) (a : List UInt8) (F : Nat) : Option (Itm × Bool) :=
 match lookN t.N a F t.root 0 with
 | none => none
 | some r => match t.N[r]? with | none => none | some x => some ((x.p, x.v), x.is)
theorem sizeIt (x : Itm) (h : x.1.addr.length = 16) : (Try.prog.info? 35).map (·.size) = some (itC x).length := by rw [itC_length x h]; kernel_rfl
theorem zeroIt (w : World) : (zeroValue 35).run Try.prog w = .ok (.agg (itC (Px.zero, 0)).toArray) w := by kernel_rfl
theorem oneIt (x : Itm) : ∀ u ∈ itC x, u.oneCell' = true := by
 intro v hv
 unfold itC at hv
 rcases List.mem_append.1 hv with h | h
 ·exact onePx _ v h
 obtain rfl := List.mem_singleton.1 h
 rfl
theorem exec_buildIt0 {w : World} {o : Oper} {q : Act} (ho : o.op = .build 35 #[]) : (execOp q.eval o).run Try.prog w = .ok (.value (.agg (itC (Px.zero, 0)).toArray)) w := by
 unfold execOp
 simp only [ho, List.map_toArray, List.map_nil, Sem.run_bind, show (Instr.build 35 #[]).run Try.prog w = .ok (.agg (itC (Px.zero, 0)).toArray) w by kernel_rfl, Result.andThen_ok]
 rfl
theorem run_buildIt (p : Px) (hp : p.addr.length = 16) (n : Int) (w : World) : (Instr.build 35 #[(0, .agg p.cells.toArray), (1, .int .i64 n)]).run Try.prog w = .ok (.agg (itC (p, n)).toArray) w := by
 obtain ⟨b, l, m⟩ := p
 obtain ⟨s0, s1, s2, s3, s4, s5, s6, s7, s8, s9, s10, s11, s12, s13, s14, s15, rfl⟩ := list16p l hp
 kernel_rfl
theorem exec_buildIt {w : World} {o : Oper} {q : Act} (x0 x1 : Operand) (ho : o.op = .build 35 #[(0, x0), (1, x1)]) (p : Px) (hp : p.addr.length = 16) (n : Int) (h0 : q.eval x0 = .agg p.cells.toArray) (h1 : q.eval x1 = .int .i64 n) :
  (execOp q.eval o).run Try.prog w = .ok (.value (.agg (itC (p, n)).toArray)) w := by
 unfold execOp
 simp only [ho, List.map_toArray, List.map_cons, List.map_nil, h0, h1, Sem.run_bind, run_buildIt p hp n, Result.andThen_ok]
 rfl
set_option maxHeartbeats 4000000 in
theorem tlook_nil (ad : List UInt8) (ha : ad.length = 16) (w : World) :
  Calls Try.prog 34 #[.pointer none, .agg (bv ad).toArray] w fun e w' => e = .returned (.tuple #[.agg (itC (Px.zero, 0)).toArray, .bool false]) ∧ Below w.heap.size w w' := by
 have HAL := Hh ha
 clear ha
 go_enter Try.func34, Try.ntmps34
 go_upto_region 1 with (first
  | (refine wpList_box_blk (by rfl) 23 (.tmp 1) rfl (bv ad) rfl ?_; intro w1 hb1 hB1 hs1; clear hs1)
  | (refine wpList_alloc_blk (by rfl) 35 rfl (itC (Px.zero, 0)) zeroIt ?_; intro w2 hb2 hB2 hs2; clear hs2))
 obtain ⟨g4, hg4⟩ : ∃ g, w1.heap.size = g := ⟨_, rfl⟩
 have HW := Hh (bthen hB1 hB2)
 have HG := Hh (show w.heap.size ≤ g4 by have := hB1.size; omega)
 rw [hg4] at hb2
 try rw [hg4]
 have HZ := Hh hb2
 clear hb1 hB1 hb2 hB2 hg4
 go_wp2_with (first
  | (refine wpList_value (by rfl) (exec_buildIt0 rfl) ?_)
  | (refine wpList_store_all (by rfl) 35 _ _ rfl g4 (itC (Px.zero, 0)) rfl rfl 35 _ HZ.out (sizeIt _ rfl) rfl (oneIt _) ?_; intro w5 hb5 hg5 hs5))
 have hB5 : Below w.heap.size w w5 := bgrown HW.out hg5 HW.out.size HG.out
 exact bodyPost_ret (results_cell2 rfl _ _ g4 _ _ _ rfl hb5 Try.underlying35 rfl (sizeIt _ rfl)) rfl ⟨rfl, hB5⟩
set_option maxHeartbeats 4000000 in
theorem tlook_any (w : World) (g : Nat) (t : Tb) (A Af : Option Addr) (c cf : Nat) (hT : Tab w g t A c Af cf) (ad : List UInt8) (ha : ad.length = 16) (F : Nat) (it0 : Itm) (b0 : Bool) (hr : lookT t ad F = some (it0, b0)) :
  Calls Try.prog 34 #[.pointer (some ⟨g, 0, none⟩), .agg (bv ad).toArray] w fun e w' => e = .returned (.tuple #[.agg (itC it0).toArray, .bool b0]) ∧ Below w.heap.size w w' := by
 have HAL := Hh ha
 have HT0 := Hh hT
 clear ha hT
 unfold lookT at hr
 cases hlk : lookN t.N ad F t.root 0 with
 | none => rw [hlk] at hr; cases hr
 | some r =>
  rw [hlk] at hr
  simp only [] at hr
  cases hxr : t.N[r]? with
  | none => rw [hxr] at hr; cases hr
  | some xr =>
   rw [hxr] at hr
   simp only [] at hr
   have HRES := Hh hr
   have HLK := Hh hlk
   have HNR := Hh hxr
   have HRF := Hh (HT0.out.fit xr (List.mem_of_getElem? hxr))
   have HRL := Hh (xr.cells_length HRF.out.addr)
   obtain ⟨bA, hA, _, _, _, _, _, _, _⟩ := HT0.out.node hxr
   subst hA
   clear hr hlk hxr
   go_enter Try.func34, Try.ntmps34
   go_upto_region 1 with (first
    | (refine wpList_box_blk (by rfl) 23 (.tmp 1) rfl (bv ad) rfl ?_; intro w1 hb1 hB1 hs1; clear hs1)
    | (refine wpList_alloc_blk (by rfl) 35 rfl (itC (Px.zero, 0)) zeroIt ?_; intro w2 hb2 hB2 hs2; clear hs2))
   obtain ⟨g3, hg3⟩ : ∃ g, w.heap.size = g := ⟨_, rfl⟩
   obtain ⟨g4, hg4⟩ : ∃ g, w1.heap.size = g := ⟨_, rfl⟩
   have HW2 := Hh (bthen hB1 hB2)
   have HG := Hh (show w.heap.size ≤ g4 by have := hB1.size; omega)
   have hb1' := hb1.on hB2
   rw [hg3] at hb1'
   rw [hg4] at hb2
   try rw [hg3]
   try rw [hg4]
   have HZ2 := Hh hb2
   have HA2 := Hh hb1'
   have HT2 := Hh (HT0.out.on HW2.out)
   have c0 : w2.cell? ⟨g, 5, none⟩ = some (.int .i64 (t.root : Int)) := HT2.out.blk.cell 5
   clear hb1 hb1' hB1 hb2 hB2 hg3 hg4
   go_wp2_with fail
   clear c0
   go_loopw [6, 7] (fun bs at' wr => ∃ f k b : Nat, f ≤ F ∧ at' = .int .i64 (k : Nat) ∧ bs = .int .i64 (b : Nat) ∧ lookN t.N ad f k b = some r ∧ Below w2.heap.size w2 wr) (fun _ i _ => cntL t.N ad F (intOf i).toNat)
   case atStart => exact ⟨F, t.root, 0, Nat.le_refl _, rfl, rfl, HLK.out, Below.refl _ _⟩
   case round =>
    obtain ⟨f, k, b, hfF, rfl, rfl, hfd, hbe⟩ := hrel
    have HFK := Hh hfd
    have hBE := Hh hbe
    have HW := Hh (bthen HW2.out hbe)
    have HA := Hh (HA2.out.on hbe)
    have HZ := Hh (HZ2.out.on hbe)
    have HT := Hh (HT2.out.on hbe)
    clear hbe
    obtain ⟨f, rfl⟩ : ∃ f', f = f' + 1 := ⟨f - 1, by cases f with | zero => cases hfd | succ f => rfl⟩
    unfold lookN at hfd
    by_cases hk : k = 0
    ·subst hk
     have hr0 : b = r := by simpa using hfd
     subst hr0
     clear hfd
     go_wp2_with fail
     refine wp_region_rel (fun A B => A.grownBy B none) (fun A => grown_refl A _) (fun A B C h k => grown_trans h k) (relAt (eqs [.int .i64 0, .bool false, .bool false, undef, undef, undef, undef, undef, undef, undef, undef, undef, undef, .bool false])) (MonoL.at_ (eqs_mono _)) (by kernel_rfl) (by kernel_rfl) ⟨?_, ?_, ?_, ?_, ?_, ?_, ?_, ?_, ?_, ?_, ?_, ?_, ?_, ?_, trivial⟩ ?_
     ·intro a vs W hX hR he hf K hK
      refine wn rfl ?_
      have e7 : a.eval (.tmp 7) = .int .i64 0 := hf 7 (by kernel_rfl)
      refine wV hK rfl ?_
      simp only [execOp, e7]
      try go_simp
     ·intro a vs W hX hR he hf K hK
      refine wn rfl ?_
      have e17 : a.eval (.tmp 17) = .int .i64 0 := eH he hR 0 (by kernel_rfl) rfl
      refine wV hK rfl ?_
      simp only [execOp, e17]
      try go_simp
     ·intro a vs W hX hR he hf K hK
      refine wn rfl ?_
      have e18 : a.eval (.tmp 18) = .bool false := eH he hR 1 (by kernel_rfl) rfl
      refine wV hK rfl ?_
      simp only [execOp, e18]
      try go_simp
     ·intro a vs W hX hR he hf K hK
      have e19 : a.eval (.tmp 19) = .bool false := eH he hR 2 (by kernel_rfl) rfl
      exact gN e19 rfl rfl rfl (gK hK rfl)
     ·intro a vs W hX hR he hf K hK
      have e19 : a.eval (.tmp 19) = .bool false := eH he hR 2 (by kernel_rfl) rfl
      exact gN e19 rfl rfl rfl (gK hK rfl)
     ·intro a vs W hX hR he hf K hK
      have e19 : a.eval (.tmp 19) = .bool false := eH he hR 2 (by kernel_rfl) rfl
      exact gN e19 rfl rfl rfl (gK hK rfl)
     ·intro a vs W hX hR he hf K hK
      have e19 : a.eval (.tmp 19) = .bool false := eH he hR 2 (by kernel_rfl) rfl
      exact gN e19 rfl rfl rfl (gK hK rfl)
     ·intro a vs W hX hR he hf K hK
      have e19 : a.eval (.tmp 19) = .bool false := eH he hR 2 (by kernel_rfl) rfl
      exact gN e19 rfl rfl rfl (gK hK rfl)
     ·intro a vs W hX hR he hf K hK
      have e19 : a.eval (.tmp 19) = .bool false := eH he hR 2 (by kernel_rfl) rfl
      exact gN e19 rfl rfl rfl (gK hK rfl)
     ·intro a vs W hX hR he hf K hK
      have e19 : a.eval (.tmp 19) = .bool false := eH he hR 2 (by kernel_rfl) rfl
      exact gN e19 rfl rfl rfl (gK hK rfl)
     ·intro a vs W hX hR he hf K hK
      have e19 : a.eval (.tmp 19) = .bool false := eH he hR 2 (by kernel_rfl) rfl
      exact gN e19 rfl rfl rfl (gK hK rfl)
     ·intro a vs W hX hR he hf K hK
      have e19 : a.eval (.tmp 19) = .bool false := eH he hR 2 (by kernel_rfl) rfl
      exact gN e19 rfl rfl rfl (gK hK rfl)
     ·intro a vs W hX hR he hf K hK
      have e19 : a.eval (.tmp 19) = .bool false := eH he hR 2 (by kernel_rfl) rfl
      exact gN e19 rfl rfl rfl (gK hK rfl)
     ·intro a vs W hX hR he hf K hK
      refine wn rfl ?_
      have e19 : a.eval (.tmp 19) = .bool false := eH he hR 2 (by kernel_rfl) rfl
      have e29 : a.eval (.tmp 29) = undef := eH he hR 12 (by kernel_rfl) rfl
      refine wV hK rfl ?_
      simp only [execOp, e19, e29]
      try go_simp
     intro vs wx hXx hR
     rw [put_eqs hR rfl]
     simp only [putL, Act.put, List.setIfInBounds_toArray, List.set_cons_zero, List.set_cons_succ]
     clear hR
     replace hBE := Hh (hBE.out.trans ((bthen (below_drew _) (grow_below hXx)).mono hBE.out.size))
     replace HA := Hh (HA.out.on (bthen (below_drew _) (grow_below hXx)))
     replace HZ := Hh (HZ.out.on (bthen (below_drew _) (grow_below hXx)))
     replace HW := Hh (bthen HW.out (bthen (below_drew _) (grow_below hXx)))
     replace HT := Hh (HT.out.on (bthen (below_drew _) (grow_below hXx)))
     clear hXx
     obtain ⟨b8, h8, _, hba8, _, hrr8, _, hk8, _⟩ := HT.out.node HNR.out
     injection h8 with h8
     injection h8 with h8
     subst h8
     have HRR := Hh hrr8
     have hltr : (b : Int) < (t.N.length : Int) := by omega
     have c3 : wx.cell? ⟨g, 3, none⟩ = some (.slice (some ⟨bA, 0, none⟩) t.N.length c) := HT.out.blk.cell 3
     have HB8 := Hh hba8
     clear hba8 hrr8 hk8
     go_upto_region 11 with (first
      | (refine wpList_value (by rfl) (exec_load_mid 98 _ rfl bA (b * 22) (by rfl) xr.cells _ HRR.out Try.underlying98 rfl (sizeNd _ HRF.out.addr)) ?_)
      | (refine wpList_alloc_blk (by rfl) 98 rfl Nd.zero.cells zeroNd ?_; intro wa hba hBa hsa; clear hsa)
      | (refine wpList_store_all (by rfl) 98 _ _ rfl wx.heap.size xr.cells rfl rfl 98 _ hba (sizeNd _ HRF.out.addr) (by rw [HRL.out]; rfl) xr.one ?_; intro wb hbb hgb hsb'))
     have hBb : Below wx.heap.size wx wb := bgrown hBa hgb hBa.size (Nat.le_refl _)
     obtain ⟨g9, hg9⟩ : ∃ g, wx.heap.size = g := ⟨_, rfl⟩
     have HNE9 := Hh (show g4 ≠ g9 by rw [← hg9]; have := HZ.out.lt; omega)
     have HZ9 := Hh (HZ.out.on hBb)
     have HW9 := Hh (bthen HW.out hBb)
     rw [hg9] at hbb
     try rw [hg9]
     have HN9 := Hh hbb
     clear hba hBa hbb hgb hsb' hBb hg9 c3
     refine wp_region_mid 7 8 [true, true, true, true, true, true, true, true] (fun W => Blk W g9 98 xr.cells) (fun v W => Blk W g4 35 (itC (xr.p, xr.v)) ∧ Blk W g9 98 xr.cells ∧ Below w.heap.size w W) (fun A B => A.grownBy B none) (fun A => grown_refl A _) (fun A B C h k => grown_trans h k) (relAt (List.cons (fun v _ => v = .pointer (some ⟨g9, 0, none⟩)) (List.cons (fun v _ => v = .agg xr.p.cells.toArray) (List.cons (fun v _ => v = .pointer (some ⟨g9, 19, none⟩)) (List.cons (fun v _ => v = .int .i64 xr.v) (List.cons (fun v _ => v = .agg (itC (xr.p, xr.v)).toArray) (List.cons (fun v _ => v = .pointer (some ⟨g9, 18, none⟩)) (List.cons (fun v _ => v = .bool xr.is) (List.cons (fun _ _ => True) ([])))))))))) (MonoL.at_ (.cons (mono_val _) (.cons (mono_val _) (.cons (mono_val _) (.cons (mono_val _) (.cons (mono_val _) (.cons (mono_val _) (.cons (mono_val _) (.cons ((fun _ _ _ h _ => h)) .nil))))))))) (ConstL.at_ (.cons (fun _ _ _ h => h) (.cons (fun _ _ _ h => h) (.cons (fun _ _ _ h => h) (.cons (fun _ _ _ h => h) (.cons (fun _ _ _ h => h) (.cons (fun _ _ _ h => h) (.cons (fun _ _ _ h => h) (.cons (fun _ _ _ h => h) .nil))))))))) (fun v W h => True.intro) (fun W hX => HN9.out.on (bthen (below_drew _) (grow_below hX))) (fun v W h => h.2.1) (by kernel_rfl) (by kernel_rfl) rfl (by decide) (by kernel_rfl) (by kernel_rfl) _ rfl rfl ⟨?_, ?_, ?_, ?_, ?_, ?_, ?_, ?_, trivial⟩ ?_
     ·refine stepM_anc ?_ ?_ ?_
      ·rfl
      ·kernel_rfl
      intro a vs W hX hR he hf K hK
      refine wn rfl ?_
      have e9 : a.eval (.tmp 9) = .pointer (some ⟨g9, 0, none⟩) := hf 9 (by kernel_rfl)
      refine wV hK rfl ?_
      simp only [execOp, e9]
      try go_simp
     ·refine stepM_anc ?_ ?_ ?_
      ·rfl
      ·kernel_rfl
      intro a vs W hX hR he hf K hK
      refine wn rfl ?_
      have e56 : a.eval (.tmp 56) = .pointer (some ⟨g9, 0, none⟩) := eH he hR 0 (by kernel_rfl) rfl
      have hbW := bthen (below_drew _) (grow_below hX)
      have hr := (HN9.out.on hbW).range 0 18
      rw [List.drop_zero, show xr.cells.take 18 = xr.p.cells from List.take_left' (xr.p.cells_length HRF.out.addr)] at hr
      exact wp_value (exec_load_mid 30 _ rfl g9 0 e56 _ _ hr Try.underlying30 rfl (sizePx _ HRF.out.addr)) (gK hK rfl)
     ·refine stepM_anc ?_ ?_ ?_
      ·rfl
      ·kernel_rfl
      intro a vs W hX hR he hf K hK
      refine wn rfl ?_
      have e9 : a.eval (.tmp 9) = .pointer (some ⟨g9, 0, none⟩) := hf 9 (by kernel_rfl)
      refine wV hK rfl ?_
      simp only [execOp, e9]
      try go_simp
     ·refine stepM_anc ?_ ?_ ?_
      ·rfl
      ·kernel_rfl
      intro a vs W hX hR he hf K hK
      refine wn rfl ?_
      have e58 : a.eval (.tmp 58) = .pointer (some ⟨g9, 19, none⟩) := eH he hR 2 (by kernel_rfl) rfl
      have hbW := bthen (below_drew _) (grow_below hX)
      have hc : W.cell? ⟨g9, 19, none⟩ = some (.int .i64 xr.v) := ((HN9.out.on hbW).cell 19).trans (xr.get_v HRF.out.addr)
      refine wV hK rfl ?_
      simp only [execOp, e58]
      try go_simp
     ·refine stepM_anc ?_ ?_ ?_
      ·rfl
      ·kernel_rfl
      intro a vs W hX hR he hf K hK
      refine wn rfl ?_
      have e57 : a.eval (.tmp 57) = .agg xr.p.cells.toArray := eH he hR 1 (by kernel_rfl) rfl
      have e59 : a.eval (.tmp 59) = .int .i64 xr.v := eH he hR 3 (by kernel_rfl) rfl
      have f57 := e57
      simp only [Act.eval, Array.getD_eq_getD_getElem?] at f57
      have f59 := e59
      simp only [Act.eval, Array.getD_eq_getD_getElem?] at f59
      exact wp_value (exec_buildIt _ _ rfl xr.p HRF.out.addr xr.v e57 e59) (gK hK rfl)
     ·refine stepM_calm ?_ ?_ ?_
      ·rfl
      ·kernel_rfl
      intro a vs W hS hR he hf K hK
      refine wn rfl ?_
      have e9 : a.eval (.tmp 9) = .pointer (some ⟨g9, 0, none⟩) := hf 9 (by kernel_rfl)
      refine wp_value (v := .pointer (some ⟨g9, 18, none⟩)) ?_ (hK _ rfl)
      simp only [execOp, e9]
      try go_simp
     ·refine stepM_calm ?_ ?_ ?_
      ·rfl
      ·kernel_rfl
      intro a vs W hS hR he hf K hK
      refine wn rfl ?_
      have e61 : a.eval (.tmp 61) = .pointer (some ⟨g9, 18, none⟩) := (he 5 61 (by kernel_rfl) rfl).trans (hR 5 (by kernel_rfl) rfl)
      have hc : W.cell? ⟨g9, 18, none⟩ = some (.bool xr.is) := (hS.cell 18).trans (xr.get_is HRF.out.addr)
      refine wp_value (v := _) ?_ (hK _ rfl)
      simp only [execOp, e61]
      try go_simp
     ·refine stepM_heavy ?_ ?_
      ·rfl
      intro a vs W hX hR he hf K hK
      refine wn rfl ?_
      have e4 : a.eval (.tmp 4) = .pointer (some ⟨g4, 0, none⟩) := hf 4 (by kernel_rfl)
      have e60 : a.eval (.tmp 60) = .agg (itC (xr.p, xr.v)).toArray := eH he hR 4 (by kernel_rfl) rfl
      have hbW := bthen (below_drew _) (grow_below hX)
      refine wp_store_all 35 _ _ rfl g4 (itC (xr.p, xr.v)) e4 e60 35 _ (HZ9.out.on hbW) (sizeIt _ HRF.out.addr) (by rw [itC_length _ HRF.out.addr]; rfl) (oneIt _) ?_
      intro w' hk' hg' hs'
      refine hK _ _ ⟨hk', (HN9.out.on hbW).grown hg' (fun e => HNE9.out (by injection e with e; exact e.symm)), bgrown (bthen HW9.out hbW) hg' (bthen HW9.out hbW).size HG.out⟩
     intro vs wy hPy hR
     have q0 := hR 0 (by decide) rfl
     change vs 0 = .pointer (some ⟨g9, 0, none⟩) at q0
     have q1 := hR 1 (by decide) rfl
     change vs 1 = .agg xr.p.cells.toArray at q1
     have q2 := hR 2 (by decide) rfl
     change vs 2 = .pointer (some ⟨g9, 19, none⟩) at q2
     have q3 := hR 3 (by decide) rfl
     change vs 3 = .int .i64 xr.v at q3
     have q4 := hR 4 (by decide) rfl
     change vs 4 = .agg (itC (xr.p, xr.v)).toArray at q4
     have q5 := hR 5 (by decide) rfl
     change vs 5 = .pointer (some ⟨g9, 18, none⟩) at q5
     have q6 := hR 6 (by decide) rfl
     change vs 6 = .bool xr.is at q6
     simp only [putAll, Act.put, List.setIfInBounds_toArray, List.set_cons_zero, List.set_cons_succ, List.take_succ_cons, List.take_zero, q0, q1, q2, q3, q4, q5, q6]
     clear q0 q1 q2 q3 q4 q5 q6
     clear hR
     generalize vs 7 = vh at hPy ⊢
     obtain ⟨hk9, _, hB9⟩ := hPy
     refine wp_value (v := .bool xr.is) (w' := wy) (by simp only [execOp]; go_simp) ?_
     try simp only [List.getElem_toArray, List.getElem_cons_succ, List.getElem_cons_zero, Act.put, List.setIfInBounds_toArray, List.set_cons_zero, List.set_cons_succ]
     have h9 := HRES.out
     injection h9 with h9
     injection h9 with h9 h10
     subst h9 h10
     go_wp2_with fail
     exact bodyPost_ret (results_cell2 rfl _ _ g4 _ _ _ rfl hk9 Try.underlying35 rfl (sizeIt _ HRF.out.addr)) rfl ⟨rfl, hB9⟩
    rw [if_neg hk] at hfd
    cases hx : t.N[k]? with
    | none => rw [hx] at hfd; cases hfd
    | some x =>
     rw [hx] at hfd
     simp only [] at hfd
     obtain ⟨b9, h9, _, hba, _, hrr, _, hk1, _⟩ := HT.out.node hx
     injection h9 with h9
     injection h9 with h9
     subst h9
     have HXF := Hh (HT.out.fit x (List.mem_of_getElem? hx))
     have HXR := Hh hrr
     have HBA := Hh hba
     have HNX := Hh hx
     have HXL := Hh (x.cells_length HXF.out.addr)
     have hlt : (k : Int) < (t.N.length : Int) := by omega
     have HKN := Hh (show ¬ (k : Int) = 0 by omega)
     clear hrr hba hx hk hk1
     cases hh : hasA x.p ad
     ·rw [hh] at hfd
      have hr0 : b = r := by simpa using hfd
      subst hr0
      have HH := Hh hh
      clear hfd hh
      go_wp2_with fail
      refine wp_region_rel (fun A B => A.grownBy B none) (fun A => grown_refl A _) (fun A B C h k => grown_trans h k) (relAt (eqs [.int .i64 (k : Int), .bool true, .bool true, .pointer (some ⟨g, 0, none⟩), .pointer (some ⟨g, 0, none⟩), .pointer (some ⟨g, 3, none⟩), .slice (some ⟨bA, 0, none⟩) t.N.length c, .int .i64 (k : Int), .pointer (some ⟨bA, k * 22, none⟩), .pointer (some ⟨bA, k * 22, none⟩), .agg x.p.cells.toArray, .agg (bv ad).toArray, .bool false, .bool false])) (MonoL.at_ (eqs_mono _)) (by kernel_rfl) (by kernel_rfl) ⟨?_, ?_, ?_, ?_, ?_, ?_, ?_, ?_, ?_, ?_, ?_, ?_, ?_, ?_, trivial⟩ ?_
      ·intro a vs W hX hR he hf K hK
       refine wn rfl ?_
       have e7 : a.eval (.tmp 7) = .int .i64 (k : Int) := hf 7 (by kernel_rfl)
       refine wV hK rfl ?_
       simp only [execOp, e7]
       try go_simp
      ·intro a vs W hX hR he hf K hK
       refine wn rfl ?_
       have e17 : a.eval (.tmp 17) = .int .i64 (k : Int) := eH he hR 0 (by kernel_rfl) rfl
       refine wV hK rfl ?_
       have h9 := HKN.out
       simp only [execOp, e17]
       go_simp
       try omega
      ·intro a vs W hX hR he hf K hK
       refine wn rfl ?_
       have e18 : a.eval (.tmp 18) = .bool true := eH he hR 1 (by kernel_rfl) rfl
       refine wV hK rfl ?_
       simp only [execOp, e18]
       try go_simp
      ·intro a vs W hX hR he hf K hK
       have e19 : a.eval (.tmp 19) = .bool true := eH he hR 2 (by kernel_rfl) rfl
       refine gT e19 rfl rfl rfl ?_
       have e0 : a.eval (.tmp 0) = .pointer (some ⟨g, 0, none⟩) := hf 0 (by kernel_rfl)
       refine wV hK rfl ?_
       simp only [execOp, e0]
       try go_simp
      ·intro a vs W hX hR he hf K hK
       have e19 : a.eval (.tmp 19) = .bool true := eH he hR 2 (by kernel_rfl) rfl
       refine gT e19 rfl rfl rfl ?_
       have e20 : a.eval (.tmp 20) = .pointer (some ⟨g, 0, none⟩) := eH he hR 3 (by kernel_rfl) rfl
       refine wV hK rfl ?_
       simp only [execOp, e20]
       try go_simp
      ·intro a vs W hX hR he hf K hK
       have e19 : a.eval (.tmp 19) = .bool true := eH he hR 2 (by kernel_rfl) rfl
       refine gT e19 rfl rfl rfl ?_
       have e21 : a.eval (.tmp 21) = .pointer (some ⟨g, 0, none⟩) := eH he hR 4 (by kernel_rfl) rfl
       refine wV hK rfl ?_
       simp only [execOp, e21]
       try go_simp
      ·intro a vs W hX hR he hf K hK
       have e19 : a.eval (.tmp 19) = .bool true := eH he hR 2 (by kernel_rfl) rfl
       refine gT e19 rfl rfl rfl ?_
       have e22 : a.eval (.tmp 22) = .pointer (some ⟨g, 3, none⟩) := eH he hR 5 (by kernel_rfl) rfl
       have hbW := bthen (below_drew _) (grow_below hX)
       have hc : W.cell? ⟨g, 3, none⟩ = some (.slice (some ⟨bA, 0, none⟩) t.N.length c) := (HT.out.blk.on hbW).cell 3
       refine wV hK rfl ?_
       simp only [execOp, e22]
       try go_simp
      ·intro a vs W hX hR he hf K hK
       have e19 : a.eval (.tmp 19) = .bool true := eH he hR 2 (by kernel_rfl) rfl
       refine gT e19 rfl rfl rfl ?_
       have e7 : a.eval (.tmp 7) = .int .i64 (k : Int) := hf 7 (by kernel_rfl)
       refine wV hK rfl ?_
       simp only [execOp, e7]
       try go_simp
      ·intro a vs W hX hR he hf K hK
       have e19 : a.eval (.tmp 19) = .bool true := eH he hR 2 (by kernel_rfl) rfl
       refine gT e19 rfl rfl rfl ?_
       have e23 : a.eval (.tmp 23) = .slice (some ⟨bA, 0, none⟩) t.N.length c := eH he hR 6 (by kernel_rfl) rfl
       have e24 : a.eval (.tmp 24) = .int .i64 (k : Int) := eH he hR 7 (by kernel_rfl) rfl
       refine wV hK rfl ?_
       simp only [execOp, e23, e24]
       go_simp
      ·intro a vs W hX hR he hf K hK
       have e19 : a.eval (.tmp 19) = .bool true := eH he hR 2 (by kernel_rfl) rfl
       refine gT e19 rfl rfl rfl ?_
       have e25 : a.eval (.tmp 25) = .pointer (some ⟨bA, k * 22, none⟩) := eH he hR 8 (by kernel_rfl) rfl
       refine wV hK rfl ?_
       simp only [execOp, e25]
       try go_simp
      ·intro a vs W hX hR he hf K hK
       have e19 : a.eval (.tmp 19) = .bool true := eH he hR 2 (by kernel_rfl) rfl
       refine gT e19 rfl rfl rfl ?_
       have e26 : a.eval (.tmp 26) = .pointer (some ⟨bA, k * 22, none⟩) := eH he hR 9 (by kernel_rfl) rfl
       have hbW := bthen (below_drew _) (grow_below hX)
       exact wp_value (exec_load_mid 30 _ rfl bA (k * 22) e26 x.p.cells _ (range_below hbW HBA.out (Nd.px_range HXR.out)) Try.underlying30 rfl (sizePx _ HXF.out.addr)) (gK hK rfl)
      ·intro a vs W hX hR he hf K hK
       have e19 : a.eval (.tmp 19) = .bool true := eH he hR 2 (by kernel_rfl) rfl
       refine gT e19 rfl rfl rfl ?_
       have e3 : a.eval (.tmp 3) = .pointer (some ⟨g3, 0, none⟩) := hf 3 (by kernel_rfl)
       have hbW := bthen (below_drew _) (grow_below hX)
       exact wp_value (exec_load 23 _ rfl g3 e3 23 (bv ad) _ (HA.out.on hbW) Try.underlying23 rfl (size16 _ HAL.out)) (gK hK rfl)
      ·intro a vs W hX hR he hf K hK
       have e19 : a.eval (.tmp 19) = .bool true := eH he hR 2 (by kernel_rfl) rfl
       refine gT e19 rfl rfl rfl ?_
       have e27 : a.eval (.tmp 27) = .agg x.p.cells.toArray := eH he hR 10 (by kernel_rfl) rfl
       have e28 : a.eval (.tmp 28) = .agg (bv ad).toArray := eH he hR 11 (by kernel_rfl) rfl
       refine wp_enter (f := 56) (args := #[.agg x.p.cells.toArray, .agg (bv ad).toArray]) (by simp only [execOp, e27, e28]; go_simp; exact ⟨by simpa [Act.eval] using e27, by simpa [Act.eval] using e28⟩) ((has_any x.p HXF.out ad HAL.out W).mono ?_)
       rintro e w' ⟨rfl, hb⟩
       rw [HH.out]
       exact ⟨_, rfl, hK _ _ rfl (below_grow hb _)⟩
      ·intro a vs W hX hR he hf K hK
       refine wn rfl ?_
       have e19 : a.eval (.tmp 19) = .bool true := eH he hR 2 (by kernel_rfl) rfl
       have e29 : a.eval (.tmp 29) = .bool false := eH he hR 12 (by kernel_rfl) rfl
       refine wV hK rfl ?_
       simp only [execOp, e19, e29]
       try go_simp
      intro vs wx hXx hR
      rw [put_eqs hR rfl]
      simp only [putL, Act.put, List.setIfInBounds_toArray, List.set_cons_zero, List.set_cons_succ]
      clear hR
      replace hBE := Hh (hBE.out.trans ((bthen (below_drew _) (grow_below hXx)).mono hBE.out.size))
      replace HA := Hh (HA.out.on (bthen (below_drew _) (grow_below hXx)))
      replace HZ := Hh (HZ.out.on (bthen (below_drew _) (grow_below hXx)))
      replace HW := Hh (bthen HW.out (bthen (below_drew _) (grow_below hXx)))
      replace HT := Hh (HT.out.on (bthen (below_drew _) (grow_below hXx)))
      clear hXx
      obtain ⟨b8, h8, _, hba8, _, hrr8, _, hk8, _⟩ := HT.out.node HNR.out
      injection h8 with h8
      injection h8 with h8
      subst h8
      have HRR := Hh hrr8
      have hltr : (b : Int) < (t.N.length : Int) := by omega
      have c3 : wx.cell? ⟨g, 3, none⟩ = some (.slice (some ⟨bA, 0, none⟩) t.N.length c) := HT.out.blk.cell 3
      have HB8 := Hh hba8
      clear hba8 hrr8 hk8
      go_upto_region 11 with (first
       | (refine wpList_value (by rfl) (exec_load_mid 98 _ rfl bA (b * 22) (by rfl) xr.cells _ HRR.out Try.underlying98 rfl (sizeNd _ HRF.out.addr)) ?_)
       | (refine wpList_alloc_blk (by rfl) 98 rfl Nd.zero.cells zeroNd ?_; intro wa hba hBa hsa; clear hsa)
       | (refine wpList_store_all (by rfl) 98 _ _ rfl wx.heap.size xr.cells rfl rfl 98 _ hba (sizeNd _ HRF.out.addr) (by rw [HRL.out]; rfl) xr.one ?_; intro wb hbb hgb hsb'))
      have hBb : Below wx.heap.size wx wb := bgrown hBa hgb hBa.size (Nat.le_refl _)
      obtain ⟨g9, hg9⟩ : ∃ g, wx.heap.size = g := ⟨_, rfl⟩
      have HNE9 := Hh (show g4 ≠ g9 by rw [← hg9]; have := HZ.out.lt; omega)
      have HZ9 := Hh (HZ.out.on hBb)
      have HW9 := Hh (bthen HW.out hBb)
      rw [hg9] at hbb
      try rw [hg9]
      have HN9 := Hh hbb
      clear hba hBa hbb hgb hsb' hBb hg9 c3
      refine wp_region_mid 7 8 [true, true, true, true, true, true, true, true] (fun W => Blk W g9 98 xr.cells) (fun v W => Blk W g4 35 (itC (xr.p, xr.v)) ∧ Blk W g9 98 xr.cells ∧ Below w.heap.size w W) (fun A B => A.grownBy B none) (fun A => grown_refl A _) (fun A B C h k => grown_trans h k) (relAt (List.cons (fun v _ => v = .pointer (some ⟨g9, 0, none⟩)) (List.cons (fun v _ => v = .agg xr.p.cells.toArray) (List.cons (fun v _ => v = .pointer (some ⟨g9, 19, none⟩)) (List.cons (fun v _ => v = .int .i64 xr.v) (List.cons (fun v _ => v = .agg (itC (xr.p, xr.v)).toArray) (List.cons (fun v _ => v = .pointer (some ⟨g9, 18, none⟩)) (List.cons (fun v _ => v = .bool xr.is) (List.cons (fun _ _ => True) ([])))))))))) (MonoL.at_ (.cons (mono_val _) (.cons (mono_val _) (.cons (mono_val _) (.cons (mono_val _) (.cons (mono_val _) (.cons (mono_val _) (.cons (mono_val _) (.cons ((fun _ _ _ h _ => h)) .nil))))))))) (ConstL.at_ (.cons (fun _ _ _ h => h) (.cons (fun _ _ _ h => h) (.cons (fun _ _ _ h => h) (.cons (fun _ _ _ h => h) (.cons (fun _ _ _ h => h) (.cons (fun _ _ _ h => h) (.cons (fun _ _ _ h => h) (.cons (fun _ _ _ h => h) .nil))))))))) (fun v W h => True.intro) (fun W hX => HN9.out.on (bthen (below_drew _) (grow_below hX))) (fun v W h => h.2.1) (by kernel_rfl) (by kernel_rfl) rfl (by decide) (by kernel_rfl) (by kernel_rfl) _ rfl rfl ⟨?_, ?_, ?_, ?_, ?_, ?_, ?_, ?_, trivial⟩ ?_
      ·refine stepM_anc ?_ ?_ ?_
       ·rfl
       ·kernel_rfl
       intro a vs W hX hR he hf K hK
       refine wn rfl ?_
       have e9 : a.eval (.tmp 9) = .pointer (some ⟨g9, 0, none⟩) := hf 9 (by kernel_rfl)
       refine wV hK rfl ?_
       simp only [execOp, e9]
       try go_simp
      ·refine stepM_anc ?_ ?_ ?_
       ·rfl
       ·kernel_rfl
       intro a vs W hX hR he hf K hK
       refine wn rfl ?_
       have e56 : a.eval (.tmp 56) = .pointer (some ⟨g9, 0, none⟩) := eH he hR 0 (by kernel_rfl) rfl
       have hbW := bthen (below_drew _) (grow_below hX)
       have hr := (HN9.out.on hbW).range 0 18
       rw [List.drop_zero, show xr.cells.take 18 = xr.p.cells from List.take_left' (xr.p.cells_length HRF.out.addr)] at hr
       exact wp_value (exec_load_mid 30 _ rfl g9 0 e56 _ _ hr Try.underlying30 rfl (sizePx _ HRF.out.addr)) (gK hK rfl)
      ·refine stepM_anc ?_ ?_ ?_
       ·rfl
       ·kernel_rfl
       intro a vs W hX hR he hf K hK
       refine wn rfl ?_
       have e9 : a.eval (.tmp 9) = .pointer (some ⟨g9, 0, none⟩) := hf 9 (by kernel_rfl)
       refine wV hK rfl ?_
       simp only [execOp, e9]
       try go_simp
      ·refine stepM_anc ?_ ?_ ?_
       ·rfl
       ·kernel_rfl
       intro a vs W hX hR he hf K hK
       refine wn rfl ?_
       have e58 : a.eval (.tmp 58) = .pointer (some ⟨g9, 19, none⟩) := eH he hR 2 (by kernel_rfl) rfl
       have hbW := bthen (below_drew _) (grow_below hX)
       have hc : W.cell? ⟨g9, 19, none⟩ = some (.int .i64 xr.v) := ((HN9.out.on hbW).cell 19).trans (xr.get_v HRF.out.addr)
       refine wV hK rfl ?_
       simp only [execOp, e58]
       try go_simp
      ·refine stepM_anc ?_ ?_ ?_
       ·rfl
       ·kernel_rfl
       intro a vs W hX hR he hf K hK
       refine wn rfl ?_
       have e57 : a.eval (.tmp 57) = .agg xr.p.cells.toArray := eH he hR 1 (by kernel_rfl) rfl
       have e59 : a.eval (.tmp 59) = .int .i64 xr.v := eH he hR 3 (by kernel_rfl) rfl
       have f57 := e57
       simp only [Act.eval, Array.getD_eq_getD_getElem?] at f57
       have f59 := e59
       simp only [Act.eval, Array.getD_eq_getD_getElem?] at f59
       exact wp_value (exec_buildIt _ _ rfl xr.p HRF.out.addr xr.v e57 e59) (gK hK rfl)
      ·refine stepM_calm ?_ ?_ ?_
       ·rfl
       ·kernel_rfl
       intro a vs W hS hR he hf K hK
       refine wn rfl ?_
       have e9 : a.eval (.tmp 9) = .pointer (some ⟨g9, 0, none⟩) := hf 9 (by kernel_rfl)
       refine wp_value (v := .pointer (some ⟨g9, 18, none⟩)) ?_ (hK _ rfl)
       simp only [execOp, e9]
       try go_simp
      ·refine stepM_calm ?_ ?_ ?_
       ·rfl
       ·kernel_rfl
       intro a vs W hS hR he hf K hK
       refine wn rfl ?_
       have e61 : a.eval (.tmp 61) = .pointer (some ⟨g9, 18, none⟩) := (he 5 61 (by kernel_rfl) rfl).trans (hR 5 (by kernel_rfl) rfl)
       have hc : W.cell? ⟨g9, 18, none⟩ = some (.bool xr.is) := (hS.cell 18).trans (xr.get_is HRF.out.addr)
       refine wp_value (v := _) ?_ (hK _ rfl)
       simp only [execOp, e61]
       try go_simp
      ·refine stepM_heavy ?_ ?_
       ·rfl
       intro a vs W hX hR he hf K hK
       refine wn rfl ?_
       have e4 : a.eval (.tmp 4) = .pointer (some ⟨g4, 0, none⟩) := hf 4 (by kernel_rfl)
       have e60 : a.eval (.tmp 60) = .agg (itC (xr.p, xr.v)).toArray := eH he hR 4 (by kernel_rfl) rfl
       have hbW := bthen (below_drew _) (grow_below hX)
       refine wp_store_all 35 _ _ rfl g4 (itC (xr.p, xr.v)) e4 e60 35 _ (HZ9.out.on hbW) (sizeIt _ HRF.out.addr) (by rw [itC_length _ HRF.out.addr]; rfl) (oneIt _) ?_
       intro w' hk' hg' hs'
       refine hK _ _ ⟨hk', (HN9.out.on hbW).grown hg' (fun e => HNE9.out (by injection e with e; exact e.symm)), bgrown (bthen HW9.out hbW) hg' (bthen HW9.out hbW).size HG.out⟩
      intro vs wy hPy hR
      have q0 := hR 0 (by decide) rfl
      change vs 0 = .pointer (some ⟨g9, 0, none⟩) at q0
      have q1 := hR 1 (by decide) rfl
      change vs 1 = .agg xr.p.cells.toArray at q1
      have q2 := hR 2 (by decide) rfl
      change vs 2 = .pointer (some ⟨g9, 19, none⟩) at q2
      have q3 := hR 3 (by decide) rfl
      change vs 3 = .int .i64 xr.v at q3
      have q4 := hR 4 (by decide) rfl
      change vs 4 = .agg (itC (xr.p, xr.v)).toArray at q4
      have q5 := hR 5 (by decide) rfl
      change vs 5 = .pointer (some ⟨g9, 18, none⟩) at q5
      have q6 := hR 6 (by decide) rfl
      change vs 6 = .bool xr.is at q6
      simp only [putAll, Act.put, List.setIfInBounds_toArray, List.set_cons_zero, List.set_cons_succ, List.take_succ_cons, List.take_zero, q0, q1, q2, q3, q4, q5, q6]
      clear q0 q1 q2 q3 q4 q5 q6
      clear hR
      generalize vs 7 = vh at hPy ⊢
      obtain ⟨hk9, _, hB9⟩ := hPy
      refine wp_value (v := .bool xr.is) (w' := wy) (by simp only [execOp]; go_simp) ?_
      try simp only [List.getElem_toArray, List.getElem_cons_succ, List.getElem_cons_zero, Act.put, List.setIfInBounds_toArray, List.set_cons_zero, List.set_cons_succ]
      have h9 := HRES.out
      injection h9 with h9
      injection h9 with h9 h10
      subst h9 h10
      go_wp2_with fail
      exact bodyPost_ret (results_cell2 rfl _ _ g4 _ _ _ rfl hk9 Try.underlying35 rfl (sizeIt _ HRF.out.addr)) rfl ⟨rfl, hB9⟩
     rw [hh, if_pos rfl] at hfd
     have HH := Hh hh
     have HFN := Hh hfd
     obtain ⟨s, hs⟩ : ∃ s, bitN ad x.p.len = s := ⟨_, rfl⟩
     have hs2 : (s : Int) < 2 := by rw [← hs]; have := bitN_lt ad x.p.len; omega
     have HS := Hh hs
     clear hfd hh hs
     go_wp2_with fail
     refine wp_region_rel (fun A B => A.grownBy B none) (fun A => grown_refl A _) (fun A B C h k => grown_trans h k) (relAt (eqs [.int .i64 (k : Int), .bool true, .bool true, .pointer (some ⟨g, 0, none⟩), .pointer (some ⟨g, 0, none⟩), .pointer (some ⟨g, 3, none⟩), .slice (some ⟨bA, 0, none⟩) t.N.length c, .int .i64 (k : Int), .pointer (some ⟨bA, k * 22, none⟩), .pointer (some ⟨bA, k * 22, none⟩), .agg x.p.cells.toArray, .agg (bv ad).toArray, .bool true, .bool true])) (MonoL.at_ (eqs_mono _)) (by kernel_rfl) (by kernel_rfl) ⟨?_, ?_, ?_, ?_, ?_, ?_, ?_, ?_, ?_, ?_, ?_, ?_, ?_, ?_, trivial⟩ ?_
     ·intro a vs W hX hR he hf K hK
      refine wn rfl ?_
      have e7 : a.eval (.tmp 7) = .int .i64 (k : Int) := hf 7 (by kernel_rfl)
      refine wV hK rfl ?_
      simp only [execOp, e7]
      try go_simp
     ·intro a vs W hX hR he hf K hK
      refine wn rfl ?_
      have e17 : a.eval (.tmp 17) = .int .i64 (k : Int) := eH he hR 0 (by kernel_rfl) rfl
      refine wV hK rfl ?_
      have h9 := HKN.out
      simp only [execOp, e17]
      go_simp
      try omega
     ·intro a vs W hX hR he hf K hK
      refine wn rfl ?_
      have e18 : a.eval (.tmp 18) = .bool true := eH he hR 1 (by kernel_rfl) rfl
      refine wV hK rfl ?_
      simp only [execOp, e18]
      try go_simp
     ·intro a vs W hX hR he hf K hK
      have e19 : a.eval (.tmp 19) = .bool true := eH he hR 2 (by kernel_rfl) rfl
      refine gT e19 rfl rfl rfl ?_
      have e0 : a.eval (.tmp 0) = .pointer (some ⟨g, 0, none⟩) := hf 0 (by kernel_rfl)
      refine wV hK rfl ?_
      simp only [execOp, e0]
      try go_simp
     ·intro a vs W hX hR he hf K hK
      have e19 : a.eval (.tmp 19) = .bool true := eH he hR 2 (by kernel_rfl) rfl
      refine gT e19 rfl rfl rfl ?_
      have e20 : a.eval (.tmp 20) = .pointer (some ⟨g, 0, none⟩) := eH he hR 3 (by kernel_rfl) rfl
      refine wV hK rfl ?_
      simp only [execOp, e20]
      try go_simp
     ·intro a vs W hX hR he hf K hK
      have e19 : a.eval (.tmp 19) = .bool true := eH he hR 2 (by kernel_rfl) rfl
      refine gT e19 rfl rfl rfl ?_
      have e21 : a.eval (.tmp 21) = .pointer (some ⟨g, 0, none⟩) := eH he hR 4 (by kernel_rfl) rfl
      refine wV hK rfl ?_
      simp only [execOp, e21]
      try go_simp
     ·intro a vs W hX hR he hf K hK
      have e19 : a.eval (.tmp 19) = .bool true := eH he hR 2 (by kernel_rfl) rfl
      refine gT e19 rfl rfl rfl ?_
      have e22 : a.eval (.tmp 22) = .pointer (some ⟨g, 3, none⟩) := eH he hR 5 (by kernel_rfl) rfl
      have hbW := bthen (below_drew _) (grow_below hX)
      have hc : W.cell? ⟨g, 3, none⟩ = some (.slice (some ⟨bA, 0, none⟩) t.N.length c) := (HT.out.blk.on hbW).cell 3
      refine wV hK rfl ?_
      simp only [execOp, e22]
      try go_simp
     ·intro a vs W hX hR he hf K hK
      have e19 : a.eval (.tmp 19) = .bool true := eH he hR 2 (by kernel_rfl) rfl
      refine gT e19 rfl rfl rfl ?_
      have e7 : a.eval (.tmp 7) = .int .i64 (k : Int) := hf 7 (by kernel_rfl)
      refine wV hK rfl ?_
      simp only [execOp, e7]
      try go_simp
     ·intro a vs W hX hR he hf K hK
      have e19 : a.eval (.tmp 19) = .bool true := eH he hR 2 (by kernel_rfl) rfl
      refine gT e19 rfl rfl rfl ?_
      have e23 : a.eval (.tmp 23) = .slice (some ⟨bA, 0, none⟩) t.N.length c := eH he hR 6 (by kernel_rfl) rfl
      have e24 : a.eval (.tmp 24) = .int .i64 (k : Int) := eH he hR 7 (by kernel_rfl) rfl
      refine wV hK rfl ?_
      simp only [execOp, e23, e24]
      go_simp
     ·intro a vs W hX hR he hf K hK
      have e19 : a.eval (.tmp 19) = .bool true := eH he hR 2 (by kernel_rfl) rfl
      refine gT e19 rfl rfl rfl ?_
      have e25 : a.eval (.tmp 25) = .pointer (some ⟨bA, k * 22, none⟩) := eH he hR 8 (by kernel_rfl) rfl
      refine wV hK rfl ?_
      simp only [execOp, e25]
      try go_simp
     ·intro a vs W hX hR he hf K hK
      have e19 : a.eval (.tmp 19) = .bool true := eH he hR 2 (by kernel_rfl) rfl
      refine gT e19 rfl rfl rfl ?_
      have e26 : a.eval (.tmp 26) = .pointer (some ⟨bA, k * 22, none⟩) := eH he hR 9 (by kernel_rfl) rfl
      have hbW := bthen (below_drew _) (grow_below hX)
      exact wp_value (exec_load_mid 30 _ rfl bA (k * 22) e26 x.p.cells _ (range_below hbW HBA.out (Nd.px_range HXR.out)) Try.underlying30 rfl (sizePx _ HXF.out.addr)) (gK hK rfl)
     ·intro a vs W hX hR he hf K hK
      have e19 : a.eval (.tmp 19) = .bool true := eH he hR 2 (by kernel_rfl) rfl
      refine gT e19 rfl rfl rfl ?_
      have e3 : a.eval (.tmp 3) = .pointer (some ⟨g3, 0, none⟩) := hf 3 (by kernel_rfl)
      have hbW := bthen (below_drew _) (grow_below hX)
      exact wp_value (exec_load 23 _ rfl g3 e3 23 (bv ad) _ (HA.out.on hbW) Try.underlying23 rfl (size16 _ HAL.out)) (gK hK rfl)
     ·intro a vs W hX hR he hf K hK
      have e19 : a.eval (.tmp 19) = .bool true := eH he hR 2 (by kernel_rfl) rfl
      refine gT e19 rfl rfl rfl ?_
      have e27 : a.eval (.tmp 27) = .agg x.p.cells.toArray := eH he hR 10 (by kernel_rfl) rfl
      have e28 : a.eval (.tmp 28) = .agg (bv ad).toArray := eH he hR 11 (by kernel_rfl) rfl
      refine wp_enter (f := 56) (args := #[.agg x.p.cells.toArray, .agg (bv ad).toArray]) (by simp only [execOp, e27, e28]; go_simp; exact ⟨by simpa [Act.eval] using e27, by simpa [Act.eval] using e28⟩) ((has_any x.p HXF.out ad HAL.out W).mono ?_)
      rintro e w' ⟨rfl, hb⟩
      rw [HH.out]
      exact ⟨_, rfl, hK _ _ rfl (below_grow hb _)⟩
     ·intro a vs W hX hR he hf K hK
      refine wn rfl ?_
      have e19 : a.eval (.tmp 19) = .bool true := eH he hR 2 (by kernel_rfl) rfl
      have e29 : a.eval (.tmp 29) = .bool true := eH he hR 12 (by kernel_rfl) rfl
      refine wV hK rfl ?_
      simp only [execOp, e19, e29]
      try go_simp
     intro vs wx hXx hR
     rw [put_eqs hR rfl]
     simp only [putL, Act.put, List.setIfInBounds_toArray, List.set_cons_zero, List.set_cons_succ]
     clear hR
     replace hBE := Hh (hBE.out.trans ((bthen (below_drew _) (grow_below hXx)).mono hBE.out.size))
     replace HA := Hh (HA.out.on (bthen (below_drew _) (grow_below hXx)))
     replace HZ := Hh (HZ.out.on (bthen (below_drew _) (grow_below hXx)))
     replace HW := Hh (bthen HW.out (bthen (below_drew _) (grow_below hXx)))
     replace HT := Hh (HT.out.on (bthen (below_drew _) (grow_below hXx)))
     replace HXR := Hh (range_below (bthen (below_drew _) (grow_below hXx)) HBA.out HXR.out)
     replace HBA := Hh (Nat.lt_of_lt_of_le HBA.out (bthen (below_drew _) (grow_below hXx)).size)
     clear hXx
     have c3 : wx.cell? ⟨g, 3, none⟩ = some (.slice (some ⟨bA, 0, none⟩) t.N.length c) := HT.out.blk.cell 3
     go_upto_region 7 with (first
      | (refine wpList_value (by rfl) (exec_load_mid 98 _ rfl bA (k * 22) (by rfl) x.cells _ HXR.out Try.underlying98 rfl (sizeNd _ HXF.out.addr)) ?_)
      | (refine wpList_alloc_blk (by rfl) 98 rfl Nd.zero.cells zeroNd ?_; intro wa hba hBa hsa; clear hsa)
      | (refine wpList_store_all (by rfl) 98 _ _ rfl wx.heap.size x.cells rfl rfl 98 _ hba (sizeNd _ HXF.out.addr) (by rw [HXL.out]; rfl) x.one ?_; intro wb hbb hgb hsb'))
     have hBb : Below wx.heap.size wx wb := bgrown hBa hgb hBa.size (Nat.le_refl _)
     obtain ⟨g8, hg8⟩ : ∃ g, wx.heap.size = g := ⟨_, rfl⟩
     have HBEb := Hh (hBE.out.trans (hBb.mono hBE.out.size))
     have HAb := Hh (HA.out.on hBb)
     rw [hg8] at hbb
     try rw [hg8]
     have HN8 := Hh hbb
     have d0 : wb.cell? ⟨g8, 18, none⟩ = some (.bool x.is) := (hbb.cell 18).trans (x.get_is HXF.out.addr)
     have d1 : wb.cell? ⟨g8, 17, none⟩ = some (.int .i64 x.p.len) := (hbb.cell 17).trans (x.get_len HXF.out.addr)
     clear hba hBa hbb hgb hsb' hBb hg8 c3
     cases hi : x.is
     ·rw [hi] at d0
      have HI := Hh hi
      clear hi
      go_wp2_with (refine wpList_load_blk (by rfl) 23 _ rfl g3 rfl 23 _ _ HAb.out Try.underlying23 rfl (size16 _ HAL.out) ?_)
      refine (bit_any ad HAL.out x.p.len HXF.out.len.1 HXF.out.len.2 wb).mono ?_
      rintro e wc ⟨rfl, hb⟩
      rw [bitI_N, HS.out]
      have d2 : wc.cell? ⟨g8, 20 + s, none⟩ = some (.int .i64 ((x.kid s : Nat) : Int)) := ((HN8.out.on hb).cell (20 + s)).trans (x.get_kid HXF.out.addr s (by omega))
      have HBEc := Hh (HBEb.out.trans (hb.mono HBEb.out.size))
      clear d0 d1 hb
      go_wp2_with fail
      go_roundw
      case rel => exact ⟨f, x.kid s, b, by omega, rfl, rfl, by have h9 := HFN.out; rw [HI.out, HS.out] at h9; exact h9, HBEc.out⟩
      case measure =>
       have h1 := cntL_more t.N ad (f + 1) k b r HFK.out F hfF
       have h2 := cntL_more t.N ad f _ _ r HFN.out F (by omega)
       simp only [intOf, Int.toNat_natCast]
       rw [HS.out] at h2
       rw [h1, h2]
       have h3 : cntL t.N ad (f + 1) k = 1 + cntL t.N ad f (x.kid s) := by
        conv => lhs; unfold cntL
        rw [if_neg (by have := HKN.out; omega), HNX.out]
        simp only []
        rw [if_pos HH.out, HS.out]
       omega
     rw [hi] at d0
     have HI := Hh hi
     clear hi
     go_wp2_with (refine wpList_load_blk (by rfl) 23 _ rfl g3 rfl 23 _ _ HAb.out Try.underlying23 rfl (size16 _ HAL.out) ?_)
     refine (bit_any ad HAL.out x.p.len HXF.out.len.1 HXF.out.len.2 wb).mono ?_
     rintro e wc ⟨rfl, hb⟩
     rw [bitI_N, HS.out]
     have d2 : wc.cell? ⟨g8, 20 + s, none⟩ = some (.int .i64 ((x.kid s : Nat) : Int)) := ((HN8.out.on hb).cell (20 + s)).trans (x.get_kid HXF.out.addr s (by omega))
     have HBEc := Hh (HBEb.out.trans (hb.mono HBEb.out.size))
     clear d0 d1 hb
     go_wp2_with fail
     go_roundw
     case rel => exact ⟨f, x.kid s, k, by omega, rfl, rfl, by have h9 := HFN.out; rw [HI.out, HS.out] at h9; exact h9, HBEc.out⟩
     case measure =>
      have h1 := cntL_more t.N ad (f + 1) k b r HFK.out F hfF
      have h2 := cntL_more t.N ad f _ _ r HFN.out F (by omega)
      simp only [intOf, Int.toNat_natCast]
      rw [HS.out] at h2
      rw [h1, h2]
      have h3 : cntL t.N ad (f + 1) k = 1 + cntL t.N ad f (x.kid s) := by
       conv => lhs; unfold cntL
       rw [if_neg (by have := HKN.out; omega), HNX.out]
       simp only []
       rw [if_pos HH.out, HS.out]
      omega
end Go.Proofs.Ytdmgomknamdcfaa


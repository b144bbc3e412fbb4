/- Texts of this claim put together, in build order: each one's own remark stands ahead of it. -/
import Derived.Test.YtdmgomknamdcfaaG19
import Derived.Sort.CutIn
import Derived.Test.YtdmgomknamdcfaaG03
/- What the table's All (layer 9) computes. No condition but sizes. -/
namespace Go.Proofs.Ytdmgomknamdcfaa
open Go.RowKit Go.Shelf
set_option linter.unusedVariables false
set_option maxRecDepth 20000
set_option linter.unusedSimpArgs false

theorem yieldAt_any {n m l : Nat} {P : Program} {args : Array Value} {W : World} {R : Ending → World → Prop} (h : YieldAt Fence.wide n P l args W R) : YieldAt Fence.wide m P l args W R := by
 obtain ⟨fn, tmps, assign, body, h1, h2, h3⟩ := h
 exact ⟨fn, tmps, assign, body, h1, h2, fun c cs _ => h3 c cs (room_wide _)⟩
theorem wpList_store_fnI {w : World} {ops : Array Oper} {rest : List Oper} {o : Oper} {a : Act} {Q : Exit → Act → World → Prop} (hgd : Region.wanted o (yielded ops a.tmps) = true) (x y : Operand) (ho : o.op = .store 105 x y) (g : Nat) (f : Fn) (ar br : Array Value) (hx : a.eval x = .pointer (some ⟨g, 0, none⟩)) (hy : a.eval y = .func f ar br) (t : TypeId) (u : Value) (hb : Blk w g t [u])
  (h : ∀ w', Blk w' g t [.func f ar br] → w.grownBy w' (some g) → w'.heap.size = w.heap.size → wpList Try.prog ops Q rest (a.put o.dst undef) w') : wpList Try.prog ops Q (o :: rest) a w :=
 wpList_wanted hgd fun _ hK => wp_skip (w' := w.setCell ⟨g, 0, none⟩ (.func f ar br)) (by
  have hc := (hb.cell 0).trans (show [u][0]? = some u from rfl)
  have hf := hb.frozen 0
  unfold execOp
  simp only [ho, hx, hy]
  go_simp
  rw [run_store _ _ _ _ _ rfl]
  go_simp) (hK _ _ (h _ (hb.set 0 _) (grown_setCells g [.func f ar br] 0 w w (grown_refl w _)) (by simp)))
theorem zeroFI (w : World) : (zeroValue 105).run Try.prog w = .ok .nilFunc w := by kernel_rfl
set_option maxHeartbeats 4000000 in
theorem each91_any (n₀ g t1 l : Nat) (t : Tb) (A Af : Option Addr) (c cf : Nat) (hTn : ∀ b, own3 g A c Af cf b → b < n₀) (B : Nat) (J Jx : List Itm → World → Prop) (hJb : ∀ s W W', J s W → Below W.heap.size W W' → J s W')
  (hY : ∀ m pre x W1, J pre W1 → x.1.fit → pre.length < B → YieldAt Fence.wide m Try.prog l #[.agg (itC x).toArray] W1 fun e W' =>
   (e = .returned (.bool true) ∧ J (pre ++ [x]) W' ∧ KpI n₀ W1 W') ∨ (e = .returned (.bool false) ∧ Jx (pre ++ [x]) W'))
  (F : Nat) (xs : List Itm) (hr : allN t.N F t.root = some xs) (hB : xs.length ≤ B) (W : World) (hJ : J [] W) (hn : n₀ ≤ W.heap.size) (hT : Tab W g t A c Af cf) (h1 : Blk W t1 66 [.pointer (some ⟨g, 0, none⟩)]) :
  Calls Try.prog 75 #[.func (.yield l) #[] #[], .pointer (some ⟨t1, 0, none⟩)] W fun e W' => (∃ v, e = .returned v) ∧ ((J xs W') ∨ ∃ p, Jx p W') := by
 have HY := Lib.hid hY
 have HJB := Lib.hid hJb
 have HTN := Lib.hid hTn
 have HT := Lib.hid hT
 have HN := Lib.hid hn
 have HR := Lib.hid hr
 have HB := Lib.hid hB
 have HJ := Lib.hid hJ
 have HT1 := Lib.hid h1
 clear hY hJb hTn hT hn hr hB hJ h1
 go_enter Try.func75, Try.ntmps75
 go_upto_region 2 with (first
  | (refine wpList_box1 (by rfl) 77 (.tmp 0) rfl (.func (.yield l) #[] #[]) rfl rfl ?_; intro w1 hb1 hB1 hs1; clear hs1)
  | (refine wpList_alloc1 (by rfl) 105 rfl .nilFunc zeroFI rfl ?_; intro w2 hb2 hB2 hs2; clear hs2))
 obtain ⟨t2, ht2⟩ : ∃ g, W.heap.size = g := ⟨_, rfl⟩
 obtain ⟨t3, ht3⟩ : ∃ g, w1.heap.size = g := ⟨_, rfl⟩
 have hk2 := hb1.on hB2
 have h23 : t2 < t3 := by rw [← ht2, ← ht3]; exact hb1.lt
 have HW := Lib.hid (bthen hB1 hB2)
 have h13 : t1 < t3 := by have := HT1.out.lt; omega
 have hn3 : W.heap.size ≤ t3 := by omega
 rw [ht2] at hk2
 rw [ht3] at hb2
 try rw [ht2]
 try rw [ht3]
 have H2 := Lib.hid hk2
 have H3 := Lib.hid hb2
 clear hb1 hB1 hb2 hB2 hk2 ht2 ht3
 go_upto_region 3 with (refine wpList_store_fnI (by rfl) _ _ rfl t3 (.func 76) #[] #[.pointer (some ⟨t1, 0, none⟩), .pointer (some ⟨t2, 0, none⟩), .pointer (some ⟨t3, 0, none⟩)] rfl rfl 105 _ H3.out ?_; intro w3 hb3 hg3 hs3)
 have HB3 := Lib.hid (bgrown HW.out hg3 HW.out.size hn3)
 have HT13 := Lib.hid (HT1.out.on HB3.out)
 have HT23 := Lib.hid (H2.out.grown hg3 (fun e => by injection e with e; omega))
 have HT33 := Lib.hid hb3
 have HTt := Lib.hid (HT.out.on HB3.out)
 have HJ3 := Lib.hid (HJB.out _ _ _ HJ.out HB3.out)
 clear hb3 hg3 hs3 h23 h13 hn3
 refine wp_region_last 5 (fun A B => A.grownBy B none) (fun A => grown_refl A _) (fun A B C h k => grown_trans h k) (relAt (List.cons (fun v _ => v = .func (.func 76) #[] #[.pointer (some ⟨t1, 0, none⟩), .pointer (some ⟨t2, 0, none⟩), .pointer (some ⟨t3, 0, none⟩)]) (List.cons (fun v _ => v = .pointer (some ⟨g, 0, none⟩)) (List.cons (fun v _ => v = .pointer (some ⟨g, 0, none⟩)) (List.cons (fun v _ => v = .pointer (some ⟨g, 5, none⟩)) (List.cons (fun v _ => v = .int .i64 (t.root : Int)) ([]))))))) (MonoL.at_ (.cons (mono_val _) (.cons (mono_val _) (.cons (mono_val _) (.cons (mono_val _) (.cons (mono_val _) .nil)))))) (by kernel_rfl) (by kernel_rfl) rfl (by kernel_rfl) _ rfl rfl ⟨?_, ?_, ?_, ?_, ?_, trivial⟩ ?_
 ·intro a vs W hX hR he hf K hK
  rw [if_pos (wanted_none rfl)]
  have e3 : a.eval (.tmp 3) = .pointer (some ⟨t3, 0, none⟩) := hf 3 (by kernel_rfl)
  have hbW := bthen (below_drew _) (grow_below hX)
  have hc : W.cell? ⟨t3, 0, none⟩ = some (.func (.func 76) #[] #[.pointer (some ⟨t1, 0, none⟩), .pointer (some ⟨t2, 0, none⟩), .pointer (some ⟨t3, 0, none⟩)]) := (HT33.out.on hbW).cell 0
  refine wp_value (v := _) ?_ (hK _ _ rfl (grown_refl W _))
  simp only [execOp, e3]
  try go_simp
 ·intro a vs W hX hR he hf K hK
  rw [if_pos (wanted_none rfl)]
  have e1 : a.eval (.tmp 1) = .pointer (some ⟨t1, 0, none⟩) := hf 1 (by kernel_rfl)
  have hbW := bthen (below_drew _) (grow_below hX)
  have hc : W.cell? ⟨t1, 0, none⟩ = some (.pointer (some ⟨g, 0, none⟩)) := (HT13.out.on hbW).cell 0
  refine wp_value (v := _) ?_ (hK _ _ rfl (grown_refl W _))
  simp only [execOp, e1]
  try go_simp
 ·intro a vs W hX hR he hf K hK
  rw [if_pos (wanted_none rfl)]
  have e6 : a.eval (.tmp 6) = .pointer (some ⟨g, 0, none⟩) := (he 1 6 (by kernel_rfl) rfl).trans (hR 1 (by kernel_rfl))
  refine wp_value (v := .pointer (some ⟨g, 0, none⟩)) ?_ (hK _ _ rfl (grown_refl W _))
  simp only [execOp, e6]
  try go_simp
  try (first | rfl | omega | (simp only [IntKind.wrap_i64, IntKind.wrap_u8, IntKind.wrap_u64, IntKind.wrap_u16, IntKind.wrap_u32]; omega) | (rw [Int.tmod_eq_emod_of_nonneg (by omega)]) | (rw [Int.tmod_eq_emod_of_nonneg (by omega)]; omega))
 ·intro a vs W hX hR he hf K hK
  rw [if_pos (wanted_none rfl)]
  have e7 : a.eval (.tmp 7) = .pointer (some ⟨g, 0, none⟩) := (he 2 7 (by kernel_rfl) rfl).trans (hR 2 (by kernel_rfl))
  refine wp_value (v := .pointer (some ⟨g, 5, none⟩)) ?_ (hK _ _ rfl (grown_refl W _))
  simp only [execOp, e7]
  try go_simp
  try (first | rfl | omega | (simp only [IntKind.wrap_i64, IntKind.wrap_u8, IntKind.wrap_u64, IntKind.wrap_u16, IntKind.wrap_u32]; omega) | (rw [Int.tmod_eq_emod_of_nonneg (by omega)]) | (rw [Int.tmod_eq_emod_of_nonneg (by omega)]; omega))
 ·intro a vs W hX hR he hf K hK
  rw [if_pos (wanted_none rfl)]
  have e8 : a.eval (.tmp 8) = .pointer (some ⟨g, 5, none⟩) := (he 3 8 (by kernel_rfl) rfl).trans (hR 3 (by kernel_rfl))
  have hbW := bthen (below_drew _) (grow_below hX)
  have hc : W.cell? ⟨g, 5, none⟩ = some (.int .i64 (t.root : Int)) := (HTt.out.blk.on hbW).cell 5
  refine wp_value (v := _) ?_ (hK _ _ rfl (grown_refl W _))
  simp only [execOp, e8]
  try go_simp
 ·intro vs wx hXx hR
  have q0 := hR 0 (by decide)
  have q1 := hR 1 (by decide)
  have q2 := hR 2 (by decide)
  have q3 := hR 3 (by decide)
  have q4 := hR 4 (by decide)
  change vs 0 = .func (.func 76) #[] #[.pointer (some ⟨t1, 0, none⟩), .pointer (some ⟨t2, 0, none⟩), .pointer (some ⟨t3, 0, none⟩)] at q0
  change vs 1 = .pointer (some ⟨g, 0, none⟩) at q1
  change vs 2 = .pointer (some ⟨g, 0, none⟩) at q2
  change vs 3 = .pointer (some ⟨g, 5, none⟩) at q3
  change vs 4 = .int .i64 (t.root : Int) at q4
  simp only [putAll, Act.put, List.setIfInBounds_toArray, List.set_cons_zero, List.set_cons_succ, List.take_succ_cons, List.take_zero, q0, q1, q2, q3, q4]
  clear q0 q1 q2 q3 q4
  clear hR
  have hbx := bthen (below_drew _) (grow_below hXx)
  have hcall := walk_in n₀ g t1 t2 t3 l t A Af c cf HTN.out B J Jx HJB.out HY.out F t.root xs HR.out 0 [] wx (HJB.out _ _ _ HJ3.out hbx) (by have := HB.out; simp; omega) (Nat.le_trans HN.out (bthen HB3.out hbx).size) (HTt.out.on hbx) (HT13.out.on hbx) (HT23.out.on hbx) (HT33.out.on hbx)
  refine wp_enter (f := 76) (args := #[.int .i64 (t.root : Int), .pointer (some ⟨t1, 0, none⟩), .pointer (some ⟨t2, 0, none⟩), .pointer (some ⟨t3, 0, none⟩)]) (by simp only [execOp]; go_simp) ((callsIn_wide.1 hcall).mono ?_)
  intro e w' he
  try simp only [List.getElem_toArray, List.getElem_cons_succ, List.getElem_cons_zero, Act.put, List.setIfInBounds_toArray, List.set_cons_zero, List.set_cons_succ]
  clear hXx hbx hcall
  rcases he with ⟨rfl, hj, _⟩ | ⟨rfl, p, hj⟩
  ·refine ⟨_, rfl, ?_⟩
   go_wp2_with fail
   refine bodyPost_end (results_none rfl _ _ _) rfl ?_
   exact ⟨⟨_, rfl⟩, .inl hj⟩
  ·refine ⟨_, rfl, ?_⟩
   go_wp2_with fail
   refine bodyPost_end (results_none rfl _ _ _) rfl ?_
   exact ⟨⟨_, rfl⟩, .inr ⟨p, hj⟩⟩
set_option maxHeartbeats 1000000 in
theorem tall_nil (w : World) : Calls Try.prog 38 #[.pointer none] w fun e w' => e = .returned (.slice none 0 0) ∧ w = w' := by
 go_enter Try.func38, Try.ntmps38
 go_wp2_with fail
 go_ret
 exact ⟨rfl, rfl⟩
attribute [local go_sem] Oper.semAt_some
theorem wpListIn_append_Own {F : Fence} {nF : Nat} {P : Program} {w : World} {ops : Array Oper} {rest : List Oper} {o : Oper} {a : Act} {Q : Exit → Act → World → Prop} (hgd : o.guard = none) (s x : Operand) (t : TypeId)
  (ho : o.op = .call { callee := .builtin .append, args := #[s, x], argTypes := #[t, t] })
  (base : Nat) (e : TypeId) (z : Value) (sz bytes : Nat) (ht : P.underlying t = some (.slice e)) (hinfo : (P.info? e).map (fun i => (i.zero, i.size, i.bytes)) = some (some z, sz, bytes))
  (hzs : z.cells.size = sz) (hsz : 0 < sz)
  (A : Option Addr) (n c : Nat) (xs : List Value) (hs : a.eval s = .slice A n c) (hown : Own w base e sz A n c xs)
  (B : Nat) (X : Option Addr) (m cx : Nat) (news : List Value) (hx : a.eval x = .slice X m cx) (hr : Row w B sz X m news) (h1 : ∀ u ∈ news, u.oneCell' = true)
  (h63 : n + m ≤ maxLen) (hbytes : (n + m) * bytes ≤ 140737488355328) (hbase : base ≤ w.heap.size)
  (h : ∀ A' c' w', Own w' base e sz A' (n + m) c' (xs ++ news) → w.grownBy w' (blk A c) → ((A' = A ∧ c' = c) ∨ ∃ g, A' = some ⟨g, 0, none⟩ ∧ w.heap.size ≤ g) → wpListIn F nF P ops Q rest (a.put o.dst (.slice A' (n + m) c')) w') :
  wpListIn F nF P ops Q (o :: rest) a w := by
 refine wpListIn_plain hgd fun K hK => ?_
 obtain ⟨A', c', w', hrun, h2, h3, h4⟩ := run_append_Own (P := P) w base t o.type e z sz bytes ht hinfo hzs hsz A n c xs hown B X m cx news hr h1 h63 hbytes hbase
 unfold Oper.wpIn
 refine ⟨by simp [Oper.about, ho, resolve, Target.leads, Sem.run_pure], ?_⟩
 rw [Oper.semAt_plain F _ _ (by rw [ho]; intro c hc'; cases hc')]
 simp [execOp, ho, resolve, invoke, builtin, hs, hx, hrun, Result.andThen]
 exact hK _ _ (h _ _ _ h2 h3 h4)
section
variable {F : Fence} {nF : Nat} {P : Program} {w w' : World} {ops : Array Oper} {rest : List Oper} {o : Oper} {a : Act} {Q : Exit → Act → World → Prop}
theorem about_none (h1 : ∀ c, o.op ≠ .call c) : ∀ f, o.about P w a.eval = some f → F.fn f := fun f hf => by
 unfold Oper.about at hf
 split at hf
 ·rename_i c hc
  exact absurd hc (h1 c)
 ·cases hf
theorem wpListIn_valF {v : Value} (hgd : o.guard = none) (h1 : ∀ c, o.op ≠ .call c) (h2 : ∀ c, o.op ≠ .defer c) (h : (execOp a.eval o).run P w = .ok (.value v) w') (hk : wpListIn F nF P ops Q rest (a.put o.dst v) w') : wpListIn F nF P ops Q (o :: rest) a w :=
 wpListIn_plain hgd fun K hK => ⟨about_none h1, by rw [Oper.semAt_plain F _ _ h2, h]; exact hK _ _ hk⟩
theorem wpListIn_skipF (hgd : o.guard = none) (h1 : ∀ c, o.op ≠ .call c) (h2 : ∀ c, o.op ≠ .defer c) (h : (execOp a.eval o).run P w = .ok .skip w') (hk : wpListIn F nF P ops Q rest (a.put o.dst undef) w') : wpListIn F nF P ops Q (o :: rest) a w :=
 wpListIn_plain hgd fun K hK => ⟨about_none h1, by rw [Oper.semAt_plain F _ _ h2, h]; exact hK _ _ hk⟩
theorem wpListIn_store_allF (hgd : o.guard = none) (ty : TypeId) (x y : Operand) (ho : o.op = .store ty x y) (g : Nat) (new : List Value) (hx : a.eval x = .pointer (some ⟨g, 0, none⟩)) (hy : a.eval y = .agg new.toArray)
  (t : TypeId) (cs : List Value) (hb : Blk w g t cs) (hi : (P.info? ty).map (·.size) = some new.length) (hl : new.length = cs.length) (h1 : ∀ v ∈ new, v.oneCell' = true)
  (h : ∀ w', Blk w' g t new → w.grownBy w' (some g) → w'.heap.size = w.heap.size → wpListIn F nF P ops Q rest (a.put o.dst undef) w') : wpListIn F nF P ops Q (o :: rest) a w := by
 have hb' := blk_setCells new 0 w cs hb (by omega)
 have e : cs.take 0 ++ new ++ cs.drop (0 + new.length) = new := by rw [List.drop_of_length_le (by omega)]; simp
 rw [e] at hb'
 refine wpListIn_skipF hgd (by rw [ho]; intro c hc; cases hc) (by rw [ho]; intro c hc; cases hc) (w' := w.setCells g 0 new) ?_ (h _ hb' (grown_setCells g new 0 w w (grown_refl w _)) (size_setCells g new 0 w))
 unfold execOp
 simp only [ho, hx, hy, Sem.run_bind, Sem.run_pure, run_store_blk ty g 0 new t cs hb hi (by omega) h1, Result.andThen_ok]
end
theorem wpListIn_store_slT {F : Fence} {nF : Nat} {w : World} {ops : Array Oper} {rest : List Oper} {o : Oper} {a : Act} {Q : Exit → Act → World → Prop} (hgd : o.guard = none) (x y : Operand) (ho : o.op = .store 40 x y) (g : Nat) (A : Option Addr) (n c : Nat) (hx : a.eval x = .pointer (some ⟨g, 0, none⟩)) (hy : a.eval y = .slice A n c) (t : TypeId) (u : Value) (hb : Blk w g t [u])
  (h : ∀ w', Blk w' g t [.slice A n c] → w.grownBy w' (some g) → w'.heap.size = w.heap.size → wpListIn F nF Try.prog ops Q rest (a.put o.dst undef) w') : wpListIn F nF Try.prog ops Q (o :: rest) a w :=
 wpListIn_skipF hgd (by rw [ho]; intro c hc; cases hc) (by rw [ho]; intro c hc; cases hc) (w' := w.setCell ⟨g, 0, none⟩ (.slice A n c)) (by
  have hc := (hb.cell 0).trans (show [u][0]? = some u from rfl)
  have hf := hb.frozen 0
  unfold execOp
  simp only [ho, hx, hy]
  go_simp) (h _ (hb.set 0 _) (grown_setCells g [.slice A n c] 0 w w (grown_refl w _)) (by simp))
theorem exec_sliceIt {w : World} {o : Oper} {q : Act} (x0 : Operand) (ho : o.op = .buildSlice 40 1 #[(0, x0)]) (p : Px) (hp : p.addr.length = 16) (n : Int) (h0 : q.eval x0 = .agg (itC (p, n)).toArray) :
  (execOp q.eval o).run Try.prog w = .ok (.value (.slice (some ⟨w.heap.size, 0, none⟩) 1 1)) (w.alloc (.cells (itC (p, n)).toArray 35)) := by
 unfold execOp
 simp only [ho, List.map_toArray, List.map_cons, List.map_nil, h0]
 clear h0 ho
 obtain ⟨b, l, m⟩ := p
 obtain ⟨s0, s1, s2, s3, s4, s5, s6, s7, s8, s9, s10, s11, s12, s13, s14, s15, rfl⟩ := list16p l hp
 first | kernel_rfl | rfl
theorem infoIt : (Try.prog.info? 35).map (fun i => (i.zero, i.size, i.bytes)) = some (some (.agg (itC (Px.zero, 0)).toArray), 19, 40) := by kernel_rfl
/-- what stands between two rounds of All's loop -/
structure AlI (w : World) (pre : List Itm) (W : World) : Prop where
 out : ∃ A c, Blk W w.heap.size 40 [.slice A pre.length c] ∧ Own W w.heap.size 35 19 A pre.length c (its pre)
 bx : ∃ v, Blk W (w.heap.size + 1) 66 [v]
 fit : ∀ x ∈ pre, x.1.fit
 bel : Below w.heap.size w W
theorem not_cells {W : World} {k : Nat} {cs : Array Value} {t : TypeId} {fr : Nat × Nat} (h : W.heap[k]? = some (Obj.cells cs t fr)) {o : Obj} (ho : W.heap[k]? = some o) (hc : o.isCells = false) : False := by
 rw [h] at ho
 cases ho
 cases hc
theorem own_obj {W : World} {base : Nat} {e : TypeId} {sz : Nat} {A : Option Addr} {n c : Nat} {xs : List Value} (h : Own W base e sz A n c xs) (g : Nat) (hg : Go.Proofs.Ytdmgomknamdcfaa.blk A c = some g) : ∃ cs, W.heap[g]? = some (Obj.cells cs e (0, 0)) := by
 obtain ⟨x, hx, hxb, hc⟩ := blk_some hg
 rcases h.own with ⟨_, h0⟩ | ⟨g', cur, hA, hb, hh, _, _⟩
 ·omega
 ·rw [hx] at hA
  injection hA with hA
  subst hA
  simp only at hxb
  subst hxb
  exact ⟨cur, hh⟩
theorem AlI.turn {w : World} {pre : List Itm} {W W' : World} {row : Option Nat} (h : AlI w pre W) (hg : W.grownBy W' row) (hr : ∀ r, row = some r → w.heap.size ≤ r ∧ ∃ o : Obj, W.heap[r]? = some o ∧ o.isCells = false) : AlI w pre W' := by
 obtain ⟨A, c, ho, hown⟩ := h.out
 obtain ⟨v, hv⟩ := h.bx
 refine ⟨⟨A, c, ho.grown hg (fun e => ?_), hown.kept hg (fun g hg' e => ?_)⟩, ⟨v, hv.grown hg (fun e => ?_)⟩, h.fit, h.bel.grown hg h.bel.size (fun k e => (hr k e).1)⟩
 ·obtain ⟨_, o, h1, h2⟩ := hr _ e.symm
  exact not_cells ho h1 h2
 ·obtain ⟨_, o, h1, h2⟩ := hr _ e
  obtain ⟨cs, hcs⟩ := own_obj hown g hg'
  exact not_cells hcs h1 h2
 ·obtain ⟨_, o, h1, h2⟩ := hr _ e.symm
  exact not_cells hv h1 h2
theorem AlI.ownFrom (w : World) (B : Nat) (hB : w.heap.size ≤ B) : OwnFrom B (AlI w) := fun s X Y row hs hg hr =>
 hs.turn hg (fun r e => ⟨Nat.le_trans hB (hr r e).1, (hr r e).2⟩)
theorem AlI.below {w : World} {s : List Itm} {W W' : World} (h : AlI w s W) (hb : Below W.heap.size W W') : AlI w s W' := by
 obtain ⟨A, c, ho, hown⟩ := h.out
 obtain ⟨v, hv⟩ := h.bx
 exact ⟨⟨A, c, ho.on hb, hown.below hb⟩, ⟨v, hv.on hb⟩, h.fit, h.bel.trans (hb.mono h.bel.size)⟩
theorem own_ne {W : World} {base : Nat} {e t : TypeId} {sz : Nat} {A : Option Addr} {n c : Nat} {xs : List Value} (h : Own W base e sz A n c xs) {g : Nat} {cs : List Value} (hb : Blk W g t cs) (ht : t ≠ e) : ∀ k, Go.Proofs.Ytdmgomknamdcfaa.blk A c = some k → k ≠ g := fun k hk e => by
 obtain ⟨cs', hc⟩ := own_obj h k hk
 subst e
 rw [show W.heap[k]? = _ from hb] at hc
 injection hc with hc
 injection hc with _ hc
 exact ht hc
theorem AlI.lets (w : World) : Lets (w.heap.size + 1) (AlI w) where
 below s W W' h hb := h.below hb
 set s W u h := by
  obtain ⟨A, c, ho, hown⟩ := h.out
  obtain ⟨v, hv⟩ := h.bx
  have hg : W.grownBy (W.setCell ⟨w.heap.size + 1, 0, none⟩ u) (some (w.heap.size + 1)) := grown_set (grown_refl W _) 0 u
  refine ⟨⟨A, c, ho.far (by simp) u, hown.kept hg (fun g hg' e => ?_)⟩, ⟨u, hv.set 0 u⟩, h.fit, bgrown h.bel hg h.bel.size (by omega)⟩
  injection e with e
  exact own_ne hown hv (by decide) g hg' e.symm
theorem kpI_b {n₀ : Nat} {w : World} (h0 : n₀ ≤ w.heap.size) : ∀ (W : World) (l : Nat) (o o' : Obj), w.heap.size ≤ l → W.heap[l]? = some o → o.isCells = false → o.isWalk = false → KpI n₀ W (W.putObj l o') := by
 intro W l o o' hl ho hc hw
 have hg := grownBy_putObj' W l o'
 refine ⟨belowK_b (w := w) h0 W l o o' hl ho hc hw, fun k cs t fr hk _ _ => (hg.block k (Array.getElem?_eq_some_iff.1 hk).1 (fun e => ?_)).trans hk⟩
 injection e with e
 subst e
 exact not_cells hk ho hc
theorem each9_ends (n₀ g t1 : Nat) (t : Tb) (A Af : Option Addr) (c cf : Nat) (hTn : ∀ b, own3 g A c Af cf b → b < n₀) (B F : Nat) (xs : List Itm) (hr : allN t.N F t.root = some xs) (hB : xs.length ≤ B) (n : Nat) (w : World) (h1 : Blk w t1 66 [.pointer (some ⟨g, 0, none⟩)]) (hn : n₀ ≤ w.heap.size) (hT : Tab w g t A c Af cf) :
  EndsD Fence.wide n Try.prog 75 #[.pointer (some ⟨t1, 0, none⟩)] (fun x : Itm => #[.agg (itC x).toArray]) (KpI n₀) (fun _ => True) (fun pre x _ => x.1.fit ∧ pre.length < B) (fun ys => ys = xs) (fun _ => True) t1 w := fun l J Jx W hW hJ hg hY h0 =>
 callsIn_wide.2 ((each91_any n₀ g t1 l t A Af c cf hTn B J Jx hJ.below (fun m pre x W1 hj hf hl => yieldAt_any (hY pre x W1 hj ⟨hf, hl⟩)) F xs hr hB W h0 (Nat.le_trans hn hW.size) (hT.on hW) (h1.on hW)).mono fun e w' h => ⟨h.1, h.2.imp (fun hj => ⟨xs, rfl, hj⟩) (fun ⟨p, hp⟩ => ⟨p, trivial, hp⟩)⟩)
set_option maxRecDepth 100000 in
set_option maxHeartbeats 4000000 in
theorem tall_in (w : World) (g : Nat) (t : Tb) (A Af : Option Addr) (c cf : Nat) (hT : Tab w g t A c Af cf) (F : Nat) (xs : List Itm) (hr : allN t.N F t.root = some xs) (hB : xs.length ≤ 1000000) :
  CallsIn Fence.wide 3 Try.prog 38 #[.pointer (some ⟨g, 0, none⟩)] w fun e w' => ∃ A' c', e = .returned (.slice A' xs.length c') ∧ Own w' w.heap.size 35 19 A' xs.length c' (its xs) ∧ Below w.heap.size w w' := by
 have HT := Lib.hid hT
 have HR := Lib.hid hr
 have HB := Lib.hid hB
 have hgl := hT.blk.lt
 clear hT hr hB
 refine callsIn_of_wp_marks Try.func38 rfl trivial ?_ rfl
 simp only [Try.ntmps38, List.size_toArray, List.length_cons, List.length_nil, Nat.reduceAdd, Nat.reduceSub, Array.replicate_succ, Array.replicate_zero, List.push_toArray, List.append_toArray, List.nil_append, List.cons_append]
 gi_wp2_with (refine ⟨trivial, ?_⟩; gi_at_call 63; refine (callsIn_wide.2 (each9_any g _)).mono ?_; rintro e w' ⟨rfl, rfl⟩)
 have hB0 : Below w.heap.size w ((w.alloc (.cells #[.slice none 0 0] 40)).alloc (.cells #[.pointer (some ⟨g, 0, none⟩)] 66)) := ((Below.refl _ _).alloc (Nat.le_refl _) _).alloc (by simp) _
 have hb0 : Blk ((w.alloc (.cells #[.slice none 0 0] 40)).alloc (.cells #[.pointer (some ⟨g, 0, none⟩)] 66)) w.heap.size 40 [.slice none 0 0] := (Blk.new w 40 [.slice none 0 0]).alloc _
 have hb1 : Blk ((w.alloc (.cells #[.slice none 0 0] 40)).alloc (.cells #[.pointer (some ⟨g, 0, none⟩)] 66)) (w.heap.size + 1) 66 [.pointer (some ⟨g, 0, none⟩)] := Blk.newN (w.alloc (.cells #[.slice none 0 0] 40)) 66 [.pointer (some ⟨g, 0, none⟩)] _ (by simp)
 have hs0 : ((w.alloc (.cells #[.slice none 0 0] 40)).alloc (.cells #[.pointer (some ⟨g, 0, none⟩)] 66)).heap.size = w.heap.size + 1 + 1 := by simp
 generalize ((w.alloc (.cells #[.slice none 0 0] 40)).alloc (.cells #[.pointer (some ⟨g, 0, none⟩)] 66)) = W0 at hB0 hb0 hb1 hs0 ⊢
 have hI0 : AlI w [] W0 := ⟨⟨none, 0, hb0, Own.nil _ _ _ _ _⟩, ⟨_, hb1⟩, by simp, hB0⟩
 have HT0 := Lib.hid (HT.out.on hB0)
 have HB0 := Lib.hid hb1
 have HS0 := Lib.hid hs0
 have HTN := Lib.hid (show ∀ b, own3 g A c Af cf b → b < w.heap.size from HT.out.lt)
 clear hb0 hb1 hB0 hgl
 refine rangeD (Bx := w.heap.size + 1) (Kp := KpI w.heap.size) (ok := fun _ => True) rfl (by omega) (gf := 75) (lb := #[.pointer (some ⟨w.heap.size + 1, 0, none⟩)]) rfl trivial (enters_of Try.func75 (by kernel_rfl) rfl)
  (each9_ends w.heap.size g (w.heap.size + 1) t A Af c cf HTN.out 1000000 F xs HR.out HB.out (3 - 1) W0 HB0.out (by omega) HT0.out) (by omega) KpI.trans (kpI_b (by omega)) (Below.refl _ _) (fun _ => rfl)
  (AlI w) (fun _ _ _ => False) (AlI.ownFrom w _ (by omega)) (fun c => fun _ _ _ _ h _ _ => h) (AlI.lets w) (fun _ _ _ _ _ => trivial) hI0
  (fun pre x a' W => ∃ Be, Blk W Be 35 (itC x) ∧ x.1.fit ∧ pre.length < 1000000 ∧
   a' = { tmps := #[.pointer (some ⟨g, 0, none⟩), undef, .slice none 0 0, .pointer (some ⟨w.heap.size, 0, none⟩), .pointer (some ⟨Be, 0, none⟩), .pointer (some ⟨g, 0, none⟩), .bool false, .pointer (some ⟨g, 0, none⟩), .func (.func 75) #[] #[.pointer (some ⟨w.heap.size + 1, 0, none⟩)], .agg (itC x).toArray, undef, undef, undef, undef, undef], defers := [] })
  ?hA ?assign ?body ?done ?stop
 case hA =>
  rintro pre x a' _ X Y row ⟨Be, h1, h2, h3, h4⟩ hg hr
  exact ⟨Be, h1.grown hg (fun e => by obtain ⟨_, o, ho, hc⟩ := hr _ e.symm; exact not_cells h1 ho hc), h2, h3, h4⟩
 case assign =>
  intro l pre x W K hI hx hK
  have HK := Lib.hid hK
  have HI := Lib.hid hI
  have HXX := Lib.hid hx
  clear hK hI hI0 hx
  dsimp only
  refine wpIn_region_lit ?_
  refine wpListIn_valF rfl (fun _ h => by cases h) (fun _ h => by cases h) (exec_alloc 35 rfl (itC (Px.zero, 0)) zeroIt) ?_
  simp only [Act.put, List.setIfInBounds_toArray, List.set_cons_zero, List.set_cons_succ, List.zip_toArray, List.zip_cons_cons, List.zip_nil_right, List.zip_nil_left, List.foldl_toArray, List.foldl_cons, List.foldl_nil]
  refine wpListIn_store_allF rfl 35 _ _ rfl W.heap.size (itC x) rfl rfl 35 (itC (Px.zero, 0)) (Blk.new W 35 _) (sizeIt _ HXX.out.1.addr) (by rw [itC_length x HXX.out.1.addr]; rfl) (oneIt _) ?_
  intro W1 hk1 hg1 hs1
  have hB1 : Below W.heap.size W W1 := bgrown (alloc_below W _) hg1 (alloc_below W _).size (Nat.le_refl _)
  refine wpListIn_nil ?_
  exact HK.out _ _ ⟨hB1.size, fun k o _ hk _ => (hB1.block k (Array.getElem?_eq_some_iff.1 hk).1).trans hk⟩ (KpI.of_below HI.out.bel.size hB1) (HI.out.below hB1) ⟨W.heap.size, hk1, HXX.out.1, HXX.out.2, rfl⟩
 case body =>
  intro l pre x a' W hl hrec hI hAx
  obtain ⟨Be, hBe, hxf, hpl, rfl⟩ := hAx
  obtain ⟨Ao, co, ho, hown⟩ := hI.out
  have HI := Lib.hid hI
  have HO := Lib.hid ho
  have HOW := Lib.hid hown
  have HXF := Lib.hid hxf
  have HBe := Lib.hid hBe
  have c0 : W.cell? ⟨w.heap.size, 0, none⟩ = some (.slice Ao pre.length co) := ho.cell 0
  clear hI hI0 ho hown hxf hBe
  apply wpIn_block
  refine wpIn_region_lit ?_
  refine wpListIn_valF (v := .slice Ao pre.length co) (w' := W) rfl (fun _ h => by cases h) (fun _ h => by cases h) (by simp only [execOp]; go_simp) ?_
  simp only [Act.put, List.setIfInBounds_toArray, List.set_cons_zero, List.set_cons_succ]
  refine wpListIn_valF rfl (fun _ h => by cases h) (fun _ h => by cases h) (exec_load 35 _ rfl Be rfl 35 (itC x) _ HBe.out Try.underlying35 rfl (sizeIt _ HXF.out.addr)) ?_
  simp only [Act.put, List.setIfInBounds_toArray, List.set_cons_zero, List.set_cons_succ]
  refine wpListIn_valF rfl (fun _ h => by cases h) (fun _ h => by cases h) (exec_sliceIt _ rfl x.1 HXF.out.addr x.2 rfl) ?_
  simp only [Act.put, List.setIfInBounds_toArray, List.set_cons_zero, List.set_cons_succ]
  have hbk := Blk.new W 35 (itC (x.1, x.2))
  have hrw := hbk.row 19 0 1 (by rw [itC_length (x.1, x.2) HXF.out.addr]; omega)
  rw [List.drop_zero, Nat.one_mul, List.take_of_length_le (by rw [itC_length (x.1, x.2) HXF.out.addr]; omega)] at hrw
  refine wpListIn_append_Own rfl _ _ 40 rfl w.heap.size 35 _ 19 40 Try.underlying40 infoIt rfl (by decide) _ _ _ _ rfl (HOW.out.alloc _) _ _ 1 1 (itC x) rfl hrw (oneIt x) (by simp only [maxLen]; omega) (by omega) (by have := HI.out.bel.size; simp; omega) ?_
  intro A3 c3 W3 hown3 hg3 halt3
  simp only [Act.put, List.setIfInBounds_toArray, List.set_cons_zero, List.set_cons_succ]
  have hal := alloc_below W (.cells (itC (x.1, x.2)).toArray 35)
  have hne3 : ∀ g, Go.Proofs.Ytdmgomknamdcfaa.blk Ao co = some g → g ≠ w.heap.size := own_ne HOW.out HO.out (by decide)
  have hb3 : Blk W3 w.heap.size 40 [.slice Ao pre.length co] := (HO.out.on hal).grown hg3 (fun e => hne3 _ e.symm rfl)
  obtain ⟨vb, hvb⟩ := HI.out.bx
  have hx3 : Blk W3 (w.heap.size + 1) 66 [vb] := (hvb.on hal).grown hg3 (fun e => own_ne HOW.out hvb (by decide) _ e.symm rfl)
  refine wpListIn_store_slT rfl _ _ rfl w.heap.size A3 (pre.length + 1) c3 rfl rfl 40 _ hb3 ?_
  intro W4 hb4 hg4 hs4
  refine wpListIn_nil ?_
  have hlow : ∀ g, Go.Proofs.Ytdmgomknamdcfaa.blk Ao co = some g → w.heap.size ≤ g := fun g hg => (HOW.out.lt g hg).1
  have hB3 : Below w.heap.size W W3 := (hal.mono HI.out.bel.size).grown hg3 (Nat.le_trans HI.out.bel.size hal.size) hlow
  have hB4 : Below w.heap.size W W4 := bgrown hB3 hg4 (Nat.le_trans HI.out.bel.size hB3.size) (Nat.le_refl _)
  have hne4 : ∀ g, Go.Proofs.Ytdmgomknamdcfaa.blk A3 c3 = some g → g ≠ w.heap.size := own_ne hown3 hb3 (by decide)
  have keep : ∀ (k : Nat) (cs : Array Value) (ty : TypeId) (fr : Nat × Nat), W.heap[k]? = some (Obj.cells cs ty fr) → ty ≠ 35 → ty ≠ 40 → W4.heap[k]? = some (Obj.cells cs ty fr) := by
   intro k cs ty fr hk h1 h2
   have hk3 : W3.heap[k]? = some (Obj.cells cs ty fr) := (hg3.block k (Nat.lt_of_lt_of_le (Array.getElem?_eq_some_iff.1 hk).1 hal.size) (fun e => by
    obtain ⟨cs', hc'⟩ := own_obj HOW.out k e.symm
    rw [hk] at hc'
    injection hc' with hc'
    injection hc' with _ hc'
    exact h1 hc')).trans ((hal.block k (Array.getElem?_eq_some_iff.1 hk).1).trans hk)
   refine (hg4.block k (Array.getElem?_eq_some_iff.1 hk3).1 (fun e => ?_)).trans hk3
   injection e with e
   subst e
   rw [show W3.heap[w.heap.size]? = _ from hb3] at hk3
   injection hk3 with hk3
   injection hk3 with _ hk3
   exact h2 hk3.symm
  have nonc : ∀ (k : Nat) (o : Obj), W0.heap.size ≤ k → W.heap[k]? = some o → o.isCells = false → W4.heap[k]? = some o := by
   intro k o hk0 hk hc
   have hk3 : W3.heap[k]? = some o := (hg3.block k (Nat.lt_of_lt_of_le (Array.getElem?_eq_some_iff.1 hk).1 hal.size) (fun e => by
    obtain ⟨cs', hc'⟩ := own_obj HOW.out k e.symm
    exact not_cells hc' hk hc)).trans ((hal.block k (Array.getElem?_eq_some_iff.1 hk).1).trans hk)
   refine (hg4.block k (Array.getElem?_eq_some_iff.1 hk3).1 (fun e => ?_)).trans hk3
   injection e with e
   omega
  refine ⟨⟨Nat.le_trans (Nat.le_trans hal.size hg3.size) hg4.size, nonc⟩, ⟨hB4, keep⟩, ⟨A3, c3, ?_, ?_⟩, ⟨vb, hx3.grown hg4 (fun e => by injection e with e; omega)⟩, ?_, HI.out.bel.trans hB4⟩
  ·simpa using hb4
  ·have := hown3.kept hg4 (fun g hg e => hne4 g hg (by injection e with e; exact e.symm))
   rw [show its (pre ++ [x]) = its pre ++ itC x by simp [its]]
   simpa using this
  ·intro y hy
   rcases List.mem_append.1 hy with hy | hy
   ·exact HI.out.fit y hy
   ·obtain rfl := List.mem_singleton.1 hy
    exact HXF.out
 case done =>
  intro D ys W hD hS hI hdef
  subst hS
  obtain ⟨A3, c3, ho, hown⟩ := hI.out
  have c0 : W.cell? ⟨w.heap.size, 0, none⟩ = some (.slice A3 ys.length c3) := ho.cell 0
  have HI := Lib.hid hI
  have HO := Lib.hid hown
  clear hI hI0 ho hown
  gi_wp2
  have hg4 := grownBy_putObj' W D (.deferred none)
  have ho4 := HO.out.kept hg4 (fun g hg e => by
   injection e with e
   subst e
   obtain ⟨cs', hc'⟩ := own_obj HO.out _ hg
   rw [hdef] at hc'
   cases hc')
  have hb4 := HI.out.bel.grown hg4 HI.out.bel.size (fun k e => by cases e; omega)
  refine ⟨by simp, .inl ⟨_, _, rfl, run_takeDeferred hdef, ?_⟩⟩
  refine ⟨.slice A3 ys.length c3, ?_, A3, c3, rfl, ho4, hb4⟩
  simp [results, Try.f38, go_sem]
 case stop => exact fun D c pre W hD hS hI hdef => hI.elim
theorem tall_any (w : World) (g : Nat) (t : Tb) (A Af : Option Addr) (c cf : Nat) (hT : Tab w g t A c Af cf) (F : Nat) (xs : List Itm) (hr : allN t.N F t.root = some xs) (hB : xs.length ≤ 1000000) :
  Calls Try.prog 38 #[.pointer (some ⟨g, 0, none⟩)] w fun e w' => ∃ A' c', e = .returned (.slice A' xs.length c') ∧ Own w' w.heap.size 35 19 A' xs.length c' (its xs) ∧ Below w.heap.size w w' :=
 callsIn_wide.1 (tall_in w g t A Af c cf hT F xs hr hB)
end Go.Proofs.Ytdmgomknamdcfaa

/- Plain laws: the table's nodes (layer 9) against a tree of prefixes: what is found, looked up, told. No condition. -/
namespace Go.Proofs.Ytdmgomknamdcfaa
set_option linter.unusedVariables false
set_option linter.unusedSimpArgs false
set_option maxRecDepth 20000

def Tr.dep : Tr → Nat
 | .nil => 0
 | .node _ _ _ _ l r => max l.dep r.dep + 1
/-- a node holds this -/
structure Hd (s : Bool) (x : Nd) (p : List Bool) (is : Bool) (v : Int) : Prop where
 good : x.p.good
 six : x.p.six = s
 bits : x.p.bits = p
 is : x.is = is
 v : x.v = v
/-- a tree stands at a place -/
def Sits (N : List Nd) (s : Bool) : Tr → Nat → Prop
 | .nil, k => k = 0
 | .node n p is v l r, k => k = n ∧ 0 < n ∧ ∃ x, N[n]? = some x ∧ Hd s x p is v ∧ Sits N s l x.k0 ∧ Sits N s r x.k1
theorem Sits.frame {N N' : List Nd} {s : Bool} : ∀ {t : Tr} {k : Nat}, Sits N s t k → (∀ i ∈ t.ids, N'[i]? = N[i]?) → Sits N' s t k
 | .nil, k, h, _ => h
 | .node n p is v l r, k, ⟨h1, h0, x, hx, hd, hl, hr⟩, hf =>
  ⟨h1, h0, x, (hf n (by simp [Tr.ids])).trans hx, hd, Sits.frame hl (fun i hi => hf i (by simp [Tr.ids, hi])), Sits.frame hr (fun i hi => hf i (by simp [Tr.ids, hi]))⟩
theorem Sits.zero {N : List Nd} {s : Bool} {t : Tr} {k : Nat} (h : Sits N s t k) : k = 0 ↔ t.isNil = true := by
 cases t with
 | nil => exact ⟨fun _ => rfl, fun _ => h⟩
 | node n p is v l r =>
  obtain ⟨h1, h0, _⟩ := h
  exact ⟨fun e => by omega, fun e => by cases e⟩
/-- a bit of a longer prefix, behind a shorter one -/
theorem side_N {p q : Px} (hp : p.good) (hq : q.good) (h : q.bits.length < p.bits.length) : bitN p.addr q.len = if sideB p.bits q.bits.length then 1 else 0 := by
 have l1 := hp.bits_length
 have l2 := hq.bits_length
 have g := hq.ge
 have m := hp.len128
 unfold bitN bitI
 rw [if_pos ⟨g, by omega⟩, side_addr hp _ (by omega), l2]
 cases sideB p.bits q.len.toNat <;> rfl
theorem kid_if (x : Nd) (b : Bool) : x.kid (if b then 1 else 0) = if b then x.k1 else x.k0 := by cases b <;> rfl
theorem len_bits {p q : Px} (hp : p.good) (hq : q.good) : p.len = q.len ↔ p.bits.length = q.bits.length := by
 have l1 := hp.bits_length
 have l2 := hq.bits_length
 have g1 := hp.ge
 have g2 := hq.ge
 omega
theorem covP_iff {p q : Px} (hp : p.good) (hq : q.good) (hs : p.six = q.six) : covP p q = true ↔ p.bits <+: q.bits := by
 rw [← covers_iff hp hq]
 unfold covP hasA
 rw [hs]
 simp
theorem prefix_lt {x y : List Bool} (h : x <+: y) (hne : x ≠ y) : x.length < y.length := by
 have := h.length_le
 rcases Nat.lt_or_ge x.length y.length with h1 | h1
 ·exact h1
 ·exact absurd (h.eq_of_length (by omega)) hne

theorem find_sits {N : List Nd} {s : Bool} {p : Px} (hp : p.good) (hs : p.six = s) : ∀ (t : Tr) (k F : Nat), Sits N s t k → t.dep < F →
  ∃ r, findN N p F k = some r ∧ ((r = 0 ∧ t.find p.bits = .nil) ∨ ∃ x, N[r]? = some x ∧ (x.v, x.is) = (t.find p.bits).val)
 | .nil, k, F, h, hF => by
  obtain ⟨f, rfl⟩ : ∃ f, F = f + 1 := ⟨F - 1, by omega⟩
  obtain rfl : k = 0 := h
  exact ⟨0, by simp [findN], .inl ⟨rfl, rfl⟩⟩
 | .node n q is v l r, k, F, ⟨h1, h0, x, hx, hd, hl, hr⟩, hF => by
  obtain ⟨f, rfl⟩ : ∃ f, F = f + 1 := ⟨F - 1, by omega⟩
  subst h1
  have hdl : l.dep < f := by simp only [Tr.dep] at hF; omega
  have hdr : r.dep < f := by simp only [Tr.dep] at hF; omega
  obtain ⟨g, h6, hb, hi, hv⟩ := hd
  subst hb hi hv
  unfold findN Tr.find
  rw [if_neg (by omega), hx]
  simp only []
  by_cases e : x.p = p
  ·rw [if_pos e, if_pos (by rw [e])]
   exact ⟨k, rfl, .inr ⟨x, hx, rfl⟩⟩
  ·have eb : x.p.bits ≠ p.bits := fun h => e (good_eq g hp (by rw [h6, hs]) h)
   rw [if_neg e, if_neg eb]
   have hcov := covP_iff g hp (by rw [h6, hs])
   by_cases hpre : x.p.bits <+: p.bits
   ·have hlt := prefix_lt hpre eb
    rw [if_pos (by rw [hcov.2 hpre, decide_eq_false (fun h => by have := (len_bits g hp).1 h; omega)]; rfl), if_pos hpre, side_N hp g hlt, kid_if]
    cases sideB p.bits x.p.bits.length
    ·exact find_sits hp hs l _ f hl hdl
    ·exact find_sits hp hs r _ f hr hdr
   ·rw [if_neg (fun h => by simp only [Bool.and_eq_true] at h; exact hpre (hcov.1 h.1)), if_neg hpre]
    exact ⟨0, rfl, .inl ⟨rfl, rfl⟩⟩

/-- a place is that of the best that was found so far -/
def RepB (N : List Nd) (s : Bool) (b : Nat) (bt : Tr) : Prop := (b = 0 ∧ bt.item = none) ∨ ∃ x, N[b]? = some x ∧ bt.item = some (x.p.bits, x.v) ∧ x.is = true ∧ x.p.good ∧ x.p.six = s
theorem look_sits {N : List Nd} {s : Bool} {a : List UInt8} (ha : a.length = 16) : ∀ (t : Tr) (k F b : Nat) (bt : Tr), Sits N s t k → RepB N s b bt → t.dep < F →
  ∃ r, lookN N a F k b = some r ∧ RepB N s r (t.look (abits a) bt)
 | .nil, k, F, b, bt, h, hb, hF => by
  obtain ⟨f, rfl⟩ : ∃ f, F = f + 1 := ⟨F - 1, by omega⟩
  obtain rfl : k = 0 := h
  exact ⟨b, by simp [lookN], hb⟩
 | .node n q is v l r, k, F, b, bt, ⟨h1, h0, x, hx, hd, hl, hr⟩, hb, hF => by
  obtain ⟨f, rfl⟩ : ∃ f, F = f + 1 := ⟨F - 1, by omega⟩
  subst h1
  have hdl : l.dep < f := by simp only [Tr.dep] at hF; omega
  have hdr : r.dep < f := by simp only [Tr.dep] at hF; omega
  obtain ⟨g, h6, hbt, hi, hv⟩ := hd
  subst hbt hi hv
  unfold lookN Tr.look
  rw [if_neg (by omega), hx]
  simp only []
  by_cases hpre : x.p.bits <+: abits a
  ·rw [if_pos ((hasA_iff g ha).2 hpre), if_pos hpre]
   have hbit : bitN a x.p.len = (if sideB (abits a) x.p.bits.length then 1 else 0) ∨ x.p.bits.length = 128 := by
    rcases Nat.lt_or_ge x.p.bits.length 128 with h | h
    ·refine .inl ?_
     have l2 := g.bits_length
     have g2 := g.ge
     unfold bitN bitI
     rw [if_pos ⟨g2, by omega⟩, l2]
     show (if bitF a x.p.len.toNat then (1 : Int) else 0).toNat = _
     unfold bitF
     cases sideB (abits a) x.p.len.toNat <;> rfl
    ·refine .inr ?_
     have := g.len128
     have := g.bits_length
     omega
   have hrep : RepB N s (if x.is = true then k else b) (if x.is = true then .node k x.p.bits x.is x.v l r else bt) := by
    cases hi : x.is
    ·exact hb
    ·exact .inr ⟨x, hx, by simp [Tr.item], hi, g, h6⟩
   rcases hbit with hbit | hbit
   ·rw [hbit, kid_if]
    cases sideB (abits a) x.p.bits.length
    ·exact look_sits ha l _ f _ _ hl hrep hdl
    ·exact look_sits ha r _ f _ _ hr hrep hdr
   · -- no bit behind the last one: bit 0 is told, and the tree goes to the left as well
    have l2 := g.bits_length
    have e1 : bitN a x.p.len = 0 := by
     unfold bitN bitI
     rw [if_neg (by omega)]
     rfl
    have e2 : sideB (abits a) x.p.bits.length = false := by
     unfold sideB
     rw [List.getD_eq_getElem?_getD, List.getElem?_eq_none (by rw [abits_length, ha]; omega)]
     rfl
    rw [e1, e2]
    exact look_sits ha l _ f _ _ hl hrep hdl
  ·have hno : hasA x.p a ≠ true := fun h => hpre ((hasA_iff g ha).1 h)
   rw [if_neg hno, if_neg hpre]
   exact ⟨b, rfl, hb⟩

theorem all_sits {N : List Nd} {s : Bool} {z : Nd} (hz : N[0]? = some z) : ∀ (t : Tr) (k F : Nat), Sits N s t k → t.dep < F →
  ∃ L, allN N F k = some L ∧ L.map keyB = t.all ∧ ∀ x ∈ L, x.1.good ∧ x.1.six = s
 | .nil, k, F, h, hF => by
  obtain ⟨f, rfl⟩ : ∃ f, F = f + 1 := ⟨F - 1, by omega⟩
  obtain rfl : k = 0 := h
  exact ⟨[], by simp [allN, hz], rfl, by simp⟩
 | .node n q is v l r, k, F, ⟨h1, h0, x, hx, hd, hl, hr⟩, hF => by
  obtain ⟨f, rfl⟩ : ∃ f, F = f + 1 := ⟨F - 1, by omega⟩
  subst h1
  have hdl : l.dep < f := by simp only [Tr.dep] at hF; omega
  have hdr : r.dep < f := by simp only [Tr.dep] at hF; omega
  obtain ⟨g, h6, hbt, hi, hv⟩ := hd
  obtain ⟨L1, e1, m1, k1⟩ := all_sits hz l _ f hl hdl
  obtain ⟨L2, e2, m2, k2⟩ := all_sits hz r _ f hr hdr
  subst hbt hi hv
  refine ⟨(if x.is = true then [(x.p, x.v)] else []) ++ (L1 ++ L2), ?_, ?_, ?_⟩
  ·unfold allN
   rw [hx]
   simp only []
   rw [if_neg (by omega), e1]
   simp only []
   rw [e2]
  ·unfold Tr.all
   rw [List.map_append, List.map_append, m1, m2]
   cases x.is <;> rfl
  ·intro y hy
   rcases List.mem_append.1 hy with h | h
   ·cases hi : x.is
    ·rw [hi] at h; simp at h
    ·rw [hi] at h
     obtain rfl := List.mem_singleton.1 (by simpa using h)
     exact ⟨g, h6⟩
   ·rcases List.mem_append.1 h with h | h
    ·exact k1 y h
    ·exact k2 y h
/-- rows of good prefixes of one kind are told by their bits -/
theorem row_eq {s : Bool} : ∀ (L M : List Itm), (∀ x ∈ L, x.1.good ∧ x.1.six = s) → (∀ x ∈ M, x.1.good ∧ x.1.six = s) → L.map keyB = M.map keyB → L = M
 | [], [], _, _, _ => rfl
 | [], _ :: _, _, _, h => by simp at h
 | _ :: _, [], _, _, h => by simp at h
 | x :: L, y :: M, h1, h2, h => by
  injection h with ha hb
  have e1 : x.1 = y.1 := good_eq (h1 x (by simp)).1 (h2 y (by simp)).1 (by rw [(h1 x (by simp)).2, (h2 y (by simp)).2]) (congrArg (·.1) ha)
  have e2 : x.2 = y.2 := congrArg (·.2) ha
  rw [show x = y from Prod.ext e1 e2, row_eq L M (fun z hz => h1 z (by simp [hz])) (fun z hz => h2 z (by simp [hz])) hb]
end Go.Proofs.Ytdmgomknamdcfaa


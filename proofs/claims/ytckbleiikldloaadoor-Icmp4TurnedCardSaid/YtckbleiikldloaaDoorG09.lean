/- Texts of this claim put together, in build order: each one's own remark stands ahead of it. -/
import Derived.Test.YtckbleiikldloaaDoorG08
import Derived.Scope
/- What ext.Get (layer 22) computes, where its first bytes are not right; what stands between two rounds of its loop. No condition but sizes. -/
namespace Go.Proofs.YtckbleiikldloaaDoor
open Go.RowKit Go.Shelf
set_option linter.unusedVariables false
set_option maxRecDepth 20000
set_option linter.unusedSimpArgs false

attribute [local go_sem] Oper.semAt_some

theorem infoXo : (Tryd.prog.info? 80).map (fun i => (i.zero, i.size, i.bytes)) = some (some (.agg #[.int .u8 0, .int .u8 0, .slice none 0 0]), 3, 32) := by kernel_rfl
theorem own_cells {W : World} {base : Nat} {e : TypeId} {sz : Nat} {A : Option Addr} {n c : Nat} {xs : List Value} (h : Own W base e sz A n c xs) (g : Nat) (hg : blk A c = some g) : ∃ cs, W.heap[g]? = some (.cells cs e (0, 0)) := by
  unfold blk at hg
  split at hg
  · cases hg
  · rename_i hc
    rcases h.own with ⟨_, h0⟩ | ⟨g', cur, rfl, hb, hh, _, _⟩
    · omega
    · simp at hg
      subst hg
      exact ⟨cur, hh⟩
theorem not_blk {W : World} {base sz n c B : Nat} {e t : TypeId} {A : Option Addr} {xs : List Value} {v : Value} (h : Own W base e sz A n c xs) (hb : Boxed W B t v) (ht : t ≠ e) : some B ≠ blk A c := fun e' => by
  obtain ⟨cs, hc⟩ := own_cells h B e'.symm
  rw [show W.heap[B]? = _ from hb] at hc
  injection hc with hc
  injection hc with _ hc
  exact ht hc
theorem own_box' {W : World} {base sz n c B : Nat} {e t : TypeId} {A : Option Addr} {xs : List Value} {v : Value} (h : Own W base e sz A n c xs) (hb : Boxed W B t v) (ht : t ≠ e) (u : Value) : Own (W.setCell ⟨B, 0, none⟩ u) base e sz A n c xs :=
  h.kept (grownBy_setCell' W B u) (fun g hg e' => by
    cases e'
    exact not_blk h hb ht hg.symm)
theorem own_own {W w3 : World} {b1 b2 s1 s2 n1 n2 c1 c2 : Nat} {e1 e2 : TypeId} {A1 A2 : Option Addr} {x1 x2 : List Value} (h : Own W b1 e1 s1 A1 n1 c1 x1) (k : Own W b2 e2 s2 A2 n2 c2 x2) (ht : e1 ≠ e2) (hg : W.grownBy w3 (blk A2 c2)) : Own w3 b1 e1 s1 A1 n1 c1 x1 :=
  h.kept hg (fun g hg' e' => by
    obtain ⟨cs, hc⟩ := own_cells h g hg'
    obtain ⟨cs2, hc2⟩ := own_cells k g e'
    rw [hc] at hc2
    injection hc2 with hc2
    injection hc2 with _ hc2
    exact ht hc2)
theorem own_turn {W W' : World} {base sz n c : Nat} {e : TypeId} {A : Option Addr} {xs : List Value} {row : Option Nat} (h : Own W base e sz A n c xs) (hg : W.grownBy W' row) (hr : ∀ r, row = some r → ∀ cs t, W.heap[r]? = some (.cells cs t (0, 0)) → False) : Own W' base e sz A n c xs :=
  h.kept hg (fun g' hg' e' => by
    obtain ⟨cs, hc⟩ := own_cells h g' hg'
    exact hr g' e' _ _ hc)
theorem own_keepsFrom {W w3 : World} {base sz n c : Nat} {e : TypeId} {A : Option Addr} {xs : List Value} (B : Nat) (h : Own W base e sz A n c xs) (hg : W.grownBy w3 (blk A c)) : KeepsFrom B W w3 :=
  ⟨hg.size, fun k o _ hk ho => (hg.block k (Array.getElem?_eq_some_iff.1 hk).1 (fun e' => by
    obtain ⟨cs, hc⟩ := own_cells h k e'.symm
    rw [hk] at hc
    cases hc
    cases ho)).trans hk⟩

theorem wpListIn_append_Own {F : Fence} {nF : Nat} {P : Program} {w : World} {ops : Array Oper} {rest : List Oper} {o : Oper} {a : Act} {Q : Exit → Act → World → Prop} (hgd : o.guard = none) (s x : Operand) (t : TypeId)
    (ho : o.op = .call { callee := .builtin .append, args := #[s, x], argTypes := #[t, t] })
    (base : Nat) (e : TypeId) (z : Value) (sz bytes : Nat) (ht : P.underlying t = some (.slice e)) (hinfo : (P.info? e).map (fun i => (i.zero, i.size, i.bytes)) = some (some z, sz, bytes))
    (hzs : z.cells.size = sz) (hsz : 0 < sz)
    (A : Option Addr) (n c : Nat) (xs : List Value) (hs : a.eval s = .slice A n c) (hown : Own w base e sz A n c xs)
    (B : Nat) (X : Option Addr) (m cx : Nat) (news : List Value) (hx : a.eval x = .slice X m cx) (hr : Row w B sz X m news) (h1 : ∀ u ∈ news, u.oneCell' = true)
    (h63 : n + m ≤ maxLen) (hbytes : (n + m) * bytes ≤ 140737488355328) (hbase : base ≤ w.heap.size)
    (h : ∀ A' c' w', Own w' base e sz A' (n + m) c' (xs ++ news) → w.grownBy w' (blk A c) → ((A' = A ∧ c' = c) ∨ ∃ g, A' = some ⟨g, 0, none⟩ ∧ w.heap.size ≤ g) → wpListIn F nF P ops Q rest (a.put o.dst (.slice A' (n + m) c')) w') :
    wpListIn F nF P ops Q (o :: rest) a w := by
  refine wpListIn_plain hgd fun K hK => ?_
  obtain ⟨A', c', w', hrun, h2, h3, h4⟩ := run_append_Own (P := P) w base t o.type e z sz bytes ht hinfo hzs hsz A n c xs hown B X m cx news hr h1 h63 hbytes hbase
  unfold Oper.wpIn
  refine ⟨by simp [Oper.about, ho, resolve, Target.leads, Sem.run_pure], ?_⟩
  rw [Oper.semAt_plain F _ _ (by rw [ho]; intro c hc'; cases hc')]
  simp [execOp, ho, resolve, invoke, builtin, hs, hx, hrun, Result.andThen]
  exact hK _ _ (h _ _ _ h2 h3 h4)

theorem wpListIn_val {nF : Nat} {P : Program} {w w' : World} {ops : Array Oper} {rest : List Oper} {o : Oper} {a : Act} {Q : Exit → Act → World → Prop} {v : Value} (hgd : o.guard = none) (h : (execOp a.eval o).run P w = .ok (.value v) w')
    (hk : wpListIn Fence.wide nF P ops Q rest (a.put o.dst v) w') : wpListIn Fence.wide nF P ops Q (o :: rest) a w :=
  wpListIn_plain hgd fun K hK => wpIn_of_wp (wp_value h (hK _ _ hk))

/-- what bytes tell -/
def getG (zs : List UInt8) : List Ob × Int := if zs.length < 4 then ([], 10) else if (zs.getD 0 0).toNat / 16 ≠ 2 then ([], 12) else if rawN zs ≠ 65535 then ([], 14) else goG (zs.length - 4) [] (zs.drop 4)

/-- an object of the call's own -/
structure TXo (N : Nat) (x : Xo) (W : World) : Prop where
  cls : 0 ≤ x.cls ∧ x.cls ≤ 255
  kind : 0 ≤ x.kind ∧ x.kind ≤ 255
  own : Own W N 5 1 x.A x.n x.c (bv x.body)
structure GtI (w : World) (g : Nat) (pre : List Tx) (W : World) : Prop where
  out : ∃ A c, Boxed W g 83 (.slice A pre.length c) ∧ Own W w.heap.size 80 3 A pre.length c (xos (pre.map (·.1)))
  r2 : Boxed W w.heap.size 83 (.slice none 0 0)
  r3 : Boxed W (w.heap.size + 1) 28 (.int .i64 0)
  bx : ∃ v, Boxed W (g + 1) 22 v
  obs : ∀ x ∈ pre, TXo w.heap.size x.1 W
  bel : Below w.heap.size w W

theorem GtI.turn {w : World} {g : Nat} {pre : List Tx} {W W' : World} {row : Option Nat} (h : GtI w g pre W) (hg : W.grownBy W' row) (hr : ∀ r, row = some r → w.heap.size ≤ r ∧ ∀ cs t, W.heap[r]? = some (.cells cs t (0, 0)) → False) : GtI w g pre W' := by
  have hb : ∀ {B : Nat} {t : TypeId} {v : Value}, Boxed W B t v → Boxed W' B t v := fun hb => hb.kept hg (fun e => (hr _ e.symm).2 _ _ hb)
  obtain ⟨A, c, ho, hown⟩ := h.out
  refine ⟨⟨A, c, hb ho, own_turn hown hg (fun r e => (hr r e).2)⟩, hb h.r2, hb h.r3, ?_, fun x hx => ⟨(h.obs x hx).cls, (h.obs x hx).kind, own_turn (h.obs x hx).own hg (fun r e => (hr r e).2)⟩, h.bel.grown hg h.bel.size (fun k e => (hr k e).1)⟩
  obtain ⟨v, hv⟩ := h.bx
  exact ⟨v, hb hv⟩
theorem GtI.ownFrom (w : World) (g B : Nat) (hB : w.heap.size ≤ B) : OwnFrom B (GtI w g) := fun s X Y row hs hg hr =>
  hs.turn hg (fun r e => by
    obtain ⟨h1, o, ho, hc⟩ := hr r e
    refine ⟨by omega, fun cs t h2 => ?_⟩
    rw [ho] at h2
    cases h2
    cases hc)
theorem GtI.lets (w : World) (g : Nat) (hg1 : w.heap.size + 1 < g) : Lets (g + 1) (GtI w g) where
  below s W W' h hb := by
    have hk : ∀ {B : Nat} {t : TypeId} {v : Value}, Boxed W B t v → Boxed W' B t v := fun hx => (hb.block _ hx.lt).trans hx
    obtain ⟨A, c, ho, hown⟩ := h.out
    obtain ⟨v, hv⟩ := h.bx
    exact ⟨⟨A, c, hk ho, hown.below hb⟩, hk h.r2, hk h.r3, ⟨v, hk hv⟩, fun x hx => ⟨(h.obs x hx).cls, (h.obs x hx).kind, (h.obs x hx).own.below hb⟩, h.bel.trans (hb.mono h.bel.size)⟩
  set s W u h := by
    obtain ⟨A, c, ho, hown⟩ := h.out
    obtain ⟨v, hv⟩ := h.bx
    have hne : ∀ {B : Nat} {t : TypeId} {v' : Value}, Boxed W B t v' → t ≠ 80 → t ≠ 5 → True := fun _ _ _ => trivial
    refine ⟨⟨A, c, ho.other (by omega) u, own_box' hown hv (by decide) u⟩, h.r2.other (by omega) u, h.r3.other (by omega) u, ⟨u, hv.set u⟩, fun x hx => ⟨(h.obs x hx).cls, (h.obs x hx).kind, own_box' (h.obs x hx).own hv (by decide) u⟩, h.bel.setCell (p := ⟨_, 0, none⟩) (by simp only; omega) u⟩

theorem row_newX (W : World) (x : Xo) : Row (W.alloc (.cells #[.int .u8 x.cls, .int .u8 x.kind, .slice x.A x.n x.c] 80)) (W.heap.size + 1) 3 (some ⟨W.heap.size, 0, none⟩) 1 x.cells :=
  Row.new (n := 1) (sz := 3) W _ rfl
theorem xos_append (a b : List Xo) : xos (a ++ b) = xos a ++ xos b := by simp [xos]
theorem GtI.pushed {w : World} {g : Nat} {pre : List Tx} {W w3 : World} (h : GtI w g pre W) (hg1 : w.heap.size + 1 < g) (x : Tx) (hx : TXo w.heap.size x.1 W) (o : Obj) {Ao A3 : Option Addr} {co c3 B : Nat} (ho : Boxed W g 83 (.slice Ao pre.length co))
    (hown : Own W w.heap.size 80 3 Ao pre.length co (xos (pre.map (·.1)))) (hown3 : Own w3 w.heap.size 80 3 A3 (pre.length + 1) c3 (xos (pre.map (·.1)) ++ x.1.cells)) (hg : (W.alloc o).grownBy w3 (blk Ao co)) (hB : g < B) :
    KeepsFrom B W (w3.setCell ⟨g, 0, none⟩ (.slice A3 (pre.length + 1) c3)) ∧ Keeps1 w.heap.size (g + 1) W (w3.setCell ⟨g, 0, none⟩ (.slice A3 (pre.length + 1) c3)) ∧
      GtI w g (pre ++ [x]) (w3.setCell ⟨g, 0, none⟩ (.slice A3 (pre.length + 1) c3)) := by
  have hob : ∀ (B : Nat) (t : TypeId) (v : Value), Boxed (W.alloc o) B t v → t ≠ 80 → Boxed w3 B t v := fun B t v hb ht => hb.kept hg (not_blk (hown.alloc o) hb ht)
  have b5 := hob _ _ _ (ho.alloc o) (by decide)
  have b2 := hob _ _ _ (h.r2.alloc o) (by decide)
  have b3 := hob _ _ _ (h.r3.alloc o) (by decide)
  obtain ⟨v, hv⟩ := h.bx
  have bx := hob _ _ _ (hv.alloc o) (by decide)
  have hbl : ∀ k, blk Ao co = some k → w.heap.size ≤ k := fun k hk => (hown.lt k hk).1
  have hs := h.bel.size
  have hW : Below w.heap.size W (w3.setCell ⟨g, 0, none⟩ (.slice A3 (pre.length + 1) c3)) :=
    (((Below.refl w.heap.size W).alloc hs o).grown hg (by simp; omega) hbl).setCell (p := ⟨g, 0, none⟩) (by simp only; omega) _
  have hl : (pre ++ [x]).length = pre.length + 1 := by simp
  have hob2 : ∀ {A9 : Option Addr} {n9 c9 : Nat} {xs9 : List Value}, Own W w.heap.size 5 1 A9 n9 c9 xs9 → Own (w3.setCell ⟨g, 0, none⟩ (.slice A3 (pre.length + 1) c3)) w.heap.size 5 1 A9 n9 c9 xs9 := fun h9 =>
    own_box' (own_own (h9.alloc o) (hown.alloc o) (by decide) hg) b5 (by decide) _
  refine ⟨((KeepsFrom.of_grownBy (World.grownBy_alloc W o none) (by simp)).trans (own_keepsFrom B (hown.alloc o) hg)).trans (KeepsFrom.of_grownBy (grownBy_setCell' _ _ _) (by rintro j ⟨⟩; exact hB)), ⟨hW, (show _ = _ from (bx.other (by omega) _).trans hv.symm)⟩,
    ⟨A3, c3, by rw [hl]; exact b5.set _, ?_⟩, b2.other (by omega) _, b3.other (by omega) _, ⟨v, bx.other (by omega) _⟩, ?_, h.bel.trans hW⟩
  · rw [hl, show xos ((pre ++ [x]).map (·.1)) = xos (pre.map (·.1)) ++ x.1.cells by rw [List.map_append, xos_append]; simp [xos]]
    exact own_box' hown3 b5 (by decide) _
  · intro y hy
    rcases List.mem_append.1 hy with hy | hy
    · exact ⟨(h.obs y hy).cls, (h.obs y hy).kind, hob2 (h.obs y hy).own⟩
    · obtain rfl := List.mem_singleton.1 hy
      exact ⟨hx.cls, hx.kind, hob2 hx.own⟩
/-- the two results, stored -/
theorem set2 {w W : World} {g : Nat} {pre : List Tx} (h : GtI w g pre W) (hg1 : w.heap.size + 1 < g) (v2 v3 : Value) {B : Nat} (hB : w.heap.size + 1 < B) :
    KeepsFrom B W ((W.setCell ⟨w.heap.size, 0, none⟩ v2).setCell ⟨w.heap.size + 1, 0, none⟩ v3) ∧
      Boxed ((W.setCell ⟨w.heap.size, 0, none⟩ v2).setCell ⟨w.heap.size + 1, 0, none⟩ v3) w.heap.size 83 v2 ∧
      Boxed ((W.setCell ⟨w.heap.size, 0, none⟩ v2).setCell ⟨w.heap.size + 1, 0, none⟩ v3) (w.heap.size + 1) 28 v3 ∧
      Below w.heap.size w ((W.setCell ⟨w.heap.size, 0, none⟩ v2).setCell ⟨w.heap.size + 1, 0, none⟩ v3) := by
  refine ⟨(KeepsFrom.of_grownBy (grownBy_setCell' W _ _) (by rintro j ⟨⟩; omega)).trans (KeepsFrom.of_grownBy (grownBy_setCell' _ _ _) (by rintro j ⟨⟩; omega)),
    (h.r2.set v2).other (by omega) _, (h.r3.other (by omega) v2).set v3,
    (h.bel.setCell (p := ⟨_, 0, none⟩) (Nat.le_refl _) v2).setCell (p := ⟨_, 0, none⟩) (by simp only; omega) v3⟩

set_option maxHeartbeats 1000000 in
theorem get22_short (A : Option Addr) (len cap : Nat) (w : World) (hlen : len < 4) :
    Calls Tryd.prog 53 #[.slice A len cap] w fun e w' => e = .returned (.tuple #[.slice none 0 0, .int .i64 10]) ∧ Below w.heap.size w w' := by
  have h4 : (len : Int) < 4 := by omega
  go_enter Tryd.func53, Tryd.ntmps53
  go_wp2
  refine bodyPost_ret (v := .tuple #[.slice none 0 0, .int .i64 10]) (by simp [results, Tryd.results53, go_sem]) rfl ⟨rfl, ?_⟩
  exact ((Below.refl _ w).alloc (Nat.le_refl _) _).alloc (by simp) _

theorem u8_bd0 (zs : List UInt8) (k : Nat) : ∃ y : Nat, (zs.getD k 0).toNat = y ∧ y ≤ 255 := ⟨_, rfl, by have := (zs.getD k 0).toNat_lt; omega⟩
theorem bv_getD {zs : List UInt8} {k y : Nat} (h : k < zs.length) (hy : (zs.getD k 0).toNat = y) : (bv zs)[k]? = some (.int .u8 (y : Int)) := by
  rw [bv_get zs k (zs.getD k 0) (by rw [List.getD_eq_getElem?_getD, List.getElem?_eq_getElem h]; rfl), hy]
set_option maxHeartbeats 1000000 in
theorem get22_version (A : Option Addr) (len cap : Nat) (zs : List UInt8) (w : World) (hr : Row w w.heap.size 1 A len (bv zs)) (hlc : len ≤ cap) (hcm : cap ≤ maxLen) (hlen : 4 ≤ len) (hv : (zs.getD 0 0).toNat / 16 ≠ 2) :
    Calls Tryd.prog 53 #[.slice A len cap] w fun e w' => e = .returned (.tuple #[.slice none 0 0, .int .i64 12]) ∧ Below w.heap.size w w' := by
  have h4 : ¬ (len : Int) < 4 := by omega
  have hp : (0 : Int) < len := by omega
  have hz : zs.length = len := by have := hr.1; rw [bv_length] at this; omega
  obtain ⟨y, hy, hyb⟩ := u8_bd0 zs 0
  have hv2 : y / 16 ≠ 2 := hy ▸ hv
  have hvi : ((y : Int) / 16 != 2) = true := by simp; omega
  obtain ⟨b, o, rfl, hb, hc⟩ := hr.cells (by omega)
  have u0 : w.cell? ⟨b, o, none⟩ = some (.int .u8 (y : Int)) := hc 0 _ (bv_getD (by omega) hy)
  have hyb2 : (y : Int) ≤ 255 := by omega
  clear hc hr hv hv2 hy hz
  go_enter Tryd.func53, Tryd.ntmps53
  go_wp2
  refine bodyPost_ret (v := .tuple #[.slice none 0 0, .int .i64 12]) (by simp [results, Tryd.results53, go_sem]) rfl ⟨rfl, ?_⟩
  exact ((Below.refl _ w).alloc (Nat.le_refl _) _).alloc (by simp) _

set_option maxHeartbeats 1000000 in
theorem get22_sum (A : Option Addr) (len cap : Nat) (zs : List UInt8) (w : World) (hr : Row w w.heap.size 1 A len (bv zs)) (hlc : len ≤ cap) (hcm : cap ≤ maxLen) (hlen : 4 ≤ len) (hmax : len ≤ 1000000000) (hv : (zs.getD 0 0).toNat / 16 = 2) (hs : rawN zs ≠ 65535) :
    Calls Tryd.prog 53 #[.slice A len cap] w fun e w' => e = .returned (.tuple #[.slice none 0 0, .int .i64 14]) ∧ Below w.heap.size w w' := by
  have h4 : ¬ (len : Int) < 4 := by omega
  have hp : (0 : Int) < len := by omega
  have hz : zs.length = len := by have := hr.1; rw [bv_length] at this; omega
  obtain ⟨y, hy, hyb⟩ := u8_bd0 zs 0
  have hv2 : y / 16 = 2 := hy ▸ hv
  have hvi : ((y : Int) / 16 != 2) = false := by simp; omega
  have HR := Lib.hid hr
  obtain ⟨b, o, rfl, hb, hc⟩ := hr.cells (by omega)
  have u0 : w.cell? ⟨b, o, none⟩ = some (.int .u8 (y : Int)) := hc 0 _ (bv_getD (by omega) hy)
  have hyb2 : (y : Int) ≤ 255 := by omega
  have HS := Lib.hid hs
  have HZ := Lib.hid hz
  clear hc hr hv hv2 hy hs hz
  go_enter Tryd.func53, Tryd.ntmps53
  go_wp2_with fail
  have hal : Below w.heap.size w ((w.alloc (.cells #[.slice none 0 0] 83)).alloc (.cells #[.int .i64 0] 28)) := ((Below.refl _ _).alloc (Nat.le_refl _) _).alloc (by simp) _
  refine (check_lit #[.slice (some ⟨b, o, none⟩) len cap] [⟨some ⟨b, o, none⟩, len, cap, zs⟩] 1 1 _ rfl rfl (by omega) (oks1 ⟨(HR.out.below hal).more hal.size, hlc, hcm⟩) (by rw [flat_one, HZ.out]; omega) (w.heap.size + 1 + 1) (by simp)).mono ?_
  rintro e w1 ⟨rfl, hb1⟩
  rw [flat_one, decide_eq_false HS.out]
  have b2 : Boxed w1 w.heap.size 83 (.slice none 0 0) := (hb1.block _ (by simp; omega)).trans (((Boxed.new w 83 (.slice none 0 0)).alloc _))
  have b3 : Boxed w1 (w.heap.size + 1) 28 (.int .i64 0) := (hb1.block _ (by simp)).trans (by have := Boxed.new (w.alloc (.cells #[.slice none 0 0] 83)) 28 (.int .i64 0); rw [World.size_alloc] at this; exact this)
  have c2 := b2.cell
  have c3 := b3.cell
  have f2 := b2.frozen
  have f3 := b3.frozen
  have HB := Lib.hid (hal.trans (hb1.mono hal.size))
  clear b2 b3 hb1 hal
  go_wp2
  refine bodyPost_ret (v := .tuple #[.slice none 0 0, .int .i64 14]) (by simp [results, Tryd.results53, go_sem, c2, c3]) rfl ⟨rfl, ?_⟩
  exact (HB.out.setCell (p := ⟨w.heap.size, 0, none⟩) (Nat.le_refl _) _).setCell (p := ⟨w.heap.size + 1, 0, none⟩) (by simp only; omega) _

end Go.Proofs.YtckbleiikldloaaDoor

/- What ext.Get (layer 22) computes. No condition but sizes. -/
namespace Go.Proofs.YtckbleiikldloaaDoor
open Go.RowKit Go.Shelf
set_option linter.unusedVariables false
set_option maxRecDepth 20000
set_option linter.unusedSimpArgs false

attribute [local go_sem] Oper.semAt_some

/-- how the loop is left -/
def GtX (w : World) : Code → List Tx → World → Prop
  | .ret, pre, W => ∃ p x, pre = p ++ [x] ∧ x.2 ≠ 0 ∧ Boxed W w.heap.size 83 (.slice none 0 0) ∧ Boxed W (w.heap.size + 1) 28 (.int .i64 x.2) ∧ Below w.heap.size w W
  | _, _, _ => False
theorem GtX.ownFrom (w : World) (B : Nat) (hB : w.heap.size ≤ B) (c : Code) : OwnFrom B (GtX w c) := by
  intro s X Y row hs hg hr
  have hb : ∀ {B : Nat} {t : TypeId} {v : Value}, Boxed X B t v → Boxed Y B t v := fun hb => hb.kept hg (fun e => by
    obtain ⟨h1, o, ho, hc⟩ := hr _ e.symm
    rw [show X.heap[_]? = _ from hb] at ho
    cases ho
    cases hc)
  unfold GtX at hs ⊢
  split at hs
  · obtain ⟨p, x, h1, h2, h4, h5, h7⟩ := hs
    exact ⟨p, x, h1, h2, hb h4, hb h5, h7.grown hg h7.size (fun k e => by have := (hr k e).1; omega)⟩
  · exact hs.elim
theorem TXo.turn {N : Nat} {x : Xo} {W W' : World} {row : Option Nat} (h : TXo N x W) (hg : W.grownBy W' row) (hr : ∀ r, row = some r → ∀ cs t, W.heap[r]? = some (.cells cs t (0, 0)) → False) : TXo N x W' := ⟨h.cls, h.kind, own_turn h.own hg hr⟩
theorem TXo.below {N : Nat} {x : Xo} {W W' : World} (h : TXo N x W) (hb : Below W.heap.size W W') : TXo N x W' := ⟨h.cls, h.kind, h.own.below hb⟩

set_option maxRecDepth 100000 in
set_option maxHeartbeats 4000000 in
theorem get22_in (A : Option Addr) (len cap : Nat) (zs : List UInt8) (w : World) (hr : Row w w.heap.size 1 A len (bv zs)) (hlc : len ≤ cap) (hcm : cap ≤ maxLen) (hlen : 4 ≤ len) (hmax : len ≤ 1000000000) (hv : (zs.getD 0 0).toNat / 16 = 2) (hs : rawN zs = 65535) :
    CallsIn Fence.wide 3 Tryd.prog 53 #[.slice A len cap] w fun e w' => ∃ (l : List Xo) (A' : Option Addr) (c' : Nat), e = .returned (.tuple #[.slice A' l.length c', .int .i64 (goG (zs.length - 4) [] (zs.drop 4)).2]) ∧ l.map Xo.ob = (goG (zs.length - 4) [] (zs.drop 4)).1 ∧ Own w' w.heap.size 80 3 A' l.length c' (xos l) ∧ (∀ x ∈ l, TXo w.heap.size x w') ∧ Below w.heap.size w w' := by
  have h4 : ¬ (len : Int) < 4 := by omega
  have h4b : (4 : Int) ≤ (len : Int) := by omega
  have hp : (0 : Int) < len := by omega
  have hz : zs.length = len := by have := hr.1; rw [bv_length] at this; omega
  obtain ⟨y, hy, hyb⟩ := u8_bd0 zs 0
  have hv2 : y / 16 = 2 := hy ▸ hv
  have hvi : ((y : Int) / 16 != 2) = false := by simp; omega
  have HR := Lib.hid hr
  obtain ⟨b, o, rfl, hb, hc⟩ := hr.cells (by omega)
  have u0 : w.cell? ⟨b, o, none⟩ = some (.int .u8 (y : Int)) := hc 0 _ (bv_getD (by omega) hy)
  have hyb2 : (y : Int) ≤ 255 := by omega
  have HS := Lib.hid hs
  have HZ := Lib.hid hz
  clear hc hr hv hv2 hy hs hz
  refine callsIn_of_wp_marks Tryd.func53 rfl trivial ?_ rfl
  simp only [Tryd.ntmps53, List.size_toArray, List.length_cons, List.length_nil, Nat.reduceAdd, Nat.reduceSub, Array.replicate_succ, Array.replicate_zero, List.push_toArray, List.append_toArray, List.nil_append, List.cons_append]
  have hal : Below w.heap.size w ((w.alloc (.cells #[.slice none 0 0] 83)).alloc (.cells #[.int .i64 0] 28)) := ((Below.refl _ _).alloc (Nat.le_refl _) _).alloc (by simp) _
  obtain ⟨A4, hA4⟩ : ∃ q, (if cap = 4 then (some ⟨b, o, none⟩ : Option Addr) else some ⟨b, o + 4, none⟩) = q := ⟨_, rfl⟩
  have HR4 := Lib.hid (show Row w w.heap.size 1 A4 (len - 4) (bv (zs.drop 4)) by
    have hc := (HR.out.cut (k := 4) (cap := cap) (by omega) hlc)
    rw [show (fun x : Addr => x.add (4 * 1)) = fun x : Addr => x.add 4 from rfl, addr_add1, hA4] at hc
    rw [show bv (zs.drop 4) = (bv zs).drop (4 * 1) by simp only [bv, ← List.map_drop, Nat.mul_one]]
    exact hc)
  gi_wp2_with (first
    | (refine ⟨trivial, ?_⟩; gi_at_call 51; refine (callsIn_wide.2 (check_lit #[.slice (some ⟨b, o, none⟩) len cap] [⟨some ⟨b, o, none⟩, len, cap, zs⟩] 1 1 _ rfl rfl (by omega) (oks1 ⟨(HR.out.below hal).more hal.size, hlc, hcm⟩) (by rw [flat_one, HZ.out]; omega) (w.heap.size + 1 + 1) (by simp))).mono ?_; rintro e w1 ⟨rfl, hb1⟩; rw [flat_one, decide_eq_true HS.out])
    | (refine ⟨trivial, ?_⟩; gi_at_call 70; refine (callsIn_wide.2 (each_any A4 (len - 4) (cap - 4) _)).mono ?_; rintro e w' ⟨rfl, rfl⟩))
  have b2 : Boxed w1 w.heap.size 83 (.slice none 0 0) := (hb1.block _ (by simp; omega)).trans (((Boxed.new w 83 (.slice none 0 0)).alloc _))
  have b3 : Boxed w1 (w.heap.size + 1) 28 (.int .i64 0) := (hb1.block _ (by simp)).trans (by have := Boxed.new (w.alloc (.cells #[.slice none 0 0] 83)) 28 (.int .i64 0); rw [World.size_alloc] at this; exact this)
  have hbel1 : Below w.heap.size w w1 := hal.trans (hb1.mono hal.size)
  have hs1 : w.heap.size + 1 < w1.heap.size := by have := hb1.size; simp at this; omega
  have b4 := Boxed.new w1 83 (.slice none 0 0)
  have b5 := Boxed.new (w1.alloc (.cells #[.slice none 0 0] 83)) 22 (.slice A4 (len - 4) (cap - 4))
  simp only [World.size_alloc] at b5
  have hI0 : GtI w w1.heap.size [] ((w1.alloc (.cells #[.slice none 0 0] 83)).alloc (.cells #[.slice A4 (len - 4) (cap - 4)] 22)) :=
    ⟨⟨none, 0, b4.alloc _, Own.nil _ _ _ _ _⟩, (b2.alloc _).alloc _, (b3.alloc _).alloc _, ⟨_, b5⟩, (by simp), (hbel1.alloc (by omega) _).alloc (by simp; omega) _⟩
  have hr0 := HR4.out.below hI0.bel
  have hbx : ((w1.alloc (.cells #[.slice none 0 0] 83)).alloc (.cells #[.slice A4 (len - 4) (cap - 4)] 22)).heap[w1.heap.size + 1]? = some (.cells #[.slice A4 (len - 4) (cap - 4)] 22 (0, 0)) := b5
  clear u0 hal hb1 hbel1 b2 b3 b4 b5 HR hA4
  refine rangeD (Bx := w1.heap.size + 1) (Kp := Keeps1 w.heap.size (w1.heap.size + 1)) (ok := fun x => x.2 = 0) rfl (by omega) (gf := 75) (lb := #[.pointer (some ⟨w1.heap.size + 1, 0, none⟩)]) rfl trivial (enters_of Tryd.func75 (by kernel_rfl) rfl)
    (each1_endsX (w1.heap.size + 1) w.heap.size A4 (len - 4) (cap - 4) (zs.drop 4) (by omega) (by omega) (by omega) (3 - 1) (by omega) _ (by simp) hbx (by omega) hr0) (by simp) Keeps1.trans (keeps1_b (by simp; omega) (by simp)) (Below.refl _ _) (fun _ => rfl)
    (fun pre W => GtI w w1.heap.size pre W ∧ ∀ x ∈ pre, x.2 = 0) (GtX w) ?hI (fun c => GtX.ownFrom w _ (by simp; omega) c) ?hL ?hG ⟨hI0, by simp⟩
    (fun pre x a' W => ∃ Be, w1.heap.size + 1 < Be ∧ W.heap[Be]? = some (.cells #[.int .u8 x.1.cls, .int .u8 x.1.kind, .slice x.1.A x.1.n x.1.c] 80 (0, 0)) ∧
      (∃ A9 n9 c9, Boxed W w1.heap.size 83 (.slice A9 n9 c9) ∧ ∀ g, blk A9 c9 = some g → g ≠ Be) ∧ TXo w.heap.size x.1 W ∧ 4 * pre.length ≤ len - 4 ∧
      a' = { tmps := #[.slice (some ⟨b, o, none⟩) len cap, undef, .pointer (some ⟨w.heap.size, 0, none⟩), .pointer (some ⟨w.heap.size + 1, 0, none⟩), .pointer (some ⟨w1.heap.size, 0, none⟩), .pointer (some ⟨Be, 0, none⟩), .int .i64 x.2, .bool false, .slice (some ⟨b, o, none⟩) len cap, .int .i64 (len : Int), .bool false, .bool false, .slice (some ⟨b, o, none⟩) len cap, .pointer (some ⟨b, o, none⟩), .int .u8 (y : Int), .int .u8 ((y : Int) / 16), .bool false, .bool false, .slice (some ⟨b, o, none⟩) len cap, .slice (some ⟨w.heap.size + 1 + 1, 0, none⟩) 1 1, .bool true, .bool false, .slice (some ⟨b, o, none⟩) len cap, .slice A4 (len - 4) (cap - 4), .func (.func 75) #[] #[.pointer (some ⟨w1.heap.size + 1, 0, none⟩)], .agg #[.int .u8 x.1.cls, .int .u8 x.1.kind, .slice x.1.A x.1.n x.1.c], .int .i64 x.2, undef, undef, undef, undef, undef, undef, undef, undef], defers := [] }) ?hA ?assign ?body ?done ?stop
  case hI => exact OwnFrom.and (GtI.ownFrom w _ _ (by simp; omega)) (ownFrom_pure _ _)
  case hL => exact ⟨fun s W W' h hb => ⟨(GtI.lets w _ hs1).below _ _ _ h.1 hb, h.2⟩, fun s W v h => ⟨(GtI.lets w _ hs1).set _ _ v h.1, h.2⟩⟩
  case hG => exact fun s W h x hx => h.2 x hx
  case hA =>
    rintro pre x a' _ X Y row ⟨Be, h1, h2, ⟨A9, n9, c9, h4', h5⟩, h6, h7, h3⟩ hg hr
    have hnc : ∀ r, row = some r → ∀ cs t, X.heap[r]? = some (.cells cs t (0, 0)) → False := fun r e cs t hx => by
      obtain ⟨_, o', ho, hc⟩ := hr _ e
      rw [hx] at ho
      cases ho
      cases hc
    refine ⟨Be, h1, ?_, ⟨A9, n9, c9, h4'.kept hg (fun e => hnc _ e.symm _ _ h4'), h5⟩, h6.turn hg hnc, h7, h3⟩
    exact (hg.block Be (Array.getElem?_eq_some_iff.1 h2).1 (fun e => hnc _ e.symm _ _ h2)).trans h2
  case assign =>
    intro l pre x W K hI hx hK
    have HK := Lib.hid hK
    clear hK hI0 hr0 hbx
    obtain ⟨hx0, hx1, hx2, hx3⟩ := hx
    dsimp only [tellsX, Xo.cells]
    gi_wp2
    obtain ⟨v, hv⟩ := hI.1.bx
    obtain ⟨Ao, co, ho, hown⟩ := hI.1.out
    have hlt := hv.lt
    have hg := World.grownBy_alloc W (.cells #[.int .u8 x.1.cls, .int .u8 x.1.kind, .slice x.1.A x.1.n x.1.c] 80) none
    exact HK.out _ _ (KeepsFrom.of_grownBy hg (by simp)) ⟨(Below.refl _ W).alloc hI.1.bel.size _, hg.block _ hlt (by simp)⟩ ⟨hI.1.turn hg (by simp), hI.2⟩ ⟨W.heap.size, hlt, World.alloc_heap_new W _, ⟨_, _, _, ho.alloc _, fun g hg => by have := (hown.lt g hg).2; omega⟩, ⟨hx1, hx2, hx3.alloc _⟩, hx0, rfl⟩
  case body =>
    intro l pre x a' W hl hrec hI hAx
    obtain ⟨Be, hBe, hcell, ⟨A9, n9, c9, ho9, hne9⟩, hxo, hpl, rfl⟩ := hAx
    obtain ⟨Ao, co, ho, hown⟩ := hI.1.out
    have hne : ∀ g, blk Ao co = some g → g ≠ Be := by
      have e := ho.symm.trans ho9
      injection e with e
      injection e with e1
      have e2 := congrArg (·[0]?) e1
      simp at e2
      obtain ⟨rfl, rfl, rfl⟩ := e2
      exact hne9
    clear ho9 hne9
    have hI1 := Lib.hid hI.1
    have hWe := Lib.hid hI.2
    have hO := Lib.hid hown
    have HXO := Lib.hid hxo
    have c5 := ho.cell
    have c2 := hI.1.r2.cell
    have c3 := hI.1.r3.cell
    have f5 := ho.frozen
    have f2 := hI.1.r2.frozen
    have f3 := hI.1.r3.frozen
    clear hown hI hI0 hr0 hbx hxo
    by_cases hx : x.2 = 0
    · obtain ⟨⟨cl, kd, XA, xn, xc, bd⟩, er⟩ := x
      dsimp only at hx
      subst hx
      have d0 : W.cell? ⟨Be, 0, none⟩ = some (.int .u8 cl) := cell_at hcell 0
      have d1 : W.cell? ⟨Be, 1, none⟩ = some (.int .u8 kd) := cell_at hcell 1
      have d2 : W.cell? ⟨Be, 2, none⟩ = some (.slice XA xn xc) := cell_at hcell 2
      dsimp only at hcell ⊢
      gi_wp2_with (gi_at_builtin; refine wpListIn_append_Own rfl _ _ 83 rfl w.heap.size 80 _ 3 32 Tryd.underlying83 infoXo rfl (by decide) _ _ _ _ rfl (hO.out.alloc _) _ _ 1 1 (Xo.cells ⟨cl, kd, XA, xn, xc, bd⟩) rfl (row_newX W ⟨cl, kd, XA, xn, xc, bd⟩) (by simp [Xo.cells, Value.oneCell']) (by simp only [maxLen]; omega) (by omega) (by have := hI1.out.bel.size; simp; omega) ?_; intro A3 c3 w3 hown3 hg3 _; have hob : ∀ (B : Nat) (t : TypeId) (v : Value), Boxed (W.alloc _) B t v → t ≠ 80 → Boxed w3 B t v := (fun B t v hb ht => hb.kept hg3 (not_blk (hO.out.alloc _) hb ht)); have b5 := hob _ _ _ (ho.alloc _) (by decide); have c5' := b5.cell; have f5' := b5.frozen)
      obtain ⟨k1, k2, k3⟩ := hI1.out.pushed hs1 (⟨cl, kd, XA, xn, xc, bd⟩, 0) HXO.out _ ho hO.out hown3 hg3 (B := w1.heap.size + 1 + 1) (by omega)
      have k4 : ∀ y ∈ pre ++ [((⟨cl, kd, XA, xn, xc, bd⟩ : Xo), (0 : Int))], y.2 = 0 := fun y hy => by
        rcases List.mem_append.1 hy with hy | hy
        · exact hWe.out y hy
        · obtain rfl := List.mem_singleton.1 hy
          rfl
      exact ⟨by simpa using k1, k2, k3, by simpa using k4⟩
    · gi_wp2
      obtain ⟨k1, k2, k3, k5⟩ := set2 hI1.out hs1 (.slice none 0 0) (.int .i64 x.2) (B := w1.heap.size + 1 + 1) (by omega)
      exact ⟨by simpa using k1, pre, x, rfl, hx, k2, k3, k5⟩
  case done =>
    intro D xs W hD hS hI hdef
    clear hI0 hr0 hbx
    have hgD := grownBy_putObj' W D (.deferred none)
    have hD' : w.heap.size ≤ D := by simp at hD; omega
    have hT : Hid (goG (zs.length - 4) [] (zs.drop 4) = (obsOf xs, 0)) := Lib.hid (by unfold SnX at hS; rw [← hS, List.length_drop])
    obtain ⟨A3, c3, ho, hown⟩ := hI.1.out
    have hOw := Lib.hid hown
    have hII := Lib.hid hI.1
    have c5 := ho.cell
    have c2 := hI.1.r2.cell
    have c3' := hI.1.r3.cell
    have f2 := hI.1.r2.frozen
    have f3 := hI.1.r3.frozen
    clear hown hI hS
    gi_wp2
    obtain ⟨k1, k2, k3, k5⟩ := set2 hII.out hs1 (.slice A3 xs.length c3) (.int .i64 0) (B := w1.heap.size + 1 + 1) (by omega)
    have hOw4 := own_box' (own_box' hOw.out hII.out.r2 (by decide) (.slice A3 xs.length c3)) (hII.out.r3.other (by omega) _) (by decide) (.int .i64 0)
    have hOb4 : ∀ x ∈ xs, TXo w.heap.size x.1 ((W.setCell ⟨w.heap.size, 0, none⟩ (.slice A3 xs.length c3)).setCell ⟨w.heap.size + 1, 0, none⟩ (.int .i64 0)) := fun x hx =>
      ⟨(hII.out.obs x hx).cls, (hII.out.obs x hx).kind, own_box' (own_box' (hII.out.obs x hx).own hII.out.r2 (by decide) (.slice A3 xs.length c3)) (hII.out.r3.other (by omega) _) (by decide) (.int .i64 0)⟩
    obtain ⟨W4, hW4⟩ : ∃ W4, W4 = ((W.setCell ⟨w.heap.size, 0, none⟩ (.slice A3 xs.length c3)).setCell ⟨w.heap.size + 1, 0, none⟩ (.int .i64 0)) := ⟨_, rfl⟩
    rw [← hW4] at k1 k2 k3 k5 hOw4 hOb4 ⊢
    have hdef4 : W4.heap[D]? = some (.deferred (some [])) := k1.same D _ (by simpa using hD) hdef rfl
    have hg4 := grownBy_putObj' W4 D (.deferred none)
    have hkill : ∀ {B : Nat} {t : TypeId} {v : Value}, Boxed W4 B t v → some B ≠ some D := fun hb e => by
      cases e
      rw [show W4.heap[_]? = _ from hb] at hdef4
      cases hdef4
    have hnc : ∀ r, some D = some r → ∀ cs t, W4.heap[r]? = some (.cells cs t (0, 0)) → False := fun r e cs t hx => by
      cases e
      rw [hdef4] at hx
      cases hx
    have d2 := (k2.kept hg4 (hkill k2)).cell
    have d3 := (k3.kept hg4 (hkill k3)).cell
    have hb4 := k5.grown hg4 k5.size (fun k e => by cases e; exact hD')
    have ho4 := own_turn hOw4 hg4 hnc
    have hx4 : ∀ x ∈ xs, TXo w.heap.size x.1 _ := fun x hx => (hOb4 x hx).turn hg4 hnc
    refine ⟨by simp, .inl ⟨_, _, rfl, run_takeDeferred hdef4, ?_⟩⟩
    refine ⟨.tuple #[.slice A3 xs.length c3, .int .i64 0], ?_, xs.map (·.1), A3, c3, by rw [hT.out]; simp, by rw [hT.out]; simp [obsOf], by simpa using ho4, ?_, hb4⟩
    · simp [results, Tryd.f53, go_sem, d2, d3]
    · intro x hx
      obtain ⟨y, hy, rfl⟩ := List.mem_map.1 hx
      exact hx4 y hy
  case stop =>
    intro D c pre W hD hS hI hdef
    clear hI0 hr0 hbx
    have hgD := grownBy_putObj' W D (.deferred none)
    have hD' : w.heap.size ≤ D := by simp at hD; omega
    unfold GtX at hI
    split at hI
    · obtain ⟨p, x, hpre, hx, r2, r3, hbel⟩ := hI
      obtain ⟨p', x', hpre', hSx⟩ := hS
      obtain ⟨rfl, hx'⟩ := List.append_inj' (hpre'.symm.trans hpre) rfl
      simp only [List.cons.injEq, and_true] at hx'
      subst hx'
      have hT : Hid (goG (zs.length - 4) [] (zs.drop 4) = ([], x'.2)) := Lib.hid (by rw [← hSx hx, List.length_drop])
      have hkill : ∀ {B : Nat} {t : TypeId} {v : Value}, Boxed W B t v → some B ≠ some D := fun hb e => by
        cases e
        rw [show W.heap[_]? = _ from hb] at hdef
        cases hdef
      have c2 := (r2.kept hgD (hkill r2)).cell
      have c3 := (r3.kept hgD (hkill r3)).cell
      have hb' := hbel.grown hgD hbel.size (fun k e => by cases e; exact hD')
      clear hx r2 r3 hpre hpre' hSx hs1
      gi_wp2
      refine ⟨by simp, .inl ⟨_, _, rfl, run_takeDeferred hdef, ?_⟩⟩
      refine ⟨.tuple #[.slice none 0 0, .int .i64 x'.2], ?_, [], none, 0, by rw [hT.out]; rfl, by rw [hT.out]; rfl, Own.nil _ _ _ _ _, (by simp), hb'⟩
      simp [results, Tryd.f53, go_sem, c2, c3]
    · exact hI.elim

theorem get22_any (A : Option Addr) (len cap : Nat) (zs : List UInt8) (w : World) (hr : Row w w.heap.size 1 A len (bv zs)) (hlc : len ≤ cap) (hcm : cap ≤ maxLen) (hmax : len ≤ 1000000000) :
    Calls Tryd.prog 53 #[.slice A len cap] w fun e w' => ∃ (l : List Xo) (A' : Option Addr) (c' : Nat), e = .returned (.tuple #[.slice A' l.length c', .int .i64 (getG zs).2]) ∧ l.map Xo.ob = (getG zs).1 ∧ Own w' w.heap.size 80 3 A' l.length c' (xos l) ∧ (∀ x ∈ l, TXo w.heap.size x w') ∧ Below w.heap.size w w' := by
  have hz : zs.length = len := by have := hr.1; rw [bv_length] at this; omega
  have bad : ∀ (q : Int), getG zs = ([], q) → Calls Tryd.prog 53 #[.slice A len cap] w (fun e w' => e = .returned (.tuple #[.slice none 0 0, .int .i64 q]) ∧ Below w.heap.size w w') →
      Calls Tryd.prog 53 #[.slice A len cap] w fun e w' => ∃ (l : List Xo) (A' : Option Addr) (c' : Nat), e = .returned (.tuple #[.slice A' l.length c', .int .i64 (getG zs).2]) ∧ l.map Xo.ob = (getG zs).1 ∧ Own w' w.heap.size 80 3 A' l.length c' (xos l) ∧ (∀ x ∈ l, TXo w.heap.size x w') ∧ Below w.heap.size w w' := by
    intro q hq h
    refine h.mono ?_
    rintro e w' ⟨rfl, hb⟩
    exact ⟨[], none, 0, by rw [hq]; rfl, by rw [hq]; rfl, Own.nil _ _ _ _ _, (by simp), hb⟩
  by_cases h4 : len < 4
  · exact bad 10 (by unfold getG; rw [if_pos (by omega)]) (get22_short A len cap w h4)
  · by_cases hv : (zs.getD 0 0).toNat / 16 = 2
    · by_cases hs : rawN zs = 65535
      · have hg : getG zs = goG (zs.length - 4) [] (zs.drop 4) := by
          unfold getG
          rw [if_neg (by omega), if_neg (fun h => h hv), if_neg (fun h => h hs)]
        rw [hg]
        exact callsIn_wide.1 (get22_in A len cap zs w hr hlc hcm (by omega) hmax hv hs)
      · exact bad 14 (by unfold getG; rw [if_neg (by omega), if_neg (fun h => h hv), if_pos hs]) (get22_sum A len cap zs w hr hlc hcm (by omega) hmax hv hs)
    · exact bad 12 (by unfold getG; rw [if_neg (by omega), if_pos hv]) (get22_version A len cap zs w hr hlc hcm (by omega) hv)
end Go.Proofs.YtckbleiikldloaaDoor

/- What ext.Told (layer 22) calls: its closure, slices.IndexFunc, slices.Chunk. No condition but sizes. -/
namespace Go.Proofs.YtckbleiikldloaaDoor
open Go.RowKit Go.Shelf
set_option linter.unusedVariables false
set_option maxRecDepth 20000
set_option linter.unusedSimpArgs false

attribute [local go_sem] Oper.semAt_some

/-- is an object a label stack? -/
def Ob.lab (x : Ob) : Bool := x.cls == 1 && x.kind == 1
set_option maxHeartbeats 1000000 in
theorem told1_any (x : Xo) (w : World) : Calls Tryd.prog 55 #[.agg x.cells.toArray] w fun e w' => e = .returned (.bool x.ob.lab) ∧ Below w.heap.size w w' := by
  obtain ⟨cl, kd, A, n, c, bd⟩ := x
  show Calls Tryd.prog 55 #[.agg #[.int .u8 cl, .int .u8 kd, .slice A n c]] w fun e w' => e = .returned (.bool (cl == 1 && kd == 1)) ∧ Below w.heap.size w w'
  by_cases h1 : cl = 1
  · subst h1
    by_cases h2 : kd = 1
    · subst h2
      go_enter Tryd.func55, Tryd.ntmps55
      go_wp2
      go_ret
      exact ⟨rfl, alloc_below _ _⟩
    · have e2 : (kd == 1) = false := by simp [h2]
      go_enter Tryd.func55, Tryd.ntmps55
      go_wp2
      go_ret
      exact ⟨by simp [h2], alloc_below _ _⟩
  · have e1 : (cl == 1) = false := by simp [h1]
    go_enter Tryd.func55, Tryd.ntmps55
    go_wp2
    go_ret
    exact ⟨by simp [h1], alloc_below _ _⟩

set_option maxHeartbeats 2000000 in
theorem index_no (A : Option Addr) (n c : Nat) (l : List Xo) (w : World) (hr : Row w w.heap.size 3 A n (xos l)) (hn : n ≤ 1000000000) (hno : ∀ (k : Nat) (x : Xo), k < n → l[k]? = some x → x.ob.lab = false) :
    Calls Tryd.prog 54 #[.slice A n c, .func (.func 55) #[] #[]] w fun e w' => e = .returned (.int .i64 (-1)) ∧ Below w.heap.size w w' := by
  have hlen := xo_len hr
  have HR := Lib.hid hr
  have HL := Lib.hid hlen
  have HN := Lib.hid hno
  clear hr hlen hno
  go_enter Tryd.func54, Tryd.ntmps54
  go_wp2_with fail
  go_loopw [8] (fun i wr => ∃ k : Nat, k ≤ n ∧ i = .int .i64 (k : Nat) ∧ Below w.heap.size w wr) (fun i _ => n - (intOf i).toNat)
  case atStart => exact ⟨0, by omega, rfl, Below.refl _ _⟩
  case round =>
    obtain ⟨k, hk, rfl, hB⟩ := hrel
    have HB := Lib.hid hB
    clear hB
    by_cases hlt : k < n
    · obtain ⟨x, hx⟩ : ∃ x, l[k]? = some x := ⟨_, List.getElem?_eq_getElem (by rw [HL.out]; omega)⟩
      obtain ⟨b, o, rfl, hb, a0, a1, a2⟩ := xo_row (HR.out.below HB.out) k x hx
      have hf := HN.out k x hlt hx
      have HT := Lib.hid (fun W => told1_any x W)
      have hkn : (k : Int) < (n : Int) := by omega
      clear hx
      go_wp2_with fail
      refine (HT.out _).mono ?_
      rintro e w2 ⟨rfl, hb2⟩
      rw [hf]
      have HB2 := Lib.hid (bthen HB.out hb2)
      clear a0 a1 a2 hf hb2
      go_wp2_with fail
      go_roundw
      case rel => exact ⟨k + 1, by omega, by simp, HB2.out⟩
      case measure => simp [intOf]; omega
    · have hge : ¬ (k : Int) < (n : Int) := by omega
      go_wp2_with fail
      go_ret
      exact ⟨rfl, HB.out⟩

set_option maxHeartbeats 2000000 in
theorem index_yes (A : Option Addr) (n c : Nat) (l : List Xo) (w : World) (hr : Row w w.heap.size 3 A n (xos l)) (hn : n ≤ 1000000000) (m : Nat) (x : Xo) (hx : l[m]? = some x) (hy : x.ob.lab = true) (hno : ∀ (k : Nat) (x : Xo), k < m → l[k]? = some x → x.ob.lab = false) :
    Calls Tryd.prog 54 #[.slice A n c, .func (.func 55) #[] #[]] w fun e w' => e = .returned (.int .i64 (m : Int)) ∧ Below w.heap.size w w' := by
  have hlen := xo_len hr
  have HR := Lib.hid hr
  have HL := Lib.hid hlen
  have HN := Lib.hid hno
  have hmn : m < n := by have := (List.getElem?_eq_some_iff.1 hx).1; omega
  have HX := Lib.hid hx
  have HY := Lib.hid hy
  clear hx hy
  clear hr hlen hno
  go_enter Tryd.func54, Tryd.ntmps54
  go_wp2_with fail
  go_loopw [8] (fun i wr => ∃ k : Nat, k ≤ m ∧ i = .int .i64 (k : Nat) ∧ Below w.heap.size w wr) (fun i _ => n - (intOf i).toNat)
  case atStart => exact ⟨0, by omega, rfl, Below.refl _ _⟩
  case round =>
    obtain ⟨k, hk, rfl, hB⟩ := hrel
    have HB := Lib.hid hB
    clear hB
    by_cases hlt : k < m
    · obtain ⟨x, hx⟩ : ∃ x, l[k]? = some x := ⟨_, List.getElem?_eq_getElem (by rw [HL.out]; omega)⟩
      obtain ⟨b, o, rfl, hb, a0, a1, a2⟩ := xo_row (HR.out.below HB.out) k x hx
      have hf := HN.out k x hlt hx
      have HT := Lib.hid (fun W => told1_any x W)
      have hkn : (k : Int) < (n : Int) := by omega
      clear hx
      go_wp2_with fail
      refine (HT.out _).mono ?_
      rintro e w2 ⟨rfl, hb2⟩
      rw [hf]
      have HB2 := Lib.hid (bthen HB.out hb2)
      clear a0 a1 a2 hf hb2
      go_wp2_with fail
      go_roundw
      case rel => exact ⟨k + 1, by omega, by simp, HB2.out⟩
      case measure => simp [intOf]; omega
    · obtain rfl : k = m := by omega
      obtain ⟨b, o, rfl, hb, a0, a1, a2⟩ := xo_row (HR.out.below HB.out) k x HX.out
      have HT := Lib.hid (fun W => told1_any x W)
      have hkn : (k : Int) < (n : Int) := by omega
      go_wp2_with fail
      refine (HT.out _).mono ?_
      rintro e w2 ⟨rfl, hb2⟩
      rw [HY.out]
      have HB2 := Lib.hid (bthen HB.out hb2)
      clear a0 a1 a2 hb2
      go_wp2_with fail
      go_ret
      exact ⟨rfl, HB2.out⟩

set_option maxHeartbeats 1000000 in
theorem chunk_any (A : Option Addr) (len cap : Nat) (w : World) :
    Calls Tryd.prog 56 #[.slice A len cap, .int .i64 4] w fun e w' => e = .returned (.func (.func 71) #[] #[.pointer (some ⟨w.heap.size, 0, none⟩), .pointer (some ⟨w.heap.size + 1, 0, none⟩)]) ∧ w' = (w.alloc (.cells #[.slice A len cap] 22)).alloc (.cells #[.int .i64 4] 3) := by
  go_enter Tryd.func56, Tryd.ntmps56
  go_wp2
  go_ret
  exact ⟨rfl, rfl⟩

abbrev Tc := Option Addr × List UInt8
def tellsC (x : Tc) : Array Value := #[.slice x.1 4 4]
def okC (n₀ len : Nat) (zs : List UInt8) (pre : List Tc) (x : Tc) (W : World) : Prop := 4 * pre.length + 4 ≤ len ∧ x.2 = (zs.drop (4 * pre.length)).take 4 ∧ Row W n₀ 1 x.1 4 (bv x.2)
def Keeps2 (n₀ Bx : Nat) (W W' : World) : Prop := Below n₀ W W' ∧ W'.heap[Bx]? = W.heap[Bx]? ∧ W'.heap[Bx + 1]? = W.heap[Bx + 1]?
theorem Keeps2.trans {n₀ Bx : Nat} {A B C : World} (h : Keeps2 n₀ Bx A B) (k : Keeps2 n₀ Bx B C) : Keeps2 n₀ Bx A C := ⟨h.1.trans k.1, k.2.1.trans h.2.1, k.2.2.trans h.2.2⟩
theorem keeps2_b {n₀ Bx : Nat} {w : World} (h0 : n₀ ≤ w.heap.size) (hB : Bx + 1 < w.heap.size) : ∀ (W : World) (l : Nat) (o o' : Obj), w.heap.size ≤ l → W.heap[l]? = some o → o.isCells = false → o.isWalk = false → Keeps2 n₀ Bx W (W.putObj l o') := by
  intro W l o o' hl ho hc hw
  have hg := grownBy_putObj' W l o'
  have := (Array.getElem?_eq_some_iff.1 ho).1
  exact ⟨belowK_b (w := w) h0 W l o o' hl ho hc hw, hg.block Bx (by omega) (by intro e; injection e; omega), hg.block (Bx + 1) (by omega) (by intro e; injection e; omega)⟩

set_option maxRecDepth 100000 in
set_option maxHeartbeats 8000000 in
theorem chunk1_in (l Bx n₀ : Nat) (A : Option Addr) (len cap : Nat) (zs : List UInt8) (hlen : len ≤ 1000000000) (hlc : len ≤ cap) (hcm : cap ≤ maxLen) (hmod : len % 4 = 0) (n : Nat) (hn : 2 ≤ n) (J Jx : List Tc → World → Prop)
    (hJ : Lets Bx J)
    (hY : ∀ pre x W, J pre W → okC n₀ len zs pre x W → YieldAt Fence.wide (n - 1) Tryd.prog l (tellsC x) W fun e W' =>
      (e = .returned (.bool true) ∧ J (pre ++ [x]) W' ∧ Keeps2 n₀ Bx W W') ∨ (e = .returned (.bool false) ∧ Jx (pre ++ [x]) W'))
    (W : World) (hB : W.heap[Bx]? = some (.cells #[.slice A len cap] 22 (0, 0))) (hB2 : W.heap[Bx + 1]? = some (.cells #[.int .i64 4] 3 (0, 0))) (hBn : n₀ ≤ Bx) (hr : Row W n₀ 1 A len (bv zs)) (h0 : J [] W) :
    CallsIn Fence.wide n Tryd.prog 71 #[.func (.yield l) #[] #[], .pointer (some ⟨Bx, 0, none⟩), .pointer (some ⟨Bx + 1, 0, none⟩)] W fun e W' => (∃ v, e = .returned v) ∧ ((∃ xs, 4 * xs.length = len ∧ J xs W') ∨ ∃ pre, pre ≠ [] ∧ Jx pre W') := by
  refine callsIn_of_wp Tryd.func71 rfl trivial ?_ rfl
  simp only [Tryd.ntmps71, List.size_toArray, List.length_cons, List.length_nil, Nat.reduceAdd, Nat.reduceSub, Array.replicate_succ, Array.replicate_zero, List.push_toArray, List.append_toArray, List.nil_append, List.cons_append]
  gi_wp2
  have hn1 : 1 ≤ n := by omega
  have hz : zs.length = len := by have := hr.1; rw [bv_length] at this; omega
  have HZ := Lib.hid hz
  have HMD := Lib.hid hmod
  clear hz hmod
  gi_loopw [4] (fun i wr => ∃ (pre : List Tc) (k : Nat), i = .int .i64 (k : Nat) ∧ k = 4 * pre.length ∧ k ≤ len ∧ J pre wr ∧ wr.heap[Bx]? = some (.cells #[.slice A len cap] 22 (0, 0)) ∧ wr.heap[Bx + 1]? = some (.cells #[.int .i64 4] 3 (0, 0)) ∧ Row wr n₀ 1 A len (bv zs))
    (fun i wr => len - (intOf i).toNat)
  case atStart => exact ⟨[], 0, rfl, rfl, by omega, h0, hB, hB2, hr⟩
  case round =>
    obtain ⟨pre, k, rfl, hk4, hkl, hJs, hbx, hbx2, hrow⟩ := hrel
    have hlt := heap_lt hbx
    have hlt2 := heap_lt hbx2
    have hc0 := cell_at hbx 0
    have hf0 := frozen_at hbx 0
    have hc1 := cell_at hbx2 0
    have hf1 := frozen_at hbx2 0
    have HX := Lib.hid hbx
    have HX2 := Lib.hid hbx2
    have HR := Lib.hid hrow
    have HK4 := Lib.hid hk4
    clear hbx hbx2 hrow hk4
    by_cases hklt : k < len
    · have hk4' := HK4.out
      have hmd' := HMD.out
      have hkr : k + 4 ≤ len := by omega
      have hki : (k : Int) < (len : Int) := by omega
      obtain ⟨b, o, rfl, hbB, hcell⟩ := HR.out.cells (by omega)
      have hmin : (4 : Int) ≤ ((len - k : Nat) : Int) := by omega
      clear hcell hk4' hmd'
      gi_wp2_with fail
      refine wpIn_wide.2 ?_
      refine wp_region_rel (fun A B => A.grownBy B none) (fun A => grown_refl A _) (fun A B C h k => grown_trans h k) (relAt (List.cons (fun v _ => v = .int .i64 4) (List.cons (fun v _ => v = .slice (some ⟨b, o, none⟩) len cap) (List.cons (fun v _ => v = .int .i64 (k : Int)) (List.cons (fun v _ => ∃ X, v = .slice X (len - k) (cap - k)) (List.cons (fun v _ => v = .int .i64 ((len - k : Nat) : Int)) (List.cons (fun v _ => v = .int .i64 4) (List.cons (fun v _ => v = .int .i64 4) ([]))))))))) (MonoL.at_ (.cons (mono_val _) (.cons (mono_val _) (.cons (mono_val _) (.cons (fun _ _ _ h _ => h) (.cons (mono_val _) (.cons (mono_val _) (.cons (mono_val _) .nil)))))))) (by kernel_rfl) (by kernel_rfl) ⟨?_, ?_, ?_, ?_, ?_, ?_, ?_, trivial⟩ ?_
      · intro a vs W hX hR he hf K hK
        rw [if_pos (wanted_none rfl)]
        have e2 : a.eval (.tmp 2) = .pointer (some ⟨Bx + 1, 0, none⟩) := hf 2 (by kernel_rfl)
        have hbW := bthen (below_drew _) (grow_below hX)
        have hc : W.cell? ⟨Bx + 1, 0, none⟩ = some (.int .i64 4) := (hbW.cell (p := ⟨Bx + 1, 0, none⟩) hlt2).trans hc1
        refine wp_value (v := _) ?_ (hK _ _ rfl (grown_refl W _))
        simp only [execOp, e2]
        go_simp
      · intro a vs W hX hR he hf K hK
        rw [if_pos (wanted_none rfl)]
        have e1 : a.eval (.tmp 1) = .pointer (some ⟨Bx, 0, none⟩) := hf 1 (by kernel_rfl)
        have hbW := bthen (below_drew _) (grow_below hX)
        have hc : W.cell? ⟨Bx, 0, none⟩ = some (.slice (some ⟨b, o, none⟩) len cap) := (hbW.cell (p := ⟨Bx, 0, none⟩) hlt).trans hc0
        refine wp_value (v := _) ?_ (hK _ _ rfl (grown_refl W _))
        simp only [execOp, e1]
        go_simp
      · intro a vs W hX hR he hf K hK
        rw [if_pos (wanted_none rfl)]
        have e4 : a.eval (.tmp 4) = .int .i64 (k : Int) := hf 4 (by kernel_rfl)
        refine wp_value (v := .int .i64 (k : Int)) ?_ (hK _ _ rfl (grown_refl W _))
        simp only [execOp, e4]
        try go_simp
        try (first | rfl | omega | (simp only [IntKind.wrap_i64, IntKind.wrap_u8, IntKind.wrap_u64, IntKind.wrap_u16, IntKind.wrap_u32]; omega) | (rw [Int.tmod_eq_emod_of_nonneg (by omega)]) | (rw [Int.tmod_eq_emod_of_nonneg (by omega)]; omega))
      · intro a vs W hX hR he hf K hK
        rw [if_pos (wanted_none rfl)]
        have e14 : a.eval (.tmp 14) = .slice (some ⟨b, o, none⟩) len cap := (he 1 14 (by kernel_rfl) rfl).trans (hR 1 (by kernel_rfl))
        have e15 : a.eval (.tmp 15) = .int .i64 (k : Int) := (he 2 15 (by kernel_rfl) rfl).trans (hR 2 (by kernel_rfl))
        have f14 := e14
        simp only [Act.eval, Array.getD_eq_getD_getElem?] at f14
        have f15 := e15
        simp only [Act.eval, Array.getD_eq_getD_getElem?] at f15
        have hck : (k : Int) ≤ (cap : Int) := by omega
        refine wp_value (v := .slice (if cap = k then some ⟨b, o, none⟩ else some ⟨b, o + k, none⟩) (len - k) (cap - k)) ?_ (hK _ _ ⟨_, rfl⟩ (grown_refl W _))
        simp only [execOp, e14, e15]
        go_simp
      · intro a vs W hX hR he hf K hK
        rw [if_pos (wanted_none rfl)]
        have e16 := he 3 16 (by kernel_rfl) rfl
        have p16 := hR 3 (by kernel_rfl)
        change (fun v _ => ∃ X, v = .slice X (len - k) (cap - k)) (vs 3) W at p16
        have f16 := e16
        simp only [Act.eval, Array.getD_eq_getD_getElem?] at f16
        obtain ⟨X, hv⟩ := p16
        rw [hv] at e16 f16
        refine wp_value (v := .int .i64 ((len - k : Nat) : Int)) ?_ (hK _ _ rfl (grown_refl W _))
        simp only [execOp, e16]
        go_simp
      · intro a vs W hX hR he hf K hK
        rw [if_pos (wanted_none rfl)]
        have e13 : a.eval (.tmp 13) = .int .i64 4 := (he 0 13 (by kernel_rfl) rfl).trans (hR 0 (by kernel_rfl))
        have e17 : a.eval (.tmp 17) = .int .i64 ((len - k : Nat) : Int) := (he 4 17 (by kernel_rfl) rfl).trans (hR 4 (by kernel_rfl))
        have f13 := e13
        simp only [Act.eval, Array.getD_eq_getD_getElem?] at f13
        have f17 := e17
        simp only [Act.eval, Array.getD_eq_getD_getElem?] at f17
        refine wp_value (v := .int .i64 4) ?_ (hK _ _ rfl (grown_refl W _))
        simp only [execOp, e13, e17, f13, f17]
        go_simp
        intro h9
        omega
      · intro a vs W hX hR he hf K hK
        rw [if_pos (wanted_none rfl)]
        have e18 : a.eval (.tmp 18) = .int .i64 4 := (he 5 18 (by kernel_rfl) rfl).trans (hR 5 (by kernel_rfl))
        refine wp_value (v := .int .i64 4) ?_ (hK _ _ rfl (grown_refl W _))
        simp only [execOp, e18]
        try go_simp
        try (first | rfl | omega | (simp only [IntKind.wrap_i64, IntKind.wrap_u8, IntKind.wrap_u64, IntKind.wrap_u16, IntKind.wrap_u32]; omega) | (rw [Int.tmod_eq_emod_of_nonneg (by omega)]) | (rw [Int.tmod_eq_emod_of_nonneg (by omega)]; omega))
      · intro vs W2 hX2 hR
        have q0 := hR 0 (by decide)
        have q1 := hR 1 (by decide)
        have q2 := hR 2 (by decide)
        have q3 := hR 3 (by decide)
        have q4 := hR 4 (by decide)
        have q5 := hR 5 (by decide)
        have q6 := hR 6 (by decide)
        change vs 0 = .int .i64 4 at q0
        change vs 1 = .slice (some ⟨b, o, none⟩) len cap at q1
        change vs 2 = .int .i64 (k : Int) at q2
        change (fun v _ => ∃ X, v = .slice X (len - k) (cap - k)) (vs 3) W2 at q3
        change vs 4 = .int .i64 ((len - k : Nat) : Int) at q4
        change vs 5 = .int .i64 4 at q5
        change vs 6 = .int .i64 4 at q6
        simp only [putAll, Act.put, List.setIfInBounds_toArray, List.set_cons_zero, List.set_cons_succ, q0, q1, q2, q4, q5, q6]
        clear q0 q1 q2 q4 q5 q6
        clear hR
        obtain ⟨X, hv⟩ := q3
        rw [hv]
        have hbW := bthen (below_drew _) (grow_below hX2)
        have hbx2 := (hbW.block Bx hlt).trans HX.out
        have hbx3 := (hbW.block (Bx + 1) hlt2).trans HX2.out
        have hn0 : n₀ ≤ wr.heap.size := by omega
        have hJ2 := hJ.below _ _ _ hJs hbW
        have hrow2 := HR.out.below (hbW.mono hn0)
        have hok : okC n₀ len zs pre (some ⟨b, o + k, none⟩, (zs.drop k).take 4) W2 := ⟨by have := HK4.out; omega, by rw [← HK4.out], by
          have := hrow2.sub1 (i := k) (k := 4) (by omega)
          rw [addr_add1] at this
          rw [show bv ((zs.drop k).take 4) = ((bv zs).drop k).take 4 by simp only [bv, ← List.map_take, ← List.map_drop]]
          exact this⟩
        obtain ⟨fn, tmps, assign, bodyC, hy, hR⟩ := hY pre _ W2 hJ2 hok
        dsimp only [tellsC] at hy
        have hd0 := cell_at hbx2 0
        have hd1 := cell_at hbx3 0
        have hkc : (k : Int) + 4 ≤ (cap : Int) := by omega
        have hck : (k : Int) ≤ (cap : Int) := by omega
        have HB2 := Lib.hid hbx2
        have HB3 := Lib.hid hbx3
        have HRW := Lib.hid hrow2
        clear hc0 hf0 hc1 hf1 hJs hbW hX2 hv hok hbx2 hbx3 hJ2 hrow2 hmin
        gi_wp2
        refine hR.mono ?_
        rintro e W3 (⟨rfl, hJ3, hk3⟩ | ⟨rfl, hJx3⟩)
        · have hg2 := hk3.2.1.trans HB2.out
          have hg3 := hk3.2.2.trans HB3.out
          have hq1 := cell_at hg3 0
          have HG2 := Lib.hid hg2
          have HG3 := Lib.hid hg3
          have HR3 := Lib.hid (HRW.out.below hk3.1)
          have HJ3 := Lib.hid hJ3
          clear hg2 hg3 hJ3 hk3 hR hy hd0 hd1
          gi_wp2
          refine ⟨⟨_, k + 4, by simp, ?_, by omega, HJ3.out, HG2.out, HG3.out, HR3.out⟩, ?_⟩
          · have := HK4.out
            simp
            omega
          · simp [intOf]
            omega
        · gi_wp2
          refine bodyPost_ret (results_none rfl _ _ _) rfl ?_
          exact ⟨⟨_, rfl⟩, .inr ⟨_, by simp, hJx3⟩⟩
    · obtain rfl : k = len := by omega
      gi_wp2
      refine bodyPost_end (results_none rfl _ _ _) rfl ?_
      exact ⟨⟨_, rfl⟩, .inl ⟨pre, HK4.out.symm, hJs⟩⟩
theorem chunk1_ends (Bx n₀ : Nat) (A : Option Addr) (len cap : Nat) (zs : List UInt8) (hlen : len ≤ 1000000000) (hlc : len ≤ cap) (hcm : cap ≤ maxLen) (hmod : len % 4 = 0) (n : Nat) (hn : 2 ≤ n) (w : World) (hBx : Bx + 1 < w.heap.size)
    (hB : w.heap[Bx]? = some (.cells #[.slice A len cap] 22 (0, 0))) (hB2 : w.heap[Bx + 1]? = some (.cells #[.int .i64 4] 3 (0, 0))) (hBn : n₀ ≤ Bx) (hr : Row w n₀ 1 A len (bv zs)) :
    EndsD Fence.wide n Tryd.prog 71 #[.pointer (some ⟨Bx, 0, none⟩), .pointer (some ⟨Bx + 1, 0, none⟩)] tellsC (Keeps2 n₀ Bx) (fun _ => True) (okC n₀ len zs) (fun xs => 4 * xs.length = len) (fun pre => pre ≠ []) Bx w := fun l J Jx W hW hJ hg hY h0 =>
  chunk1_in l Bx n₀ A len cap zs hlen hlc hcm hmod n hn J Jx hJ hY W ((hW.block Bx (by omega)).trans hB) ((hW.block (Bx + 1) hBx).trans hB2) hBn (hr.below (hW.mono (by omega))) h0
end Go.Proofs.YtckbleiikldloaaDoor


/- What ext.Get (layer 22) computes, where its first bytes are not right; what stands between two rounds of its loop. No condition but sizes. -/
import Derived.Test.YtbabkcdhihmomaaX22c
import Derived.Scope
namespace Go.Proofs.Ytbabkcdhihmomaa
open Go.RowKit Go.Shelf
set_option linter.unusedVariables false
set_option maxRecDepth 20000
set_option linter.unusedSimpArgs false

attribute [local go_sem] Oper.semAt_some

theorem infoXo : (Try.prog.info? 51).map (fun i => (i.zero, i.size, i.bytes)) = some (some (.agg #[.int .u8 0, .int .u8 0, .slice none 0 0]), 3, 32) := by kernel_rfl
theorem own_cells {W : World} {base : Nat} {e : TypeId} {sz : Nat} {A : Option Addr} {n c : Nat} {xs : List Value} (h : Own W base e sz A n c xs) (g : Nat) (hg : blk A c = some g) : ∃ cs, W.heap[g]? = some (.cells cs e (0, 0)) := by
  unfold blk at hg
  split at hg
  · cases hg
  · rename_i hc
    rcases h.own with ⟨_, h0⟩ | ⟨g', cur, rfl, hb, hh, _, _⟩
    · omega
    · simp at hg
      subst hg
      exact ⟨cur, hh⟩
theorem not_blk {W : World} {base sz n c B : Nat} {e t : TypeId} {A : Option Addr} {xs : List Value} {v : Value} (h : Own W base e sz A n c xs) (hb : Boxed W B t v) (ht : t ≠ e) : some B ≠ blk A c := fun e' => by
  obtain ⟨cs, hc⟩ := own_cells h B e'.symm
  rw [show W.heap[B]? = _ from hb] at hc
  injection hc with hc
  injection hc with _ hc
  exact ht hc
theorem own_box' {W : World} {base sz n c B : Nat} {e t : TypeId} {A : Option Addr} {xs : List Value} {v : Value} (h : Own W base e sz A n c xs) (hb : Boxed W B t v) (ht : t ≠ e) (u : Value) : Own (W.setCell ⟨B, 0, none⟩ u) base e sz A n c xs :=
  h.kept (grownBy_setCell' W B u) (fun g hg e' => by
    cases e'
    exact not_blk h hb ht hg.symm)
theorem own_own {W w3 : World} {b1 b2 s1 s2 n1 n2 c1 c2 : Nat} {e1 e2 : TypeId} {A1 A2 : Option Addr} {x1 x2 : List Value} (h : Own W b1 e1 s1 A1 n1 c1 x1) (k : Own W b2 e2 s2 A2 n2 c2 x2) (ht : e1 ≠ e2) (hg : W.grownBy w3 (blk A2 c2)) : Own w3 b1 e1 s1 A1 n1 c1 x1 :=
  h.kept hg (fun g hg' e' => by
    obtain ⟨cs, hc⟩ := own_cells h g hg'
    obtain ⟨cs2, hc2⟩ := own_cells k g e'
    rw [hc] at hc2
    injection hc2 with hc2
    injection hc2 with _ hc2
    exact ht hc2)
theorem own_turn {W W' : World} {base sz n c : Nat} {e : TypeId} {A : Option Addr} {xs : List Value} {row : Option Nat} (h : Own W base e sz A n c xs) (hg : W.grownBy W' row) (hr : ∀ r, row = some r → ∀ cs t, W.heap[r]? = some (.cells cs t (0, 0)) → False) : Own W' base e sz A n c xs :=
  h.kept hg (fun g' hg' e' => by
    obtain ⟨cs, hc⟩ := own_cells h g' hg'
    exact hr g' e' _ _ hc)
theorem own_keepsFrom {W w3 : World} {base sz n c : Nat} {e : TypeId} {A : Option Addr} {xs : List Value} (B : Nat) (h : Own W base e sz A n c xs) (hg : W.grownBy w3 (blk A c)) : KeepsFrom B W w3 :=
  ⟨hg.size, fun k o _ hk ho => (hg.block k (Array.getElem?_eq_some_iff.1 hk).1 (fun e' => by
    obtain ⟨cs, hc⟩ := own_cells h k e'.symm
    rw [hk] at hc
    cases hc
    cases ho)).trans hk⟩

theorem wpListIn_append_Own {F : Fence} {nF : Nat} {P : Program} {w : World} {ops : Array Oper} {rest : List Oper} {o : Oper} {a : Act} {Q : Exit → Act → World → Prop} (hgd : o.guard = none) (s x : Operand) (t : TypeId)
    (ho : o.op = .call { callee := .builtin .append, args := #[s, x], argTypes := #[t, t] })
    (base : Nat) (e : TypeId) (z : Value) (sz bytes : Nat) (ht : P.underlying t = some (.slice e)) (hinfo : (P.info? e).map (fun i => (i.zero, i.size, i.bytes)) = some (some z, sz, bytes))
    (hzs : z.cells.size = sz) (hsz : 0 < sz)
    (A : Option Addr) (n c : Nat) (xs : List Value) (hs : a.eval s = .slice A n c) (hown : Own w base e sz A n c xs)
    (B : Nat) (X : Option Addr) (m cx : Nat) (news : List Value) (hx : a.eval x = .slice X m cx) (hr : Row w B sz X m news) (h1 : ∀ u ∈ news, u.oneCell' = true)
    (h63 : n + m ≤ maxLen) (hbytes : (n + m) * bytes ≤ 140737488355328) (hbase : base ≤ w.heap.size)
    (h : ∀ A' c' w', Own w' base e sz A' (n + m) c' (xs ++ news) → w.grownBy w' (blk A c) → ((A' = A ∧ c' = c) ∨ ∃ g, A' = some ⟨g, 0, none⟩ ∧ w.heap.size ≤ g) → wpListIn F nF P ops Q rest (a.put o.dst (.slice A' (n + m) c')) w') :
    wpListIn F nF P ops Q (o :: rest) a w := by
  refine wpListIn_plain hgd fun K hK => ?_
  obtain ⟨A', c', w', hrun, h2, h3, h4⟩ := run_append_Own (P := P) w base t o.type e z sz bytes ht hinfo hzs hsz A n c xs hown B X m cx news hr h1 h63 hbytes hbase
  unfold Oper.wpIn
  refine ⟨by simp [Oper.about, ho, resolve, Target.leads, Sem.run_pure], ?_⟩
  rw [Oper.semAt_plain F _ _ (by rw [ho]; intro c hc'; cases hc')]
  simp [execOp, ho, resolve, invoke, builtin, hs, hx, hrun, Result.andThen]
  exact hK _ _ (h _ _ _ h2 h3 h4)

theorem wpListIn_val {nF : Nat} {P : Program} {w w' : World} {ops : Array Oper} {rest : List Oper} {o : Oper} {a : Act} {Q : Exit → Act → World → Prop} {v : Value} (hgd : o.guard = none) (h : (execOp a.eval o).run P w = .ok (.value v) w')
    (hk : wpListIn Fence.wide nF P ops Q rest (a.put o.dst v) w') : wpListIn Fence.wide nF P ops Q (o :: rest) a w :=
  wpListIn_plain hgd fun K hK => wpIn_of_wp (wp_value h (hK _ _ hk))

/-- what bytes tell -/
def getG (zs : List UInt8) : List Ob × Int := if zs.length < 4 then ([], 10) else if (zs.getD 0 0).toNat / 16 ≠ 2 then ([], 12) else if rawN zs ≠ 65535 then ([], 14) else goG (zs.length - 4) [] (zs.drop 4)

/-- an object of the call's own -/
structure TXo (N : Nat) (x : Xo) (W : World) : Prop where
  cls : 0 ≤ x.cls ∧ x.cls ≤ 255
  kind : 0 ≤ x.kind ∧ x.kind ≤ 255
  own : Own W N 5 1 x.A x.n x.c (bv x.body)
structure GtI (w : World) (g : Nat) (pre : List Tx) (W : World) : Prop where
  out : ∃ A c, Boxed W g 22 (.slice A pre.length c) ∧ Own W w.heap.size 51 3 A pre.length c (xos (pre.map (·.1)))
  r2 : Boxed W w.heap.size 22 (.slice none 0 0)
  r3 : Boxed W (w.heap.size + 1) 27 (.int .i64 0)
  bx : ∃ v, Boxed W (g + 1) 26 v
  obs : ∀ x ∈ pre, TXo w.heap.size x.1 W
  bel : Below w.heap.size w W

theorem GtI.turn {w : World} {g : Nat} {pre : List Tx} {W W' : World} {row : Option Nat} (h : GtI w g pre W) (hg : W.grownBy W' row) (hr : ∀ r, row = some r → w.heap.size ≤ r ∧ ∀ cs t, W.heap[r]? = some (.cells cs t (0, 0)) → False) : GtI w g pre W' := by
  have hb : ∀ {B : Nat} {t : TypeId} {v : Value}, Boxed W B t v → Boxed W' B t v := fun hb => hb.kept hg (fun e => (hr _ e.symm).2 _ _ hb)
  obtain ⟨A, c, ho, hown⟩ := h.out
  refine ⟨⟨A, c, hb ho, own_turn hown hg (fun r e => (hr r e).2)⟩, hb h.r2, hb h.r3, ?_, fun x hx => ⟨(h.obs x hx).cls, (h.obs x hx).kind, own_turn (h.obs x hx).own hg (fun r e => (hr r e).2)⟩, h.bel.grown hg h.bel.size (fun k e => (hr k e).1)⟩
  obtain ⟨v, hv⟩ := h.bx
  exact ⟨v, hb hv⟩
theorem GtI.ownFrom (w : World) (g B : Nat) (hB : w.heap.size ≤ B) : OwnFrom B (GtI w g) := fun s X Y row hs hg hr =>
  hs.turn hg (fun r e => by
    obtain ⟨h1, o, ho, hc⟩ := hr r e
    refine ⟨by omega, fun cs t h2 => ?_⟩
    rw [ho] at h2
    cases h2
    cases hc)
theorem GtI.lets (w : World) (g : Nat) (hg1 : w.heap.size + 1 < g) : Lets (g + 1) (GtI w g) where
  below s W W' h hb := by
    have hk : ∀ {B : Nat} {t : TypeId} {v : Value}, Boxed W B t v → Boxed W' B t v := fun hx => (hb.block _ hx.lt).trans hx
    obtain ⟨A, c, ho, hown⟩ := h.out
    obtain ⟨v, hv⟩ := h.bx
    exact ⟨⟨A, c, hk ho, hown.below hb⟩, hk h.r2, hk h.r3, ⟨v, hk hv⟩, fun x hx => ⟨(h.obs x hx).cls, (h.obs x hx).kind, (h.obs x hx).own.below hb⟩, h.bel.trans (hb.mono h.bel.size)⟩
  set s W u h := by
    obtain ⟨A, c, ho, hown⟩ := h.out
    obtain ⟨v, hv⟩ := h.bx
    have hne : ∀ {B : Nat} {t : TypeId} {v' : Value}, Boxed W B t v' → t ≠ 51 → t ≠ 5 → True := fun _ _ _ => trivial
    refine ⟨⟨A, c, ho.other (by omega) u, own_box' hown hv (by decide) u⟩, h.r2.other (by omega) u, h.r3.other (by omega) u, ⟨u, hv.set u⟩, fun x hx => ⟨(h.obs x hx).cls, (h.obs x hx).kind, own_box' (h.obs x hx).own hv (by decide) u⟩, h.bel.setCell (p := ⟨_, 0, none⟩) (by simp only; omega) u⟩

theorem row_newX (W : World) (x : Xo) : Row (W.alloc (.cells #[.int .u8 x.cls, .int .u8 x.kind, .slice x.A x.n x.c] 51)) (W.heap.size + 1) 3 (some ⟨W.heap.size, 0, none⟩) 1 x.cells :=
  Row.new (n := 1) (sz := 3) W _ rfl
theorem xos_append (a b : List Xo) : xos (a ++ b) = xos a ++ xos b := by simp [xos]
theorem GtI.pushed {w : World} {g : Nat} {pre : List Tx} {W w3 : World} (h : GtI w g pre W) (hg1 : w.heap.size + 1 < g) (x : Tx) (hx : TXo w.heap.size x.1 W) (o : Obj) {Ao A3 : Option Addr} {co c3 B : Nat} (ho : Boxed W g 22 (.slice Ao pre.length co))
    (hown : Own W w.heap.size 51 3 Ao pre.length co (xos (pre.map (·.1)))) (hown3 : Own w3 w.heap.size 51 3 A3 (pre.length + 1) c3 (xos (pre.map (·.1)) ++ x.1.cells)) (hg : (W.alloc o).grownBy w3 (blk Ao co)) (hB : g < B) :
    KeepsFrom B W (w3.setCell ⟨g, 0, none⟩ (.slice A3 (pre.length + 1) c3)) ∧ Keeps1 w.heap.size (g + 1) W (w3.setCell ⟨g, 0, none⟩ (.slice A3 (pre.length + 1) c3)) ∧
      GtI w g (pre ++ [x]) (w3.setCell ⟨g, 0, none⟩ (.slice A3 (pre.length + 1) c3)) := by
  have hob : ∀ (B : Nat) (t : TypeId) (v : Value), Boxed (W.alloc o) B t v → t ≠ 51 → Boxed w3 B t v := fun B t v hb ht => hb.kept hg (not_blk (hown.alloc o) hb ht)
  have b5 := hob _ _ _ (ho.alloc o) (by decide)
  have b2 := hob _ _ _ (h.r2.alloc o) (by decide)
  have b3 := hob _ _ _ (h.r3.alloc o) (by decide)
  obtain ⟨v, hv⟩ := h.bx
  have bx := hob _ _ _ (hv.alloc o) (by decide)
  have hbl : ∀ k, blk Ao co = some k → w.heap.size ≤ k := fun k hk => (hown.lt k hk).1
  have hs := h.bel.size
  have hW : Below w.heap.size W (w3.setCell ⟨g, 0, none⟩ (.slice A3 (pre.length + 1) c3)) :=
    (((Below.refl w.heap.size W).alloc hs o).grown hg (by simp; omega) hbl).setCell (p := ⟨g, 0, none⟩) (by simp only; omega) _
  have hl : (pre ++ [x]).length = pre.length + 1 := by simp
  have hob2 : ∀ {A9 : Option Addr} {n9 c9 : Nat} {xs9 : List Value}, Own W w.heap.size 5 1 A9 n9 c9 xs9 → Own (w3.setCell ⟨g, 0, none⟩ (.slice A3 (pre.length + 1) c3)) w.heap.size 5 1 A9 n9 c9 xs9 := fun h9 =>
    own_box' (own_own (h9.alloc o) (hown.alloc o) (by decide) hg) b5 (by decide) _
  refine ⟨((KeepsFrom.of_grownBy (World.grownBy_alloc W o none) (by simp)).trans (own_keepsFrom B (hown.alloc o) hg)).trans (KeepsFrom.of_grownBy (grownBy_setCell' _ _ _) (by rintro j ⟨⟩; exact hB)), ⟨hW, (show _ = _ from (bx.other (by omega) _).trans hv.symm)⟩,
    ⟨A3, c3, by rw [hl]; exact b5.set _, ?_⟩, b2.other (by omega) _, b3.other (by omega) _, ⟨v, bx.other (by omega) _⟩, ?_, h.bel.trans hW⟩
  · rw [hl, show xos ((pre ++ [x]).map (·.1)) = xos (pre.map (·.1)) ++ x.1.cells by rw [List.map_append, xos_append]; simp [xos]]
    exact own_box' hown3 b5 (by decide) _
  · intro y hy
    rcases List.mem_append.1 hy with hy | hy
    · exact ⟨(h.obs y hy).cls, (h.obs y hy).kind, hob2 (h.obs y hy).own⟩
    · obtain rfl := List.mem_singleton.1 hy
      exact ⟨hx.cls, hx.kind, hob2 hx.own⟩
/-- the two results, stored -/
theorem set2 {w W : World} {g : Nat} {pre : List Tx} (h : GtI w g pre W) (hg1 : w.heap.size + 1 < g) (v2 v3 : Value) {B : Nat} (hB : w.heap.size + 1 < B) :
    KeepsFrom B W ((W.setCell ⟨w.heap.size, 0, none⟩ v2).setCell ⟨w.heap.size + 1, 0, none⟩ v3) ∧
      Boxed ((W.setCell ⟨w.heap.size, 0, none⟩ v2).setCell ⟨w.heap.size + 1, 0, none⟩ v3) w.heap.size 22 v2 ∧
      Boxed ((W.setCell ⟨w.heap.size, 0, none⟩ v2).setCell ⟨w.heap.size + 1, 0, none⟩ v3) (w.heap.size + 1) 27 v3 ∧
      Below w.heap.size w ((W.setCell ⟨w.heap.size, 0, none⟩ v2).setCell ⟨w.heap.size + 1, 0, none⟩ v3) := by
  refine ⟨(KeepsFrom.of_grownBy (grownBy_setCell' W _ _) (by rintro j ⟨⟩; omega)).trans (KeepsFrom.of_grownBy (grownBy_setCell' _ _ _) (by rintro j ⟨⟩; omega)),
    (h.r2.set v2).other (by omega) _, (h.r3.other (by omega) v2).set v3,
    (h.bel.setCell (p := ⟨_, 0, none⟩) (Nat.le_refl _) v2).setCell (p := ⟨_, 0, none⟩) (by simp only; omega) v3⟩

set_option maxHeartbeats 1000000 in
theorem get22_short (A : Option Addr) (len cap : Nat) (w : World) (hlen : len < 4) :
    Calls Try.prog 14 #[.slice A len cap] w fun e w' => e = .returned (.tuple #[.slice none 0 0, .int .i64 10]) ∧ Below w.heap.size w w' := by
  have h4 : (len : Int) < 4 := by omega
  go_enter Try.func14, Try.ntmps14
  go_wp2
  refine bodyPost_ret (v := .tuple #[.slice none 0 0, .int .i64 10]) (by simp [results, Try.results14, go_sem]) rfl ⟨rfl, ?_⟩
  exact ((Below.refl _ w).alloc (Nat.le_refl _) _).alloc (by simp) _

theorem u8_bd0 (zs : List UInt8) (k : Nat) : ∃ y : Nat, (zs.getD k 0).toNat = y ∧ y ≤ 255 := ⟨_, rfl, by have := (zs.getD k 0).toNat_lt; omega⟩
theorem bv_getD {zs : List UInt8} {k y : Nat} (h : k < zs.length) (hy : (zs.getD k 0).toNat = y) : (bv zs)[k]? = some (.int .u8 (y : Int)) := by
  rw [bv_get zs k (zs.getD k 0) (by rw [List.getD_eq_getElem?_getD, List.getElem?_eq_getElem h]; rfl), hy]
set_option maxHeartbeats 1000000 in
theorem get22_version (A : Option Addr) (len cap : Nat) (zs : List UInt8) (w : World) (hr : Row w w.heap.size 1 A len (bv zs)) (hlc : len ≤ cap) (hcm : cap ≤ maxLen) (hlen : 4 ≤ len) (hv : (zs.getD 0 0).toNat / 16 ≠ 2) :
    Calls Try.prog 14 #[.slice A len cap] w fun e w' => e = .returned (.tuple #[.slice none 0 0, .int .i64 12]) ∧ Below w.heap.size w w' := by
  have h4 : ¬ (len : Int) < 4 := by omega
  have hp : (0 : Int) < len := by omega
  have hz : zs.length = len := by have := hr.1; rw [bv_length] at this; omega
  obtain ⟨y, hy, hyb⟩ := u8_bd0 zs 0
  have hv2 : y / 16 ≠ 2 := hy ▸ hv
  have hvi : ((y : Int) / 16 != 2) = true := by simp; omega
  obtain ⟨b, o, rfl, hb, hc⟩ := hr.cells (by omega)
  have u0 : w.cell? ⟨b, o, none⟩ = some (.int .u8 (y : Int)) := hc 0 _ (bv_getD (by omega) hy)
  have hyb2 : (y : Int) ≤ 255 := by omega
  clear hc hr hv hv2 hy hz
  go_enter Try.func14, Try.ntmps14
  go_wp2
  refine bodyPost_ret (v := .tuple #[.slice none 0 0, .int .i64 12]) (by simp [results, Try.results14, go_sem]) rfl ⟨rfl, ?_⟩
  exact ((Below.refl _ w).alloc (Nat.le_refl _) _).alloc (by simp) _

set_option maxHeartbeats 1000000 in
theorem get22_sum (A : Option Addr) (len cap : Nat) (zs : List UInt8) (w : World) (hr : Row w w.heap.size 1 A len (bv zs)) (hlc : len ≤ cap) (hcm : cap ≤ maxLen) (hlen : 4 ≤ len) (hmax : len ≤ 1000000000) (hv : (zs.getD 0 0).toNat / 16 = 2) (hs : rawN zs ≠ 65535) :
    Calls Try.prog 14 #[.slice A len cap] w fun e w' => e = .returned (.tuple #[.slice none 0 0, .int .i64 14]) ∧ Below w.heap.size w w' := by
  have h4 : ¬ (len : Int) < 4 := by omega
  have hp : (0 : Int) < len := by omega
  have hz : zs.length = len := by have := hr.1; rw [bv_length] at this; omega
  obtain ⟨y, hy, hyb⟩ := u8_bd0 zs 0
  have hv2 : y / 16 = 2 := hy ▸ hv
  have hvi : ((y : Int) / 16 != 2) = false := by simp; omega
  have HR := Lib.hid hr
  obtain ⟨b, o, rfl, hb, hc⟩ := hr.cells (by omega)
  have u0 : w.cell? ⟨b, o, none⟩ = some (.int .u8 (y : Int)) := hc 0 _ (bv_getD (by omega) hy)
  have hyb2 : (y : Int) ≤ 255 := by omega
  have HS := Lib.hid hs
  have HZ := Lib.hid hz
  clear hc hr hv hv2 hy hs hz
  go_enter Try.func14, Try.ntmps14
  go_wp2_with fail
  have hal : Below w.heap.size w ((w.alloc (.cells #[.slice none 0 0] 22)).alloc (.cells #[.int .i64 0] 27)) := ((Below.refl _ _).alloc (Nat.le_refl _) _).alloc (by simp) _
  refine (check_lit #[.slice (some ⟨b, o, none⟩) len cap] [⟨some ⟨b, o, none⟩, len, cap, zs⟩] 1 1 _ rfl rfl (by omega) (oks1 ⟨(HR.out.below hal).more hal.size, hlc, hcm⟩) (by rw [flat_one, HZ.out]; omega) (w.heap.size + 1 + 1) (by simp)).mono ?_
  rintro e w1 ⟨rfl, hb1⟩
  rw [flat_one, decide_eq_false HS.out]
  have b2 : Boxed w1 w.heap.size 22 (.slice none 0 0) := (hb1.block _ (by simp; omega)).trans (((Boxed.new w 22 (.slice none 0 0)).alloc _))
  have b3 : Boxed w1 (w.heap.size + 1) 27 (.int .i64 0) := (hb1.block _ (by simp)).trans (by have := Boxed.new (w.alloc (.cells #[.slice none 0 0] 22)) 27 (.int .i64 0); rw [World.size_alloc] at this; exact this)
  have c2 := b2.cell
  have c3 := b3.cell
  have f2 := b2.frozen
  have f3 := b3.frozen
  have HB := Lib.hid (hal.trans (hb1.mono hal.size))
  clear b2 b3 hb1 hal
  go_wp2
  refine bodyPost_ret (v := .tuple #[.slice none 0 0, .int .i64 14]) (by simp [results, Try.results14, go_sem, c2, c3]) rfl ⟨rfl, ?_⟩
  exact (HB.out.setCell (p := ⟨w.heap.size, 0, none⟩) (Nat.le_refl _) _).setCell (p := ⟨w.heap.size + 1, 0, none⟩) (by simp only; omega) _

end Go.Proofs.Ytbabkcdhihmomaa

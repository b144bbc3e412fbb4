/- What ext.Get (layer 22) computes. No condition but sizes. -/
import Derived.Test.YtbabkcdhihmomaaX22d
namespace Go.Proofs.Ytbabkcdhihmomaa
open Go.RowKit Go.Shelf
set_option linter.unusedVariables false
set_option maxRecDepth 20000
set_option linter.unusedSimpArgs false

attribute [local go_sem] Oper.semAt_some

/-- how the loop is left -/
def GtX (w : World) : Code → List Tx → World → Prop
  | .ret, pre, W => ∃ p x, pre = p ++ [x] ∧ x.2 ≠ 0 ∧ Boxed W w.heap.size 22 (.slice none 0 0) ∧ Boxed W (w.heap.size + 1) 27 (.int .i64 x.2) ∧ Below w.heap.size w W
  | _, _, _ => False
theorem GtX.ownFrom (w : World) (B : Nat) (hB : w.heap.size ≤ B) (c : Code) : OwnFrom B (GtX w c) := by
  intro s X Y row hs hg hr
  have hb : ∀ {B : Nat} {t : TypeId} {v : Value}, Boxed X B t v → Boxed Y B t v := fun hb => hb.kept hg (fun e => by
    obtain ⟨h1, o, ho, hc⟩ := hr _ e.symm
    rw [show X.heap[_]? = _ from hb] at ho
    cases ho
    cases hc)
  unfold GtX at hs ⊢
  split at hs
  · obtain ⟨p, x, h1, h2, h4, h5, h7⟩ := hs
    exact ⟨p, x, h1, h2, hb h4, hb h5, h7.grown hg h7.size (fun k e => by have := (hr k e).1; omega)⟩
  · exact hs.elim
theorem TXo.turn {N : Nat} {x : Xo} {W W' : World} {row : Option Nat} (h : TXo N x W) (hg : W.grownBy W' row) (hr : ∀ r, row = some r → ∀ cs t, W.heap[r]? = some (.cells cs t (0, 0)) → False) : TXo N x W' := ⟨h.cls, h.kind, own_turn h.own hg hr⟩
theorem TXo.below {N : Nat} {x : Xo} {W W' : World} (h : TXo N x W) (hb : Below W.heap.size W W') : TXo N x W' := ⟨h.cls, h.kind, h.own.below hb⟩

set_option maxRecDepth 100000 in
set_option maxHeartbeats 4000000 in
theorem get22_in (A : Option Addr) (len cap : Nat) (zs : List UInt8) (w : World) (hr : Row w w.heap.size 1 A len (bv zs)) (hlc : len ≤ cap) (hcm : cap ≤ maxLen) (hlen : 4 ≤ len) (hmax : len ≤ 1000000000) (hv : (zs.getD 0 0).toNat / 16 = 2) (hs : rawN zs = 65535) :
    CallsIn Fence.wide 3 Try.prog 14 #[.slice A len cap] w fun e w' => ∃ (l : List Xo) (A' : Option Addr) (c' : Nat), e = .returned (.tuple #[.slice A' l.length c', .int .i64 (goG (zs.length - 4) [] (zs.drop 4)).2]) ∧ l.map Xo.ob = (goG (zs.length - 4) [] (zs.drop 4)).1 ∧ Own w' w.heap.size 51 3 A' l.length c' (xos l) ∧ (∀ x ∈ l, TXo w.heap.size x w') ∧ Below w.heap.size w w' := by
  have h4 : ¬ (len : Int) < 4 := by omega
  have h4b : (4 : Int) ≤ (len : Int) := by omega
  have hp : (0 : Int) < len := by omega
  have hz : zs.length = len := by have := hr.1; rw [bv_length] at this; omega
  obtain ⟨y, hy, hyb⟩ := u8_bd0 zs 0
  have hv2 : y / 16 = 2 := hy ▸ hv
  have hvi : ((y : Int) / 16 != 2) = false := by simp; omega
  have HR := Lib.hid hr
  obtain ⟨b, o, rfl, hb, hc⟩ := hr.cells (by omega)
  have u0 : w.cell? ⟨b, o, none⟩ = some (.int .u8 (y : Int)) := hc 0 _ (bv_getD (by omega) hy)
  have hyb2 : (y : Int) ≤ 255 := by omega
  have HS := Lib.hid hs
  have HZ := Lib.hid hz
  clear hc hr hv hv2 hy hs hz
  refine callsIn_of_wp_marks Try.func14 rfl trivial ?_ rfl
  simp only [Try.ntmps14, List.size_toArray, List.length_cons, List.length_nil, Nat.reduceAdd, Nat.reduceSub, Array.replicate_succ, Array.replicate_zero, List.push_toArray, List.append_toArray, List.nil_append, List.cons_append]
  have hal : Below w.heap.size w ((w.alloc (.cells #[.slice none 0 0] 22)).alloc (.cells #[.int .i64 0] 27)) := ((Below.refl _ _).alloc (Nat.le_refl _) _).alloc (by simp) _
  obtain ⟨A4, hA4⟩ : ∃ q, (if cap = 4 then (some ⟨b, o, none⟩ : Option Addr) else some ⟨b, o + 4, none⟩) = q := ⟨_, rfl⟩
  have HR4 := Lib.hid (show Row w w.heap.size 1 A4 (len - 4) (bv (zs.drop 4)) by
    have hc := (HR.out.cut (k := 4) (cap := cap) (by omega) hlc)
    rw [show (fun x : Addr => x.add (4 * 1)) = fun x : Addr => x.add 4 from rfl, addr_add1, hA4] at hc
    rw [show bv (zs.drop 4) = (bv zs).drop (4 * 1) by simp only [bv, ← List.map_drop, Nat.mul_one]]
    exact hc)
  gi_wp2_with (first
    | (refine ⟨trivial, ?_⟩; gi_at_call 27; refine (callsIn_wide.2 (check_lit #[.slice (some ⟨b, o, none⟩) len cap] [⟨some ⟨b, o, none⟩, len, cap, zs⟩] 1 1 _ rfl rfl (by omega) (oks1 ⟨(HR.out.below hal).more hal.size, hlc, hcm⟩) (by rw [flat_one, HZ.out]; omega) (w.heap.size + 1 + 1) (by simp))).mono ?_; rintro e w1 ⟨rfl, hb1⟩; rw [flat_one, decide_eq_true HS.out])
    | (refine ⟨trivial, ?_⟩; gi_at_call 28; refine (callsIn_wide.2 (each_any A4 (len - 4) (cap - 4) _)).mono ?_; rintro e w' ⟨rfl, rfl⟩))
  have b2 : Boxed w1 w.heap.size 22 (.slice none 0 0) := (hb1.block _ (by simp; omega)).trans (((Boxed.new w 22 (.slice none 0 0)).alloc _))
  have b3 : Boxed w1 (w.heap.size + 1) 27 (.int .i64 0) := (hb1.block _ (by simp)).trans (by have := Boxed.new (w.alloc (.cells #[.slice none 0 0] 22)) 27 (.int .i64 0); rw [World.size_alloc] at this; exact this)
  have hbel1 : Below w.heap.size w w1 := hal.trans (hb1.mono hal.size)
  have hs1 : w.heap.size + 1 < w1.heap.size := by have := hb1.size; simp at this; omega
  have b4 := Boxed.new w1 22 (.slice none 0 0)
  have b5 := Boxed.new (w1.alloc (.cells #[.slice none 0 0] 22)) 26 (.slice A4 (len - 4) (cap - 4))
  simp only [World.size_alloc] at b5
  have hI0 : GtI w w1.heap.size [] ((w1.alloc (.cells #[.slice none 0 0] 22)).alloc (.cells #[.slice A4 (len - 4) (cap - 4)] 26)) :=
    ⟨⟨none, 0, b4.alloc _, Own.nil _ _ _ _ _⟩, (b2.alloc _).alloc _, (b3.alloc _).alloc _, ⟨_, b5⟩, (by simp), (hbel1.alloc (by omega) _).alloc (by simp; omega) _⟩
  have hr0 := HR4.out.below hI0.bel
  have hbx : ((w1.alloc (.cells #[.slice none 0 0] 22)).alloc (.cells #[.slice A4 (len - 4) (cap - 4)] 26)).heap[w1.heap.size + 1]? = some (.cells #[.slice A4 (len - 4) (cap - 4)] 26 (0, 0)) := b5
  clear u0 hal hb1 hbel1 b2 b3 b4 b5 HR hA4
  refine rangeD (Bx := w1.heap.size + 1) (Kp := Keeps1 w.heap.size (w1.heap.size + 1)) (ok := fun x => x.2 = 0) rfl (by omega) (gf := 40) (lb := #[.pointer (some ⟨w1.heap.size + 1, 0, none⟩)]) rfl trivial (enters_of Try.func40 (by kernel_rfl) rfl)
    (each1_endsX (w1.heap.size + 1) w.heap.size A4 (len - 4) (cap - 4) (zs.drop 4) (by omega) (by omega) (by omega) (3 - 1) (by omega) _ (by simp) hbx (by omega) hr0) (by simp) Keeps1.trans (keeps1_b (by simp; omega) (by simp)) (Below.refl _ _) (fun _ => rfl)
    (fun pre W => GtI w w1.heap.size pre W ∧ ∀ x ∈ pre, x.2 = 0) (GtX w) ?hI (fun c => GtX.ownFrom w _ (by simp; omega) c) ?hL ?hG ⟨hI0, by simp⟩
    (fun pre x a' W => ∃ Be, w1.heap.size + 1 < Be ∧ W.heap[Be]? = some (.cells #[.int .u8 x.1.cls, .int .u8 x.1.kind, .slice x.1.A x.1.n x.1.c] 51 (0, 0)) ∧
      (∃ A9 n9 c9, Boxed W w1.heap.size 22 (.slice A9 n9 c9) ∧ ∀ g, blk A9 c9 = some g → g ≠ Be) ∧ TXo w.heap.size x.1 W ∧ 4 * pre.length ≤ len - 4 ∧
      a' = { tmps := #[.slice (some ⟨b, o, none⟩) len cap, undef, .pointer (some ⟨w.heap.size, 0, none⟩), .pointer (some ⟨w.heap.size + 1, 0, none⟩), .pointer (some ⟨w1.heap.size, 0, none⟩), .pointer (some ⟨Be, 0, none⟩), .int .i64 x.2, .bool false, .slice (some ⟨b, o, none⟩) len cap, .int .i64 (len : Int), .bool false, .bool false, .slice (some ⟨b, o, none⟩) len cap, .pointer (some ⟨b, o, none⟩), .int .u8 (y : Int), .int .u8 ((y : Int) / 16), .bool false, .bool false, .slice (some ⟨b, o, none⟩) len cap, .slice (some ⟨w.heap.size + 1 + 1, 0, none⟩) 1 1, .bool true, .bool false, .slice (some ⟨b, o, none⟩) len cap, .slice A4 (len - 4) (cap - 4), .func (.func 40) #[] #[.pointer (some ⟨w1.heap.size + 1, 0, none⟩)], .agg #[.int .u8 x.1.cls, .int .u8 x.1.kind, .slice x.1.A x.1.n x.1.c], .int .i64 x.2, undef, undef, undef, undef, undef, undef, undef, undef], defers := [] }) ?hA ?assign ?body ?done ?stop
  case hI => exact OwnFrom.and (GtI.ownFrom w _ _ (by simp; omega)) (ownFrom_pure _ _)
  case hL => exact ⟨fun s W W' h hb => ⟨(GtI.lets w _ hs1).below _ _ _ h.1 hb, h.2⟩, fun s W v h => ⟨(GtI.lets w _ hs1).set _ _ v h.1, h.2⟩⟩
  case hG => exact fun s W h x hx => h.2 x hx
  case hA =>
    rintro pre x a' _ X Y row ⟨Be, h1, h2, ⟨A9, n9, c9, h4', h5⟩, h6, h7, h3⟩ hg hr
    have hnc : ∀ r, row = some r → ∀ cs t, X.heap[r]? = some (.cells cs t (0, 0)) → False := fun r e cs t hx => by
      obtain ⟨_, o', ho, hc⟩ := hr _ e
      rw [hx] at ho
      cases ho
      cases hc
    refine ⟨Be, h1, ?_, ⟨A9, n9, c9, h4'.kept hg (fun e => hnc _ e.symm _ _ h4'), h5⟩, h6.turn hg hnc, h7, h3⟩
    exact (hg.block Be (Array.getElem?_eq_some_iff.1 h2).1 (fun e => hnc _ e.symm _ _ h2)).trans h2
  case assign =>
    intro l pre x W K hI hx hK
    have HK := Lib.hid hK
    clear hK hI0 hr0 hbx
    obtain ⟨hx0, hx1, hx2, hx3⟩ := hx
    dsimp only [tellsX, Xo.cells]
    gi_wp2
    obtain ⟨v, hv⟩ := hI.1.bx
    obtain ⟨Ao, co, ho, hown⟩ := hI.1.out
    have hlt := hv.lt
    have hg := World.grownBy_alloc W (.cells #[.int .u8 x.1.cls, .int .u8 x.1.kind, .slice x.1.A x.1.n x.1.c] 51) none
    exact HK.out _ _ (KeepsFrom.of_grownBy hg (by simp)) ⟨(Below.refl _ W).alloc hI.1.bel.size _, hg.block _ hlt (by simp)⟩ ⟨hI.1.turn hg (by simp), hI.2⟩ ⟨W.heap.size, hlt, World.alloc_heap_new W _, ⟨_, _, _, ho.alloc _, fun g hg => by have := (hown.lt g hg).2; omega⟩, ⟨hx1, hx2, hx3.alloc _⟩, hx0, rfl⟩
  case body =>
    intro l pre x a' W hl hrec hI hAx
    obtain ⟨Be, hBe, hcell, ⟨A9, n9, c9, ho9, hne9⟩, hxo, hpl, rfl⟩ := hAx
    obtain ⟨Ao, co, ho, hown⟩ := hI.1.out
    have hne : ∀ g, blk Ao co = some g → g ≠ Be := by
      have e := ho.symm.trans ho9
      injection e with e
      injection e with e1
      have e2 := congrArg (·[0]?) e1
      simp at e2
      obtain ⟨rfl, rfl, rfl⟩ := e2
      exact hne9
    clear ho9 hne9
    have hI1 := Lib.hid hI.1
    have hWe := Lib.hid hI.2
    have hO := Lib.hid hown
    have HXO := Lib.hid hxo
    have c5 := ho.cell
    have c2 := hI.1.r2.cell
    have c3 := hI.1.r3.cell
    have f5 := ho.frozen
    have f2 := hI.1.r2.frozen
    have f3 := hI.1.r3.frozen
    clear hown hI hI0 hr0 hbx hxo
    by_cases hx : x.2 = 0
    · obtain ⟨⟨cl, kd, XA, xn, xc, bd⟩, er⟩ := x
      dsimp only at hx
      subst hx
      have d0 : W.cell? ⟨Be, 0, none⟩ = some (.int .u8 cl) := cell_at hcell 0
      have d1 : W.cell? ⟨Be, 1, none⟩ = some (.int .u8 kd) := cell_at hcell 1
      have d2 : W.cell? ⟨Be, 2, none⟩ = some (.slice XA xn xc) := cell_at hcell 2
      dsimp only at hcell ⊢
      gi_wp2_with (gi_at_builtin; refine wpListIn_append_Own rfl _ _ 22 rfl w.heap.size 51 _ 3 32 Try.underlying22 infoXo rfl (by decide) _ _ _ _ rfl (hO.out.alloc _) _ _ 1 1 (Xo.cells ⟨cl, kd, XA, xn, xc, bd⟩) rfl (row_newX W ⟨cl, kd, XA, xn, xc, bd⟩) (by simp [Xo.cells, Value.oneCell']) (by simp only [maxLen]; omega) (by omega) (by have := hI1.out.bel.size; simp; omega) ?_; intro A3 c3 w3 hown3 hg3 _; have hob : ∀ (B : Nat) (t : TypeId) (v : Value), Boxed (W.alloc _) B t v → t ≠ 51 → Boxed w3 B t v := (fun B t v hb ht => hb.kept hg3 (not_blk (hO.out.alloc _) hb ht)); have b5 := hob _ _ _ (ho.alloc _) (by decide); have c5' := b5.cell; have f5' := b5.frozen)
      obtain ⟨k1, k2, k3⟩ := hI1.out.pushed hs1 (⟨cl, kd, XA, xn, xc, bd⟩, 0) HXO.out _ ho hO.out hown3 hg3 (B := w1.heap.size + 1 + 1) (by omega)
      have k4 : ∀ y ∈ pre ++ [((⟨cl, kd, XA, xn, xc, bd⟩ : Xo), (0 : Int))], y.2 = 0 := fun y hy => by
        rcases List.mem_append.1 hy with hy | hy
        · exact hWe.out y hy
        · obtain rfl := List.mem_singleton.1 hy
          rfl
      exact ⟨by simpa using k1, k2, k3, by simpa using k4⟩
    · gi_wp2
      obtain ⟨k1, k2, k3, k5⟩ := set2 hI1.out hs1 (.slice none 0 0) (.int .i64 x.2) (B := w1.heap.size + 1 + 1) (by omega)
      exact ⟨by simpa using k1, pre, x, rfl, hx, k2, k3, k5⟩
  case done =>
    intro D xs W hD hS hI hdef
    clear hI0 hr0 hbx
    have hgD := grownBy_putObj' W D (.deferred none)
    have hD' : w.heap.size ≤ D := by simp at hD; omega
    have hT : Hid (goG (zs.length - 4) [] (zs.drop 4) = (obsOf xs, 0)) := Lib.hid (by unfold SnX at hS; rw [← hS, List.length_drop])
    obtain ⟨A3, c3, ho, hown⟩ := hI.1.out
    have hOw := Lib.hid hown
    have hII := Lib.hid hI.1
    have c5 := ho.cell
    have c2 := hI.1.r2.cell
    have c3' := hI.1.r3.cell
    have f2 := hI.1.r2.frozen
    have f3 := hI.1.r3.frozen
    clear hown hI hS
    gi_wp2
    obtain ⟨k1, k2, k3, k5⟩ := set2 hII.out hs1 (.slice A3 xs.length c3) (.int .i64 0) (B := w1.heap.size + 1 + 1) (by omega)
    have hOw4 := own_box' (own_box' hOw.out hII.out.r2 (by decide) (.slice A3 xs.length c3)) (hII.out.r3.other (by omega) _) (by decide) (.int .i64 0)
    have hOb4 : ∀ x ∈ xs, TXo w.heap.size x.1 ((W.setCell ⟨w.heap.size, 0, none⟩ (.slice A3 xs.length c3)).setCell ⟨w.heap.size + 1, 0, none⟩ (.int .i64 0)) := fun x hx =>
      ⟨(hII.out.obs x hx).cls, (hII.out.obs x hx).kind, own_box' (own_box' (hII.out.obs x hx).own hII.out.r2 (by decide) (.slice A3 xs.length c3)) (hII.out.r3.other (by omega) _) (by decide) (.int .i64 0)⟩
    obtain ⟨W4, hW4⟩ : ∃ W4, W4 = ((W.setCell ⟨w.heap.size, 0, none⟩ (.slice A3 xs.length c3)).setCell ⟨w.heap.size + 1, 0, none⟩ (.int .i64 0)) := ⟨_, rfl⟩
    rw [← hW4] at k1 k2 k3 k5 hOw4 hOb4 ⊢
    have hdef4 : W4.heap[D]? = some (.deferred (some [])) := k1.same D _ (by simpa using hD) hdef rfl
    have hg4 := grownBy_putObj' W4 D (.deferred none)
    have hkill : ∀ {B : Nat} {t : TypeId} {v : Value}, Boxed W4 B t v → some B ≠ some D := fun hb e => by
      cases e
      rw [show W4.heap[_]? = _ from hb] at hdef4
      cases hdef4
    have hnc : ∀ r, some D = some r → ∀ cs t, W4.heap[r]? = some (.cells cs t (0, 0)) → False := fun r e cs t hx => by
      cases e
      rw [hdef4] at hx
      cases hx
    have d2 := (k2.kept hg4 (hkill k2)).cell
    have d3 := (k3.kept hg4 (hkill k3)).cell
    have hb4 := k5.grown hg4 k5.size (fun k e => by cases e; exact hD')
    have ho4 := own_turn hOw4 hg4 hnc
    have hx4 : ∀ x ∈ xs, TXo w.heap.size x.1 _ := fun x hx => (hOb4 x hx).turn hg4 hnc
    refine ⟨by simp, .inl ⟨_, _, rfl, run_takeDeferred hdef4, ?_⟩⟩
    refine ⟨.tuple #[.slice A3 xs.length c3, .int .i64 0], ?_, xs.map (·.1), A3, c3, by rw [hT.out]; simp, by rw [hT.out]; simp [obsOf], by simpa using ho4, ?_, hb4⟩
    · simp [results, Try.f14, go_sem, d2, d3]
    · intro x hx
      obtain ⟨y, hy, rfl⟩ := List.mem_map.1 hx
      exact hx4 y hy
  case stop =>
    intro D c pre W hD hS hI hdef
    clear hI0 hr0 hbx
    have hgD := grownBy_putObj' W D (.deferred none)
    have hD' : w.heap.size ≤ D := by simp at hD; omega
    unfold GtX at hI
    split at hI
    · obtain ⟨p, x, hpre, hx, r2, r3, hbel⟩ := hI
      obtain ⟨p', x', hpre', hSx⟩ := hS
      obtain ⟨rfl, hx'⟩ := List.append_inj' (hpre'.symm.trans hpre) rfl
      simp only [List.cons.injEq, and_true] at hx'
      subst hx'
      have hT : Hid (goG (zs.length - 4) [] (zs.drop 4) = ([], x'.2)) := Lib.hid (by rw [← hSx hx, List.length_drop])
      have hkill : ∀ {B : Nat} {t : TypeId} {v : Value}, Boxed W B t v → some B ≠ some D := fun hb e => by
        cases e
        rw [show W.heap[_]? = _ from hb] at hdef
        cases hdef
      have c2 := (r2.kept hgD (hkill r2)).cell
      have c3 := (r3.kept hgD (hkill r3)).cell
      have hb' := hbel.grown hgD hbel.size (fun k e => by cases e; exact hD')
      clear hx r2 r3 hpre hpre' hSx hs1
      gi_wp2
      refine ⟨by simp, .inl ⟨_, _, rfl, run_takeDeferred hdef, ?_⟩⟩
      refine ⟨.tuple #[.slice none 0 0, .int .i64 x'.2], ?_, [], none, 0, by rw [hT.out]; rfl, by rw [hT.out]; rfl, Own.nil _ _ _ _ _, (by simp), hb'⟩
      simp [results, Try.f14, go_sem, c2, c3]
    · exact hI.elim

theorem get22_any (A : Option Addr) (len cap : Nat) (zs : List UInt8) (w : World) (hr : Row w w.heap.size 1 A len (bv zs)) (hlc : len ≤ cap) (hcm : cap ≤ maxLen) (hmax : len ≤ 1000000000) :
    Calls Try.prog 14 #[.slice A len cap] w fun e w' => ∃ (l : List Xo) (A' : Option Addr) (c' : Nat), e = .returned (.tuple #[.slice A' l.length c', .int .i64 (getG zs).2]) ∧ l.map Xo.ob = (getG zs).1 ∧ Own w' w.heap.size 51 3 A' l.length c' (xos l) ∧ (∀ x ∈ l, TXo w.heap.size x w') ∧ Below w.heap.size w w' := by
  have hz : zs.length = len := by have := hr.1; rw [bv_length] at this; omega
  have bad : ∀ (q : Int), getG zs = ([], q) → Calls Try.prog 14 #[.slice A len cap] w (fun e w' => e = .returned (.tuple #[.slice none 0 0, .int .i64 q]) ∧ Below w.heap.size w w') →
      Calls Try.prog 14 #[.slice A len cap] w fun e w' => ∃ (l : List Xo) (A' : Option Addr) (c' : Nat), e = .returned (.tuple #[.slice A' l.length c', .int .i64 (getG zs).2]) ∧ l.map Xo.ob = (getG zs).1 ∧ Own w' w.heap.size 51 3 A' l.length c' (xos l) ∧ (∀ x ∈ l, TXo w.heap.size x w') ∧ Below w.heap.size w w' := by
    intro q hq h
    refine h.mono ?_
    rintro e w' ⟨rfl, hb⟩
    exact ⟨[], none, 0, by rw [hq]; rfl, by rw [hq]; rfl, Own.nil _ _ _ _ _, (by simp), hb⟩
  by_cases h4 : len < 4
  · exact bad 10 (by unfold getG; rw [if_pos (by omega)]) (get22_short A len cap w h4)
  · by_cases hv : (zs.getD 0 0).toNat / 16 = 2
    · by_cases hs : rawN zs = 65535
      · have hg : getG zs = goG (zs.length - 4) [] (zs.drop 4) := by
          unfold getG
          rw [if_neg (by omega), if_neg (fun h => h hv), if_neg (fun h => h hs)]
        rw [hg]
        exact callsIn_wide.1 (get22_in A len cap zs w hr hlc hcm (by omega) hmax hv hs)
      · exact bad 14 (by unfold getG; rw [if_neg (by omega), if_neg (fun h => h hv), if_pos hs]) (get22_sum A len cap zs w hr hlc hcm (by omega) hmax hv hs)
    · exact bad 12 (by unfold getG; rw [if_neg (by omega), if_pos hv]) (get22_version A len cap zs w hr hlc hcm (by omega) hv)
end Go.Proofs.Ytbabkcdhihmomaa

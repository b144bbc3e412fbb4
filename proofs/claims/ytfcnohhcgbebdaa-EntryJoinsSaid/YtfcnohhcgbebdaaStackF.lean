/- What entry.Stack computes. No condition but sizes. -/
import Derived.Test.YtfcnohhcgbebdaaStI
import Derived.Scope
namespace Go.Proofs.Ytfcnohhcgbebdaa
open Go.RowKit Go.Shelf
set_option linter.unusedVariables false

attribute [local go_sem] Oper.semAt_some

/-- all that came so far went on -/
def Went (pre : List Told) : Prop := pre.length ≤ 16 ∧ ∀ x ∈ pre, x.2 = 0 ∧ x.1.bot = false
/-- how the loop is left -/
def StX (w : World) : Code → List Told → World → Prop
  | .ret, pre, W => ∃ p x, pre = p ++ [x] ∧ Went p ∧ (p.length = 16 ∨ x.2 ≠ 0) ∧ Boxed W w.heap.size 34 (.slice none 0 0) ∧ Boxed W (w.heap.size + 1) 3 (.int .i64 0) ∧ Boxed W (w.heap.size + 1 + 1) 26 (.int .i64 (if p.length = 16 then 11 else x.2)) ∧ Below w.heap.size w W
  | .exit 0, pre, W => ∃ p x, pre = p ++ [x] ∧ Went p ∧ p.length < 16 ∧ x.2 = 0 ∧ x.1.bot = true ∧ StI w pre W
  | _, _, _ => False
theorem StX.ownFrom (w : World) (B : Nat) (hB : w.heap.size ≤ B) (c : Code) : OwnFrom B (StX w c) := by
  intro s X Y row hs hg hr
  have hb : ∀ {B : Nat} {t : TypeId} {v : Value}, Boxed X B t v → Boxed Y B t v := fun hb => hb.kept hg (fun e => by
    obtain ⟨h1, o, ho, hc⟩ := hr _ e.symm
    rw [show X.heap[_]? = _ from hb] at ho
    cases ho
    cases hc)
  unfold StX at hs ⊢
  split at hs
  · obtain ⟨p, x, h1, h2, h3, h4, h5, h6, h7⟩ := hs
    exact ⟨p, x, h1, h2, h3, hb h4, hb h5, hb h6, h7.grown hg h7.size (fun k e => by have := (hr k e).1; omega)⟩
  · obtain ⟨p, x, h1, h2, h3, h4, h5, h6⟩ := hs
    exact ⟨p, x, h1, h2, h3, h4, h5, StI.ownFrom w B hB _ X Y row h6 hg hr⟩
  · exact hs.elim

theorem wpListIn_append_Own {F : Fence} {nF : Nat} {P : Program} {w : World} {ops : Array Oper} {rest : List Oper} {o : Oper} {a : Act} {Q : Exit → Act → World → Prop} (hgd : o.guard = none) (s x : Operand) (t : TypeId)
    (ho : o.op = .call { callee := .builtin .append, args := #[s, x], argTypes := #[t, t] })
    (base : Nat) (e : TypeId) (z : Value) (sz bytes : Nat) (ht : P.underlying t = some (.slice e)) (hinfo : (P.info? e).map (fun i => (i.zero, i.size, i.bytes)) = some (some z, sz, bytes))
    (hzs : z.cells.size = sz) (hsz : 0 < sz)
    (A : Option Addr) (n c : Nat) (xs : List Value) (hs : a.eval s = .slice A n c) (hown : Own w base e sz A n c xs)
    (B : Nat) (X : Option Addr) (m cx : Nat) (news : List Value) (hx : a.eval x = .slice X m cx) (hr : Row w B sz X m news) (h1 : ∀ u ∈ news, u.oneCell' = true)
    (h63 : n + m ≤ maxLen) (hbytes : (n + m) * bytes ≤ 140737488355328) (hbase : base ≤ w.heap.size)
    (h : ∀ A' c' w', Own w' base e sz A' (n + m) c' (xs ++ news) → w.grownBy w' (blk A c) → ((A' = A ∧ c' = c) ∨ ∃ g, A' = some ⟨g, 0, none⟩ ∧ w.heap.size ≤ g) → wpListIn F nF P ops Q rest (a.put o.dst (.slice A' (n + m) c')) w') :
    wpListIn F nF P ops Q (o :: rest) a w := by
  refine wpListIn_plain hgd fun K hK => ?_
  obtain ⟨A', c', w', hrun, h2, h3, h4⟩ := run_append_Own (P := P) w base t o.type e z sz bytes ht hinfo hzs hsz A n c xs hown B X m cx news hr h1 h63 hbytes hbase
  unfold Oper.wpIn
  refine ⟨by simp [Oper.about, ho, resolve, Target.leads, Sem.run_pure], ?_⟩
  rw [Oper.semAt_plain F _ _ (by rw [ho]; intro c hc'; cases hc')]
  simp [execOp, ho, resolve, invoke, builtin, hs, hx, hrun, Result.andThen]
  exact hK _ _ (h _ _ _ h2 h3 h4)

/-- what is no row of entries is not turned by an append to one -/
theorem own_kept {W w3 : World} {base n c : Nat} {A : Option Addr} {xs : List Value} (h : Own W base 23 4 A n c xs) (hg : W.grownBy w3 (blk A c)) : ∀ (B : Nat) (t : TypeId) (v : Value), Boxed W B t v → t ≠ 23 → Boxed w3 B t v := fun B t v hb ht =>
  hb.kept hg (fun e => by
    obtain ⟨cs, hc⟩ := own_cells h B e.symm
    rw [show W.heap[B]? = _ from hb] at hc
    injection hc with hc
    injection hc with _ hc
    exact ht hc)
theorem own_from {W w3 : World} {base n c : Nat} {A : Option Addr} {xs : List Value} (B : Nat) (h : Own W base 23 4 A n c xs) (hg : W.grownBy w3 (blk A c)) : KeepsFrom B W w3 :=
  ⟨hg.size, fun k o _ hk ho => (hg.block k (Array.getElem?_eq_some_iff.1 hk).1 (fun e => by
    obtain ⟨cs, hc⟩ := own_cells h k e.symm
    rw [hk] at hc
    cases hc
    cases ho)).trans hk⟩
theorem own_box {W : World} {base n c B : Nat} {A : Option Addr} {xs : List Value} {t : TypeId} {v : Value} (h : Own W base 23 4 A n c xs) (hb : Boxed W B t v) (ht : t ≠ 23) (u : Value) : Own (W.setCell ⟨B, 0, none⟩ u) base 23 4 A n c xs :=
  h.kept (grownBy_setCell' W B u) (fun g hg e => by
    obtain ⟨cs, hc⟩ := own_cells h g hg
    cases e
    rw [show W.heap[_]? = _ from hb] at hc
    injection hc with hc
    injection hc with _ hc
    exact ht hc)
theorem StI.pushed {w : World} {pre : List Told} {W w3 : World} (h : StI w pre W) (x : Told) (o : Obj) {Ao A3 : Option Addr} {co c3 B : Nat} (ho : Boxed W (w.heap.size + 1 + 1 + 1) 34 (.slice Ao pre.length co))
    (hown : Own W w.heap.size 23 4 Ao pre.length co (evs (pre.map (·.1)))) (hown3 : Own w3 w.heap.size 23 4 A3 (pre.length + 1) c3 (evs (pre.map (·.1)) ++ x.1.cells)) (hg : (W.alloc o).grownBy w3 (blk Ao co)) (hB : w.heap.size + 1 + 1 + 1 < B) :
    KeepsFrom B W (w3.setCell ⟨w.heap.size + 1 + 1 + 1, 0, none⟩ (.slice A3 (pre.length + 1) c3)) ∧ Keeps1 w.heap.size (w.heap.size + 1 + 1 + 1 + 1) W (w3.setCell ⟨w.heap.size + 1 + 1 + 1, 0, none⟩ (.slice A3 (pre.length + 1) c3)) ∧
      StI w (pre ++ [x]) (w3.setCell ⟨w.heap.size + 1 + 1 + 1, 0, none⟩ (.slice A3 (pre.length + 1) c3)) := by
  have hob := own_kept (hown.alloc o) hg
  have b5 := hob _ _ _ (ho.alloc o) (by decide)
  have b2 := hob _ _ _ (h.r2.alloc o) (by decide)
  have b3 := hob _ _ _ (h.r3.alloc o) (by decide)
  have b4 := hob _ _ _ (h.r4.alloc o) (by decide)
  obtain ⟨v, hv⟩ := h.bx
  have bx := hob _ _ _ (hv.alloc o) (by decide)
  have hbl : ∀ k, blk Ao co = some k → w.heap.size ≤ k := fun k hk => (hown.lt k hk).1
  have hs := h.bel.size
  have hW : Below w.heap.size W (w3.setCell ⟨w.heap.size + 1 + 1 + 1, 0, none⟩ (.slice A3 (pre.length + 1) c3)) :=
    (((Below.refl w.heap.size W).alloc hs o).grown hg (by simp; omega) hbl).setCell (p := ⟨w.heap.size + 1 + 1 + 1, 0, none⟩) (by simp only; omega) _
  have hl : (pre ++ [x]).length = pre.length + 1 := by simp
  refine ⟨((KeepsFrom.of_grownBy (World.grownBy_alloc W o none) (by simp)).trans (own_from B (hown.alloc o) hg)).trans (KeepsFrom.of_grownBy (grownBy_setCell' _ _ _) (by rintro j ⟨⟩; exact hB)), ⟨hW, (show _ = _ from (bx.other (by omega) _).trans hv.symm)⟩,
    ⟨A3, c3, by rw [hl]; exact b5.set _, ?_⟩, b2.other (by omega) _, b3.other (by omega) _, b4.other (by omega) _, ⟨v, bx.other (by omega) _⟩, h.bel.trans hW⟩
  rw [hl, show evs ((pre ++ [x]).map (·.1)) = evs (pre.map (·.1)) ++ x.1.cells by rw [List.map_append, evs_append]; simp [evs]]
  refine hown3.kept (grownBy_setCell' w3 _ _) (fun g' hg' e => ?_)
  obtain ⟨cs, hc⟩ := own_cells hown3 g' hg'
  cases e
  rw [show w3.heap[_]? = _ from b5] at hc
  injection hc with hc
  injection hc with _ hc
  exact absurd hc (by decide)

theorem row_new1 (W : World) (x : Ent) : Row (W.alloc (.cells #[.int .i64 x.label, .int .u8 x.cls, .bool x.bot, .int .u8 x.ttl] 23)) (W.heap.size + 1) 4 (some ⟨W.heap.size, 0, none⟩) 1 x.cells :=
  Row.new (n := 1) (sz := 4) W _ rfl
/-- the three results, stored -/
theorem set3 {w W : World} {pre : List Told} (h : StI w pre W) (v2 v3 v4 : Value) {B : Nat} (hB : w.heap.size + 1 + 1 < B) :
    KeepsFrom B W (((W.setCell ⟨w.heap.size, 0, none⟩ v2).setCell ⟨w.heap.size + 1, 0, none⟩ v3).setCell ⟨w.heap.size + 1 + 1, 0, none⟩ v4) ∧
      Boxed (((W.setCell ⟨w.heap.size, 0, none⟩ v2).setCell ⟨w.heap.size + 1, 0, none⟩ v3).setCell ⟨w.heap.size + 1 + 1, 0, none⟩ v4) w.heap.size 34 v2 ∧
      Boxed (((W.setCell ⟨w.heap.size, 0, none⟩ v2).setCell ⟨w.heap.size + 1, 0, none⟩ v3).setCell ⟨w.heap.size + 1 + 1, 0, none⟩ v4) (w.heap.size + 1) 3 v3 ∧
      Boxed (((W.setCell ⟨w.heap.size, 0, none⟩ v2).setCell ⟨w.heap.size + 1, 0, none⟩ v3).setCell ⟨w.heap.size + 1 + 1, 0, none⟩ v4) (w.heap.size + 1 + 1) 26 v4 ∧
      Below w.heap.size w (((W.setCell ⟨w.heap.size, 0, none⟩ v2).setCell ⟨w.heap.size + 1, 0, none⟩ v3).setCell ⟨w.heap.size + 1 + 1, 0, none⟩ v4) := by
  refine ⟨((KeepsFrom.of_grownBy (grownBy_setCell' W _ _) (by rintro j ⟨⟩; omega)).trans (KeepsFrom.of_grownBy (grownBy_setCell' _ _ _) (by rintro j ⟨⟩; omega))).trans (KeepsFrom.of_grownBy (grownBy_setCell' _ _ _) (by rintro j ⟨⟩; omega)),
    ((h.r2.set v2).other (by omega) _).other (by omega) _, ((h.r3.other (by omega) v2).set v3).other (by omega) _, ((h.r4.other (by omega) v2).other (by omega) v3).set v4,
    ((h.bel.setCell (p := ⟨_, 0, none⟩) (Nat.le_refl _) v2).setCell (p := ⟨_, 0, none⟩) (by simp only; omega) v3).setCell (p := ⟨_, 0, none⟩) (by simp only; omega) v4⟩

set_option maxRecDepth 100000 in
set_option maxHeartbeats 2000000 in
theorem stack_in (A : Option Addr) (len cap : Nat) (zs : List UInt8) (hlen : len ≤ 1099511627776) (hlc : len ≤ cap) (hcm : cap ≤ maxLen) (w : World) (hr : Row w w.heap.size 1 A len (bv zs)) :
    CallsIn Fence.wide 3 Try.prog 13 #[.slice A len cap] w fun e w' => ∃ A c, e = .returned (.tuple #[.slice A (stackF zs 16 0).1.length c, .int .i64 (stackF zs 16 0).2.1, .int .i64 (stackF zs 16 0).2.2]) ∧ Own w' w.heap.size 23 4 A (stackF zs 16 0).1.length c (evs (stackF zs 16 0).1) ∧ Below w.heap.size w w' := by
  obtain ⟨i0, hi, hz0, hz1, hz2⟩ := info_parts infoEntry
  refine callsIn_of_wp_marks Try.func13 rfl trivial ?_ rfl
  simp only [Try.ntmps13, List.size_toArray, List.length_cons, List.length_nil, Nat.reduceAdd, Nat.reduceSub, Array.replicate_succ, Array.replicate_zero, List.push_toArray, List.append_toArray, List.nil_append, List.cons_append]
  gi_wp2
  rw [wpIn_wide]
  refine wp_scope_straight ?_
  rw [← wpIn_wide (n := 3)]
  gi_wp2
  rw [wpIn_wide]
  refine wp_label ?_
  gi_wp2_with (refine ⟨trivial, ?_⟩; gi_at_call 24; refine (callsIn_wide.2 (each_any A len cap _)).mono ?_; rintro e w' ⟨rfl, rfl⟩)
  have hI0 : StI w [] (((((w.alloc (.cells #[.slice none 0 0] 34)).alloc (.cells #[.int .i64 0] 3)).alloc (.cells #[.int .i64 0] 26)).alloc (.cells #[.slice none 0 0] 34)).alloc (.cells #[.slice A len cap] 24)) := by
    have b2 := Boxed.new w 34 (.slice none 0 0)
    have b3 := Boxed.new (w.alloc (.cells #[.slice none 0 0] 34)) 3 (.int .i64 0)
    have b4 := Boxed.new ((w.alloc (.cells #[.slice none 0 0] 34)).alloc (.cells #[.int .i64 0] 3)) 26 (.int .i64 0)
    have b5 := Boxed.new (((w.alloc (.cells #[.slice none 0 0] 34)).alloc (.cells #[.int .i64 0] 3)).alloc (.cells #[.int .i64 0] 26)) 34 (.slice none 0 0)
    have b6 := Boxed.new ((((w.alloc (.cells #[.slice none 0 0] 34)).alloc (.cells #[.int .i64 0] 3)).alloc (.cells #[.int .i64 0] 26)).alloc (.cells #[.slice none 0 0] 34)) 24 (.slice A len cap)
    simp only [World.size_alloc] at b3 b4 b5 b6
    exact ⟨⟨none, 0, b5.alloc _, Own.nil _ _ _ _ _⟩, (((b2.alloc _).alloc _).alloc _).alloc _, ((b3.alloc _).alloc _).alloc _, (b4.alloc _).alloc _, ⟨_, b6⟩,
      (((((Below.refl _ w).alloc (Nat.le_refl _) _).alloc (by simp) _).alloc (by simp; omega) _).alloc (by simp; omega) _).alloc (by simp; omega) _⟩
  have hr0 := hr.below hI0.bel
  have hbx := Boxed.new ((((w.alloc (.cells #[.slice none 0 0] 34)).alloc (.cells #[.int .i64 0] 3)).alloc (.cells #[.int .i64 0] 26)).alloc (.cells #[.slice none 0 0] 34)) 24 (.slice A len cap)
  simp only [World.size_alloc] at hbx
  refine rangeC (Bx := w.heap.size + 1 + 1 + 1 + 1) (Kp := Keeps1 w.heap.size (w.heap.size + 1 + 1 + 1 + 1)) (ok := fun x => x.2 = 0) rfl (by omega) (gf := 30) (lb := #[.pointer (some ⟨w.heap.size + 1 + 1 + 1 + 1, 0, none⟩)]) rfl trivial (enters_of Try.func30 (by kernel_rfl) rfl)
    (each1_ends (w.heap.size + 1 + 1 + 1 + 1) w.heap.size A len cap zs hlen hlc hcm (3 - 1) (by omega) _ (by simp) hbx (by omega) hr0) (by simp) Keeps1.trans (keeps1_b (by simp; omega) (by simp)) (Below.refl _ _) (fun _ => rfl)
    (fun pre W => StI w pre W ∧ Went pre) (StX w) ?hI (fun c => StX.ownFrom w _ (by simp; omega) c) ?hL ?hG ⟨hI0, by simp, by simp⟩
    (fun x a' W => ∃ Be, w.heap.size + 1 + 1 + 1 + 1 < Be ∧ W.heap[Be]? = some (.cells #[.int .i64 x.1.label, .int .u8 x.1.cls, .bool x.1.bot, .int .u8 x.1.ttl] 23 (0, 0)) ∧
      (∃ A9 n9 c9, Boxed W (w.heap.size + 1 + 1 + 1) 34 (.slice A9 n9 c9) ∧ ∀ g, blk A9 c9 = some g → g ≠ Be) ∧
      a' = { tmps := #[.slice A len cap, undef, .pointer (some ⟨w.heap.size, 0, none⟩), .pointer (some ⟨w.heap.size + 1, 0, none⟩), .pointer (some ⟨w.heap.size + 1 + 1, 0, none⟩), .pointer (some ⟨w.heap.size + 1 + 1 + 1, 0, none⟩), .pointer (some ⟨Be, 0, none⟩), .int .i64 x.2, .slice A len cap, .func (.func 30) #[] #[.pointer (some ⟨w.heap.size + 1 + 1 + 1 + 1, 0, none⟩)], .agg #[.int .i64 x.1.label, .int .u8 x.1.cls, .bool x.1.bot, .int .u8 x.1.ttl], .int .i64 x.2, undef, undef, undef, undef, undef, undef, undef, undef, undef, undef, undef, undef, undef, undef, undef, undef, undef, undef], defers := [] }) ?hA ?assign ?body ?stop
  case hI => exact OwnFrom.and (StI.ownFrom w _ (by simp; omega)) (ownFrom_pure _ _)
  case hL => exact ⟨fun s W W' h hb => ⟨(StI.lets w).below _ _ _ h.1 hb, h.2⟩, fun s W v h => ⟨(StI.lets w).set _ _ v h.1, h.2⟩⟩
  case hG => exact fun s W h x hx => (h.2.2 x hx).1
  case hA =>
    rintro x a' _ X Y row ⟨Be, h1, h2, ⟨A9, n9, c9, h4, h5⟩, h3⟩ hg hr
    refine ⟨Be, h1, ?_, ⟨A9, n9, c9, h4.kept hg (fun e => ?_), h5⟩, h3⟩
    rotate_left
    · obtain ⟨_, o, ho, hc⟩ := hr _ e.symm
      rw [show X.heap[_]? = _ from h4] at ho
      cases ho
      cases hc
    refine (hg.block Be (Array.getElem?_eq_some_iff.1 h2).1 (fun e => ?_)).trans h2
    obtain ⟨_, o, ho, hc⟩ := hr _ e.symm
    rw [h2] at ho
    cases ho
    cases hc
  case assign =>
    intro l pre x W K hI hK
    have HK := Lib.hid hK
    clear hK hI0 hr0 hbx
    dsimp only [tells]
    gi_wp2
    obtain ⟨v, hv⟩ := hI.1.bx
    obtain ⟨Ao, co, ho, hown⟩ := hI.1.out
    have hlt := hv.lt
    have hg := World.grownBy_alloc W (.cells #[.int .i64 x.1.label, .int .u8 x.1.cls, .bool x.1.bot, .int .u8 x.1.ttl] 23) none
    exact HK.out _ _ (KeepsFrom.of_grownBy hg (by simp)) ⟨(Below.refl _ W).alloc hI.1.bel.size _, hg.block _ hlt (by simp)⟩ ⟨hI.1.turn hg (by simp), hI.2⟩ ⟨W.heap.size, hlt, World.alloc_heap_new W _, ⟨_, _, _, ho.alloc _, fun g hg => by have := (hown.lt g hg).2; omega⟩, rfl⟩
  case body =>
    intro l pre x a' W hl hrec hI hAx
    obtain ⟨Be, hBe, hcell, ⟨A9, n9, c9, ho9, hne9⟩, rfl⟩ := hAx
    obtain ⟨Ao, co, ho, hown⟩ := hI.1.out
    have hne : ∀ g, blk Ao co = some g → g ≠ Be := by
      have e := ho.symm.trans ho9
      injection e with e
      injection e with e1
      have e2 := congrArg (·[0]?) e1
      simp at e2
      obtain ⟨rfl, rfl, rfl⟩ := e2
      exact hne9
    clear ho9 hne9
    have hI1 := Lib.hid hI.1
    have hWe := Lib.hid hI.2
    have hO := Lib.hid hown
    have c5 := ho.cell
    have c2 := hI.1.r2.cell
    have c3 := hI.1.r3.cell
    have c4 := hI.1.r4.cell
    have f5 := ho.frozen
    have f2 := hI.1.r2.frozen
    have f3 := hI.1.r3.frozen
    have f4 := hI.1.r4.frozen
    clear hown hI hI0 hr0 hbx
    by_cases h16 : pre.length = 16
    · have h16i : (pre.length : Int) = 16 := by omega
      gi_wp2
      obtain ⟨k1, k2, k3, k4, k5⟩ := set3 hI1.out (.slice none 0 0) (.int .i64 0) (.int .i64 11) (B := w.heap.size + 1 + 1 + 1 + 1 + 1) (by omega)
      refine ⟨by simpa using k1, pre, x, rfl, hWe.out, .inl h16, k2, k3, by rw [if_pos h16]; exact k4, k5⟩
    · have h16i : ¬ (pre.length : Int) = 16 := by omega
      by_cases hx : x.2 = 0
      · obtain ⟨⟨lb, cl, bt, tt⟩, er⟩ := x
        dsimp only at hx
        subst hx
        have hle16 := hWe.out.1
        have d0 : W.cell? ⟨Be, 0, none⟩ = some (.int .i64 lb) := cell_at hcell 0
        have d1 : W.cell? ⟨Be, 1, none⟩ = some (.int .u8 cl) := cell_at hcell 1
        have d2 : W.cell? ⟨Be, 2, none⟩ = some (.bool bt) := cell_at hcell 2
        have d3 : W.cell? ⟨Be, 3, none⟩ = some (.int .u8 tt) := cell_at hcell 3
        dsimp only at hcell ⊢
        cases bt
        · gi_wp2_with (gi_at_builtin; refine wpListIn_append_Own rfl _ _ 34 rfl w.heap.size 23 _ 4 16 Try.underlying34 infoEntry rfl (by decide) _ _ _ _ rfl (hO.out.alloc _) _ _ 1 1 (Ent.cells ⟨lb, cl, false, tt⟩) rfl (row_new1 W ⟨lb, cl, false, tt⟩) (by simp [Ent.cells, Value.oneCell']) (by simp only [maxLen]; omega) (by omega) (by have := hI1.out.bel.size; simp; omega) ?_; intro A3 c3 w3 hown3 hg3 _; have hob := own_kept (hO.out.alloc _) hg3; have b5 := hob _ _ _ (ho.alloc _) (by decide); have c5' := b5.cell; have f5' := b5.frozen; have hB3 := (hg3.block Be (by simp; exact Nat.lt_succ_of_lt (Array.getElem?_eq_some_iff.1 hcell).1) (fun e => hne Be e.symm rfl)).trans ((Below.heap_alloc W _ Be (Array.getElem?_eq_some_iff.1 hcell).1).trans hcell); have d2s : ∀ v, (w3.setCell ⟨w.heap.size + 1 + 1 + 1, 0, none⟩ v).cell? ⟨Be, 2, none⟩ = some (.bool false) := fun v => (World.cell?_setCell_other _ _ _ _ (fun e => by injection e with e; omega)).trans (cell_at hB3 2))
          obtain ⟨k1, k2, k3⟩ := hI1.out.pushed (⟨lb, cl, false, tt⟩, 0) _ ho hO.out hown3 hg3 (B := w.heap.size + 1 + 1 + 1 + 1 + 1) (by omega)
          exact ⟨by simpa using k1, k2, k3, by simp; omega, fun y hy => by
            rcases List.mem_append.1 hy with hy | hy
            · exact hWe.out.2 y hy
            · obtain rfl := List.mem_singleton.1 hy
              exact ⟨rfl, rfl⟩⟩
        · gi_wp2_with (gi_at_builtin; refine wpListIn_append_Own rfl _ _ 34 rfl w.heap.size 23 _ 4 16 Try.underlying34 infoEntry rfl (by decide) _ _ _ _ rfl (hO.out.alloc _) _ _ 1 1 (Ent.cells ⟨lb, cl, true, tt⟩) rfl (row_new1 W ⟨lb, cl, true, tt⟩) (by simp [Ent.cells, Value.oneCell']) (by simp only [maxLen]; omega) (by omega) (by have := hI1.out.bel.size; simp; omega) ?_; intro A3 c3 w3 hown3 hg3 _; have hob := own_kept (hO.out.alloc _) hg3; have b5 := hob _ _ _ (ho.alloc _) (by decide); have c5' := b5.cell; have f5' := b5.frozen; have hB3 := (hg3.block Be (by simp; exact Nat.lt_succ_of_lt (Array.getElem?_eq_some_iff.1 hcell).1) (fun e => hne Be e.symm rfl)).trans ((Below.heap_alloc W _ Be (Array.getElem?_eq_some_iff.1 hcell).1).trans hcell); have d2s : ∀ v, (w3.setCell ⟨w.heap.size + 1 + 1 + 1, 0, none⟩ v).cell? ⟨Be, 2, none⟩ = some (.bool true) := fun v => (World.cell?_setCell_other _ _ _ _ (fun e => by injection e with e; omega)).trans (cell_at hB3 2))
          obtain ⟨k1, k2, k3⟩ := hI1.out.pushed (⟨lb, cl, true, tt⟩, 0) _ ho hO.out hown3 hg3 (B := w.heap.size + 1 + 1 + 1 + 1 + 1) (by omega)
          exact ⟨by simpa using k1, pre, _, rfl, hWe.out, by omega, rfl, rfl, k3⟩
      · gi_wp2
        obtain ⟨k1, k2, k3, k4, k5⟩ := set3 hI1.out (.slice none 0 0) (.int .i64 0) (.int .i64 x.2) (B := w.heap.size + 1 + 1 + 1 + 1 + 1) (by omega)
        refine ⟨by simpa using k1, pre, x, rfl, hWe.out, .inr hx, k2, k3, by rw [if_neg h16]; exact k4, k5⟩
  case stop =>
    intro D c pre W hD hS hI hdef
    clear hI0 hr0 hbx
    have hgD := grownBy_putObj' W D (.deferred none)
    have hD' : w.heap.size ≤ D := by simp at hD; omega
    obtain ⟨k, hk⟩ := hS
    rw [tolds_succ] at hk
    unfold StX at hI
    split at hI
    · obtain ⟨p, x, hpre, hw, hor, r2, r3, r4, hbel⟩ := hI
      obtain ⟨rfl, hx⟩ := List.append_inj' (hk.symm.trans hpre) rfl
      simp only [List.cons.injEq, and_true] at hx
      subst hx
      have hkl : (tolds zs k).length = k := tolds_length zs k
      rw [hkl] at hor r4
      have hk16 : k ≤ 16 := by have := hw.1; omega
      have hF : stackF zs 16 0 = ([], 0, if k = 16 then 11 else (toldAt zs k).2) := by
        rw [stackF_go zs k hk16 hw.2]
        by_cases h : k = 16
        · subst h; rfl
        · rw [stackF_step zs k (by omega), if_neg h]
          have h2 : (toldAt zs k).2 ≠ 0 := by rcases hor with h' | h'; exact absurd h' h; exact h'
          simp only [toldAt, unpN] at h2 ⊢
          split at h2
          · rename_i h4
            rw [if_pos h4, if_pos h4]
          · exact absurd rfl h2
      have hT := Lib.hid hF
      have hkill : ∀ {B : Nat} {t : TypeId} {v : Value}, Boxed W B t v → some B ≠ some D := fun hb e => by
        cases e
        rw [show W.heap[_]? = _ from hb] at hdef
        cases hdef
      have c2 := (r2.kept hgD (hkill r2)).cell
      have c3 := (r3.kept hgD (hkill r3)).cell
      have c4 := (r4.kept hgD (hkill r4)).cell
      have hb' := hbel.grown hgD hbel.size (fun k e => by cases e; exact hD')
      clear hw hor r2 r3 r4 hk hpre
      gi_wp2
      refine ⟨by simp, .inl ⟨_, _, rfl, run_takeDeferred hdef, ?_⟩⟩
      refine ⟨.tuple #[.slice none 0 0, .int .i64 0, .int .i64 (if k = 16 then 11 else (toldAt zs k).2)], ?_, none, 0, by rw [hT.out]; rfl, by rw [hT.out]; exact Own.nil _ _ _ _ _, hb'⟩
      simp [results, Try.f13, go_sem, c2, c3, c4]
    · obtain ⟨p, x, hpre, hw, hlt, hx, hb, hI⟩ := hI
      obtain ⟨rfl, hx'⟩ := List.append_inj' (hk.symm.trans hpre) rfl
      simp only [List.cons.injEq, and_true] at hx'
      subst hx'
      have hkl : (tolds zs k).length = k := tolds_length zs k
      rw [hkl] at hlt
      have hF : stackF zs 16 0 = (outs zs (k + 1), 4 * (k + 1), 0) := by
        rw [stackF_go zs k (by omega) hw.2, stackF_step zs k hlt]
        simp only [toldAt, unpN] at hx hb
        split at hx
        · omega
        · rename_i h4
          rw [if_neg h4, if_pos hb]
      have hT := Lib.hid hF
      obtain ⟨A3, c3, ho, hown⟩ := hI.out
      have hpl : pre.length = k + 1 := by rw [hpre]; simp [hkl]
      have hev : pre.map (·.1) = outs zs (k + 1) := by rw [hk, ← tolds_succ, tolds_fst]
      rw [hpl, hev] at hown
      rw [hpl] at ho
      have hOw := Lib.hid hown
      have hII := Lib.hid hI
      have c5 := ho.cell
      have c2 := hI.r2.cell
      have c3' := hI.r3.cell
      have c4 := hI.r4.cell
      have f2 := hI.r2.frozen
      have f3 := hI.r3.frozen
      have f4 := hI.r4.frozen
      clear hF hown hI hw hk hpre hev hpl
      gi_wp2
      gi_region
      obtain ⟨k1, k2, k3, k4, k5⟩ := set3 hII.out (.slice A3 (k + 1) c3) (.int .i64 (4 * ((k : Int) + 1))) (.int .i64 0) (B := w.heap.size + 1 + 1 + 1 + 1 + 1) (by omega)
      have hOw4 := own_box (own_box (own_box hOw.out hII.out.r2 (by decide) (.slice A3 (k + 1) c3)) (hII.out.r3.other (by omega) _) (by decide) (.int .i64 (4 * ((k : Int) + 1)))) ((hII.out.r4.other (by omega) _).other (by omega) _) (by decide) (.int .i64 0)
      obtain ⟨W4, hW4⟩ : ∃ W4, W4 = (((W.setCell ⟨w.heap.size, 0, none⟩ (.slice A3 (k + 1) c3)).setCell ⟨w.heap.size + 1, 0, none⟩ (.int .i64 (4 * ((k : Int) + 1)))).setCell ⟨w.heap.size + 1 + 1, 0, none⟩ (.int .i64 0)) := ⟨_, rfl⟩
      rw [← hW4] at k1 k2 k3 k4 k5 hOw4 ⊢
      have hdef4 : W4.drew.heap[D]? = some (.deferred (some [])) := k1.same D _ (by simpa using hD) hdef rfl
      have hg4 := grownBy_putObj' W4.drew D (.deferred none)
      have hkill : ∀ {B : Nat} {t : TypeId} {v : Value}, Boxed W4.drew B t v → some B ≠ some D := fun hb e => by
        cases e
        rw [show W4.drew.heap[_]? = _ from hb] at hdef4
        cases hdef4
      have b2 := (show Boxed W4.drew _ _ _ from k2).kept hg4 (hkill k2)
      have b3 := (show Boxed W4.drew _ _ _ from k3).kept hg4 (hkill k3)
      have b4 := (show Boxed W4.drew _ _ _ from k4).kept hg4 (hkill k4)
      have hb4 := (below_drewN k5 1).grown hg4 k5.size (fun k e => by cases e; exact hD')
      have ho4 := (hOw4.drew).kept hg4 (fun g hg e => by
        obtain ⟨cs, hc⟩ := own_cells hOw4 g hg
        cases e
        rw [show W4.heap[D]? = _ from hdef4] at hc
        cases hc)
      have d2 := b2.cell
      have d3 := b3.cell
      have d4 := b4.cell
      clear c2 c3' c4 c5 f2 f3 f4 hW4 k1 k2 k3 k4 k5 hOw4 b2 b3 b4 hkill ho hOw hII hdef hgD
      gi_wp2
      refine ⟨by simp, .inl ⟨_, _, rfl, run_takeDeferred hdef4, ?_⟩⟩
      refine ⟨.tuple #[.slice A3 (k + 1) c3, .int .i64 (4 * ((k : Int) + 1)), .int .i64 0], ?_, A3, c3, by rw [hT.out]; simp [outs_length], by rw [hT.out]; simpa [outs_length] using ho4, hb4⟩
      simp [results, Try.f13, go_sem, d2, d3, d4]
    · exact hI.elim
theorem stack_any (A : Option Addr) (len cap : Nat) (zs : List UInt8) (w : World) (hr : Row w w.heap.size 1 A len (bv zs)) (hlc : len ≤ cap) (hcm : cap ≤ maxLen) (hlen : len ≤ 1099511627776) :
    Calls Try.prog 13 #[.slice A len cap] w fun e w' => ∃ A c, e = .returned (.tuple #[.slice A (stackF zs 16 0).1.length c, .int .i64 (stackF zs 16 0).2.1, .int .i64 (stackF zs 16 0).2.2]) ∧ Own w' w.heap.size 23 4 A (stackF zs 16 0).1.length c (evs (stackF zs 16 0).1) ∧ Below w.heap.size w w' :=
  callsIn_wide.1 (stack_in A len cap zs hlen hlc hcm w hr)
end Go.Proofs.Ytfcnohhcgbebdaa

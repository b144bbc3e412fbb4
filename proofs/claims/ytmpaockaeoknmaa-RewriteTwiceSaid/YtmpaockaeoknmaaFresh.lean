/- What ttl.Fresh computes: the entries of labels that are pushed. No condition but sizes. -/
import Derived.Test.YtmpaockaeoknmaaBackward
import Derived.Deep.AppendLies
namespace Go.Proofs.Ytmpaockaeoknmaa
open Go.RowKit Go.Shelf
set_option linter.unusedVariables false
set_option maxRecDepth 20000

attribute [local go_sem] Oper.semAt_some

/-- an entry of a label stack -/
structure Ent where
  label : Int
  cls : Int
  bot : Bool
  ttl : Int
def Ent.cells (e : Ent) : List Value := [.int .i64 e.label, .int .u8 e.cls, .bool e.bot, .int .u8 e.ttl]
def evs (l : List Ent) : List Value := l.flatMap Ent.cells
theorem evs_length (l : List Ent) : (evs l).length = l.length * 4 := by
  induction l with
  | nil => rfl
  | cons e l ih =>
    have h : evs (e :: l) = e.cells ++ evs l := rfl
    rw [h, List.length_append, ih, List.length_cons, Nat.succ_mul]
    simp [Ent.cells]
    omega
theorem evs_append (a b : List Ent) : evs (a ++ b) = evs a ++ evs b := by simp [evs]
theorem evs_one (l : List Ent) : ∀ u ∈ evs l, u.oneCell' = true := by
  intro u hu
  obtain ⟨e, _, he⟩ := List.mem_flatMap.1 hu
  simp [Ent.cells] at he
  rcases he with rfl | rfl | rfl | rfl <;> rfl

theorem infoEntry : (Try.prog.info? 46).map (fun i => (i.zero, i.size, i.bytes)) = some (some (.agg #[.int .i64 0, .int .u8 0, .bool false, .int .u8 0]), 4, 16) := by kernel_rfl

/-- what stands in the list of the labels that came -/
def freshE (c t : Int) (pre : List (Nat × Int)) : List Ent := pre.map fun x => ⟨x.2, c % 8, false, t⟩
theorem freshE_snoc (c t : Int) (pre : List (Nat × Int)) (x : Nat × Int) : freshE c t (pre ++ [x]) = freshE c t pre ++ [⟨x.2, c % 8, false, t⟩] := by simp [freshE]
theorem freshE_length (c t : Int) (pre : List (Nat × Int)) : (freshE c t pre).length = pre.length := by simp [freshE]
theorem own_of_row {w : World} {base : Nat} {e : TypeId} {sz : Nat} {v : Value} {n : Nat} {xs : List Value} (h : w.ownsRow base e sz v n xs) : ∃ A c, v = .slice A n c ∧ Own w base e sz A n c xs := by
  rcases h.2 with ⟨rfl, rfl⟩ | ⟨g, cap, cur, rfl, hb, hg, hn, hm, hs, ht⟩
  · have : xs = [] := List.eq_nil_of_length_eq_zero (by simpa using h.1)
    subst this
    exact ⟨none, 0, rfl, Own.nil _ _ _ _ _⟩
  · exact ⟨_, _, rfl, h.1, hn, hm, .inr ⟨g, cur, rfl, hb, hg, hs, ht⟩⟩

theorem ownsRow_base {w : World} {base B : Nat} {e : TypeId} {sz : Nat} {v : Value} {n : Nat} {xs : List Value} (h : w.ownsRow base e sz v n xs) (hb : B ≤ base) : w.ownsRow B e sz v n xs := by
  rcases h with ⟨h1, h2 | ⟨g, cap, cur, hv, hg, r⟩⟩
  · exact ⟨h1, .inl h2⟩
  · exact ⟨h1, .inr ⟨g, cap, cur, hv, by omega, r⟩⟩

theorem boxed_step {W w1 : World} {B Bo n₀ : Nat} {t e : TypeId} {sz : Nat} {u v v' : Value} {k : Nat} {xs : List Value} {tmp : Obj} (h : Boxed W B t u) (hte : t ≠ e) (hrow : W.ownsRow n₀ e sz v k xs) (hg : (W.alloc tmp).grownBy w1 v.ownBlock) (hne : B ≠ Bo) : Boxed (w1.setCell ⟨Bo, 0, none⟩ v') B t u :=
  ((h.alloc tmp).kept hg (h.not_row hte hrow)).kept (grownBy_setCell' w1 Bo v') (by simpa using hne)
theorem boxed_own (B : Nat) (t : TypeId) (u : Value) : Go.Own (fun (_ : List (Nat × Int)) W => Boxed W B t u) := by
  rintro s X Y row hv hg hrow
  refine hv.kept hg (fun e' => ?_)
  obtain ⟨o, ho, hc⟩ := hrow B e'.symm
  rw [show X.heap[B]? = _ from hv] at ho; cases ho; cases hc

set_option maxRecDepth 100000 in
set_option maxHeartbeats 2000000 in
theorem fresh_in (F : Fence) (n : Nat) (h3 : F.fn 22) (h5 : F.fn 40) (h7 : F.fn 46) (hro : F.round = none) (hn : 3 ≤ n)
    (A : Option Addr) (len cap : Nat) (zs : List Int) (c t : Int) (hlen : len ≤ 1048576) (hz : zs.length = len) (hc0 : 0 ≤ c) (hc1 : c ≤ 255) (w : World) (hr : Row w w.heap.size 1 A len (nv .i64 zs)) :
    CallsIn F n Try.prog 22 #[.slice A len cap, .int .u8 c, .int .u8 t] w fun e W' => ∃ v, e = .returned v ∧ W'.ownsRow w.heap.size 46 4 v len (evs (freshE c t (back zs))) ∧ Below w.heap.size w W' := by
  have h1 : 1 ≤ n := by omega
  obtain ⟨i0, hi, hz0, hz1, hz2⟩ := info_parts infoEntry
  have HZ := Lib.hid hz
  clear hz
  refine callsIn_of_wp_marks Try.func22 rfl h3 ?_ hro
  simp only [Try.ntmps22, List.size_toArray, List.length_cons, List.length_nil, Nat.reduceAdd, Nat.reduceSub, Array.replicate_succ, Array.replicate_zero, List.push_toArray, List.append_toArray, List.nil_append, List.cons_append]
  gi_wp2_with (gi_at_call 40; refine (backward_in F (n - 1) h5 hro _ _ _ _).mono ?_; rintro e w' ⟨rfl, rfl⟩)
  have bC := Boxed.new w 5 (.int .u8 c)
  have bT := Boxed.new (w.alloc (.cells #[.int .u8 c] 5)) 5 (.int .u8 t)
  have bO := Boxed.new ((w.alloc (.cells #[.int .u8 c] 5)).alloc (.cells #[.int .u8 t] 5)) 22 (.slice none 0 0)
  have bN := Boxed.new (((w.alloc (.cells #[.int .u8 c] 5)).alloc (.cells #[.int .u8 t] 5)).alloc (.cells #[.slice none 0 0] 22)) 23 (.slice A len cap)
  simp only [World.size_alloc] at bC bT bO bN
  have hB0 : Below w.heap.size w ((((w.alloc (.cells #[.int .u8 c] 5)).alloc (.cells #[.int .u8 t] 5)).alloc (.cells #[.slice none 0 0] 22)).alloc (.cells #[.slice A len cap] 23)) := ((((Below.refl _ w).alloc (Nat.le_refl _) _).alloc (by simp) _).alloc (by simp; omega) _).alloc (by simp; omega) _
  have bC2 := (((bC.alloc (.cells #[.int .u8 t] 5)).alloc (.cells #[.slice none 0 0] 22)).alloc (.cells #[.slice A len cap] 23))
  have bT2 := ((bT.alloc (.cells #[.slice none 0 0] 22)).alloc (.cells #[.slice A len cap] 23))
  have bO2 := bO.alloc (.cells #[.slice A len cap] 23)
  have hr2 := hr.below hB0
  clear bC bT bO
  refine wpIn_rangeFunc_ownG hro h1 (gf := 46) (lb := #[.pointer (some ⟨w.heap.size + 1 + 1 + 1, 0, none⟩)]) rfl h7 (enters_of Try.func46 (by kernel_rfl) rfl)
    (backward_stops F (n - 1) h7 hro (by omega) (w.heap.size + 1 + 1 + 1) w.heap.size A len cap zs (by omega) HZ.out _ (by simp) (by simp; omega) bN.cell hr2) Keeps1.trans (keeps1_b (by simp; omega) (by simp)) (Below.refl _ _) (fun _ => rfl)
    (fun pre W => (((∃ v, Boxed W (w.heap.size + 1 + 1) 22 v ∧ W.ownsRow w.heap.size 46 4 v pre.length (evs (freshE c t pre)) ∧ True) ∧ Boxed W w.heap.size 5 (.int .u8 c)) ∧ Boxed W (w.heap.size + 1) 5 (.int .u8 t) ∧ Boxed W (w.heap.size + 1 + 1 + 1) 23 (.slice A len cap)) ∧ Below w.heap.size w W)
    (fun _ _ _ => False)
    (OwnFrom.and (OwnFrom.and (OwnFrom.and (Go.Own.from (holdsRow_own w.heap.size (w.heap.size + 1 + 1) 22 46 4 (fun pre => pre.length) (fun pre => evs (freshE c t pre)) (fun _ _ => True)) _) (Go.Own.from (boxed_own _ _ _) _)) (OwnFrom.and (Go.Own.from (boxed_own _ _ _) _) (Go.Own.from (boxed_own _ _ _) _))) (ownFrom_below (Nat.le_refl _) (by simp; omega)))
    (fun _ _ _ _ _ hs _ _ => hs)
    ⟨⟨⟨⟨_, bO2, World.ownsRow_nil _ _ _ _, trivial⟩, bC2⟩, bT2, bN⟩, hB0⟩
    (fun x => { tmps := #[.slice A len cap, .int .u8 c, .int .u8 t, undef, .pointer (some ⟨w.heap.size, 0, none⟩), .pointer (some ⟨w.heap.size + 1, 0, none⟩), .slice none 0 0, .pointer (some ⟨w.heap.size + 1 + 1, 0, none⟩), undef, .int .i64 x.2, .slice A len cap, .func (.func 46) #[] #[.pointer (some ⟨w.heap.size + 1 + 1 + 1, 0, none⟩)], .int .i64 (x.1 : Int), .int .i64 x.2, undef, undef, undef, undef, undef, undef, undef, undef, undef], defers := [] }) ?assign ?body ?done ?stop
  case assign =>
    intro l x W K hK
    gi_wp2
    exact hK
  case body =>
    rintro l pre x W ⟨⟨⟨⟨v, hv, hrow, _⟩, hc0⟩, ht0, hn0⟩, hB⟩ hlt
    have hcell := hv.cell
    have hcc := hc0.cell
    have hct := ht0.cell
    gi_wp2_with (gi_at_builtin; refine wpListIn_append_own _ rfl _ _ 22 rfl w.heap.size 46 i0 _ 4 16 Try.underlying22 hi hz0 hz1 hz2 rfl (by decide) _ _ _ rfl (hrow.alloc _) ⟨W.heap.size, 0, none⟩ 1 1 (Ent.cells ⟨x.2, c % 8, false, t⟩) rfl rfl (World.news_of_block (cs := #[.int .i64 x.2, .int .u8 (c % 8), .bool false, .int .u8 t]) (t := 46) (fr := (0, 0)) (heap_alloc_new W _)) (by simp [Ent.cells, Value.oneCell']) (by simp only [maxLen]; omega) (by omega) (by have := hB.size; simp; omega) ?_; intro v' w1 hown' hgrow _; obtain ⟨g', cap', rfl⟩ := ownsRow_succ hown'; obtain ⟨hv1, hv2, hr2, hk2, hb2⟩ := hv.appended (by decide) hrow hB.size (show w.heap.size ≤ w.heap.size + 1 + 1 by omega) hown' hgrow; have hc1 := hv1.cell; have hf1 := hv1.frozen)
    have hn2 : Boxed (w1.setCell ⟨w.heap.size + 1 + 1, 0, none⟩ (.slice (some ⟨g', 0, none⟩) (pre.length + 1) cap')) (w.heap.size + 1 + 1 + 1) 23 (.slice A len cap) := boxed_step hn0 (by decide) hrow hgrow (by omega)
    refine ⟨hk2.from _, ⟨hb2, hn2.cell.trans hn0.cell.symm⟩, ⟨⟨⟨_, hv2, ?_, trivial⟩, boxed_step hc0 (by decide) hrow hgrow (by omega)⟩, boxed_step ht0 (by decide) hrow hgrow (by omega), hn2⟩, hB.trans hb2⟩
    rw [freshE_snoc, evs_append, List.length_append]
    exact hr2
  case done =>
    rintro D ys W hD rfl ⟨⟨⟨⟨v, hv, hrow, _⟩, _⟩, _, _⟩, hB⟩ hK
    have hcell := hv.cell
    gi_wp2
    refine ⟨by simp, .inl ⟨_, _, rfl, run_takeDeferred hK, ?_⟩⟩
    rw [back_length, HZ.out] at hrow
    exact ⟨_, results_tmp rfl _ _ _, v, rfl, ownsRow_putObj hrow _ hK rfl, hB.trans (belowK_b (w := w) (Nat.le_refl _) W D _ _ (by simp at hD; omega) hK rfl rfl)⟩
  case stop =>
    rintro D c pre W _ _ h _
    exact h.elim
theorem back_snd (l : List Int) : (back l).map (·.2) = l.reverse := by
  apply List.ext_getElem
  · simp [back]
  · intro i h1 h2
    simp [back] at h1 ⊢
    rw [List.getElem?_eq_getElem (by omega)]
    rfl
/-- the entries of labels that are pushed -/
def freshL (c t : Int) (l : List Int) : List Ent := l.reverse.map fun x => ⟨x, c % 8, false, t⟩
theorem freshL_back (c t : Int) (l : List Int) : freshE c t (back l) = freshL c t l := by
  unfold freshE freshL
  rw [← back_snd, List.map_map]
  rfl
theorem fresh_any (A : Option Addr) (len cap : Nat) (zs : List Int) (c t : Int) (hlen : len ≤ 1048576) (hc0 : 0 ≤ c) (hc1 : c ≤ 255) (w : World) (hr : Row w w.heap.size 1 A len (nv .i64 zs)) :
    Calls Try.prog 22 #[.slice A len cap, .int .u8 c, .int .u8 t] w fun e w' => ∃ A' c', e = .returned (.slice A' len c') ∧ Own w' w.heap.size 46 4 A' len c' (evs (freshL c t zs)) ∧ Below w.heap.size w w' := by
  have hz : zs.length = len := by have := hr.1; rw [nv_length] at this; omega
  refine ((callsIn_wide (n := 3)).1 (fresh_in Fence.wide 3 trivial trivial trivial rfl (by omega) A len cap zs c t hlen hz hc0 hc1 w hr)).mono ?_
  rintro e w' ⟨v, rfl, hrow, hb⟩
  obtain ⟨A', c', rfl, hown⟩ := own_of_row hrow
  rw [freshL_back] at hown
  exact ⟨A', c', rfl, hown, hb⟩
end Go.Proofs.Ytmpaockaeoknmaa

/- What rewrite.Do computes. No condition but sizes. -/
import Derived.Test.YtmpaockaeoknmaaRw8
import Derived.Test.YtmpaockaeoknmaaHop2
import Derived.Test.YtmpaockaeoknmaaMapII
import Derived.Test.YtmpaockaeoknmaaRw5
namespace Go.Proofs.Ytmpaockaeoknmaa
open Go.RowKit Go.Maps
set_option linter.unusedVariables false
set_option maxRecDepth 20000
set_option linter.unusedSimpArgs false

def finF (x : Ent) (R : List Ent × Int) : List Ent × (Bool × Int × Int) × Int := if R.2 = 0 ∧ R.1.length = 0 then ([], (true, x.ttl, x.cls % 8), 0) else (R.1, (false, 0, 0), R.2)
def opF (x : Ent) (l : List Ent) (m : Hp) : List Ent × Int :=
  if m.op = 0 then outE (pushF ⟨x.label, x.cls, x.bot, x.ttl - 1⟩ (x.ttl - 1) m.l l) else if m.op = 1 then outE (pushF ⟨m.l.headD 0, x.cls, x.bot, x.ttl - 1⟩ (x.ttl - 1) (m.l.drop 1) l) else popF l m.pipe
def doF (l : List Ent) (m : Hp) : List Ent × (Bool × Int × Int) × Int :=
  match l with
  | [] => ([], (false, 0, 0), 1)
  | x :: _ => if m.chk ≠ 0 ∨ m.op = 3 then ([], (false, 0, 0), 54) else if x.ttl < 2 then ([], (false, 0, 0), 56) else finF x (opF x l m)
def leftC (z : Bool × Int × Int) : List Value := [.bool z.1, .int .u8 z.2.1, .int .u8 z.2.2]
theorem oneLeft (z : Bool × Int × Int) : ∀ v ∈ leftC z, v.oneCell' = true := by
  intro v hv
  simp [leftC] at hv
  rcases hv with rfl | rfl | rfl <;> rfl
theorem chk_op (m : Hp) (h : m.chk = 0) : 0 ≤ m.op ∧ m.op ≤ 3 ∧ (m.op = 1 → 0 < m.ln) := by
  unfold Hp.chk chkF at h
  split at h
  · simp at h
  · omega

section
variable {P : Program} {w : World} {o : Oper} {a : Act} {ops : Array Oper} {rest : List Oper} {Q : Exit → Act → World → Prop}
theorem exec_box1 (T : TypeId) (x : Operand) (ho : o.op = .box T x) (v : Value) (hx : a.eval x = v) (hv : v.cells = #[v]) :
    (execOp a.eval o).run P w = .ok (.value (.pointer (some ⟨w.heap.size, 0, none⟩))) (w.alloc (.cells #[v] T)) := by
  unfold execOp
  simp only [ho, hx, Instr.box, Sem.run_bind, newVar, newRow, hv]
  rfl
theorem exec_alloc1 (T : TypeId) (ho : o.op = .alloc T) (v : Value) (hz : ∀ w, (zeroValue T).run P w = .ok v w) (hv : v.cells = #[v]) :
    (execOp a.eval o).run P w = .ok (.value (.pointer (some ⟨w.heap.size, 0, none⟩))) (w.alloc (.cells #[v] T)) := by
  unfold execOp
  simp only [ho, Instr.alloc, Sem.run_bind, hz, Result.andThen_ok, newVar, newRow, hv]
  rfl
theorem wpList_box1 (hgd : Region.wanted o (yielded ops a.tmps) = true) (T : TypeId) (x : Operand) (ho : o.op = .box T x) (v : Value) (hx : a.eval x = v) (hv : v.cells = #[v])
    (h : ∀ w', Blk w' w.heap.size T [v] → Below w.heap.size w w' → w'.heap.size = w.heap.size + 1 → wpList P ops Q rest (a.put o.dst (.pointer (some ⟨w.heap.size, 0, none⟩))) w') : wpList P ops Q (o :: rest) a w :=
  wpList_value hgd (exec_box1 T x ho v hx hv) (h _ (Blk.new w T [v]) (alloc_below w _) (by simp))
theorem wpList_alloc1 (hgd : Region.wanted o (yielded ops a.tmps) = true) (T : TypeId) (ho : o.op = .alloc T) (v : Value) (hz : ∀ w, (zeroValue T).run P w = .ok v w) (hv : v.cells = #[v])
    (h : ∀ w', Blk w' w.heap.size T [v] → Below w.heap.size w w' → w'.heap.size = w.heap.size + 1 → wpList P ops Q rest (a.put o.dst (.pointer (some ⟨w.heap.size, 0, none⟩))) w') : wpList P ops Q (o :: rest) a w :=
  wpList_value hgd (exec_alloc1 T ho v hz hv) (h _ (Blk.new w T [v]) (alloc_below w _) (by simp))
end

section
variable {w : World} {o : Oper} {a : Act} {ops : Array Oper} {rest : List Oper} {Q : Exit → Act → World → Prop}
theorem wpList_store_u8 (hgd : Region.wanted o (yielded ops a.tmps) = true) (x y : Operand) (ho : o.op = .store 5 x y) (g j : Nat) (z : Int) (hx : a.eval x = .pointer (some ⟨g, j, none⟩)) (hy : a.eval y = .int .u8 z) (t : TypeId) (cs : List Value) (u : Value) (hb : Blk w g t cs) (hj : cs[j]? = some u)
    (h : ∀ w', Blk w' g t (cs.set j (.int .u8 z)) → w.grownBy w' (some g) → w'.heap.size = w.heap.size → wpList Try.prog ops Q rest (a.put o.dst undef) w') : wpList Try.prog ops Q (o :: rest) a w :=
  wpList_wanted hgd fun _ hK => wp_skip (w' := w.setCell ⟨g, j, none⟩ (.int .u8 z)) (by
    have hc := (hb.cell j).trans hj
    have hf := hb.frozen j
    unfold execOp
    simp only [ho, hx, hy]
    go_simp) (hK _ _ (h _ (hb.set j _) (grown_setCells g [.int .u8 z] j w w (grown_refl w _)) (by simp)))
theorem wpList_store_fn (hgd : Region.wanted o (yielded ops a.tmps) = true) (x y : Operand) (ho : o.op = .store 54 x y) (g j : Nat) (f : Fn) (p q : Array Value) (hx : a.eval x = .pointer (some ⟨g, j, none⟩)) (hy : a.eval y = .func f p q) (t : TypeId) (cs : List Value) (u : Value) (hb : Blk w g t cs) (hj : cs[j]? = some u)
    (h : ∀ w', Blk w' g t (cs.set j (.func f p q)) → w.grownBy w' (some g) → w'.heap.size = w.heap.size → wpList Try.prog ops Q rest (a.put o.dst undef) w') : wpList Try.prog ops Q (o :: rest) a w :=
  wpList_wanted hgd fun _ hK => wp_skip (w' := w.setCell ⟨g, j, none⟩ (.func f p q)) (by
    have hc := (hb.cell j).trans hj
    have hf := hb.frozen j
    unfold execOp
    simp only [ho, hx, hy]
    go_simp
    rw [run_store _ _ _ _ _ rfl]
    go_simp) (hK _ _ (h _ (hb.set j _) (grown_setCells g [.func f p q] j w w (grown_refl w _)) (by simp)))
end

/-- a map from numbers to functions -/
def heldR (v : Value) : Option (DataW Value × List MemPlace) := some (.held v, [])
def funD (V0 V1 V2 : Value) : DataW Value := (((DataW.map []).put (.int .i64 0) (.held V0)).put (.int .i64 1) (.held V1)).put (.int .i64 2) (.held V2)
theorem funD_0 (V0 V1 V2 : Value) (z : DataW Value) : (funD V0 V1 V2).atKey (.int .i64 0) z = .held V0 := by
  unfold funD
  rw [atKey_put_other (by intro e; injection e with _ e; omega), atKey_put_other (by intro e; injection e with _ e; omega), atKey_put_same isMap_empty (keyLit_int .i64 0)]
theorem funD_1 (V0 V1 V2 : Value) (z : DataW Value) : (funD V0 V1 V2).atKey (.int .i64 1) z = .held V1 := by
  unfold funD
  rw [atKey_put_other (by intro e; injection e with _ e; omega), atKey_put_same (isMap_empty.put _ _) (keyLit_int .i64 1)]
theorem funD_2 (V0 V1 V2 : Value) (z : DataW Value) : (funD V0 V1 V2).atKey (.int .i64 2) z = .held V2 := by
  unfold funD
  rw [atKey_put_same ((isMap_empty.put _ _).put _ _) (keyLit_int .i64 2)]
theorem keyJ (x : Int) (h : (Lit.int .i64 x).wf = true) : keyOf Try.prog 3 (.int .i64 x) = some (.int .i64 x) := Go.Maps.keyOf_int_mk Try.underlying3 h
theorem lawJ : Keyed Try.prog 3 := int_keyed Try.underlying3
theorem wpList_lookup_fn {w : World} {o : Oper} {a : Act} {ops : Array Oper} {rest : List Oper} {Q : Exit → Act → World → Prop} (hg : o.guard = none) (m x : Operand) (t : TypeId) (hop : o.op = Op.lookup t m x false)
    (e : TypeId) (ht : Try.prog.underlying t = some (.map 3 e)) {z : Value} (hz : (zeroValue e).run Try.prog w = .ok z w) (b n : Nat) (D : DataW Value) (V : Value)
    (hm : a.eval m = .map (some b)) (hown : w.ownsMap Try.prog 3 heldR b n D) (i : Int) (hx : a.eval x = .int .i64 i) (hkey : keyOf Try.prog 3 (.int .i64 i) = some (.int .i64 i)) (hV : D.atKey (.int .i64 i) (.held z) = .held V)
    (hK : wpList Try.prog ops Q rest (a.put o.dst V) w) : wpList Try.prog ops Q (o :: rest) a w := by
  refine wpList_plain hg fun K' hK' => ?_
  obtain ⟨v, ps, hrun, hv⟩ := hown.lookup lawJ ht hz (zd := .held z) (zp := []) rfl hkey
  rw [hV] at hv
  have hv2 : v = V := by
    simp only [heldR, Option.some.injEq, Prod.mk.injEq, DataW.held.injEq] at hv
    exact hv.1
  subst hv2
  unfold Oper.wp
  simp [execOp, hop, hm, hx, hrun, Result.andThen]
  exact hK' _ _ hK
theorem zeroLeft (w : World) : (zeroValue 28).run Try.prog w = .ok (.agg (leftC (false, 0, 0)).toArray) w := by kernel_rfl
theorem sizeLeft (z : Bool × Int × Int) : (Try.prog.info? 28).map (·.size) = some (leftC z).length := by show _ = some 3; kernel_rfl
theorem results_mid {P : Program} {fn : Func} {p q u : Tmp} {ty : TypeId} (h : fn.results = #[.tmp p, .cell q ty, .tmp u]) (tmps : Array Value) (w : World) (g : Nat) (cs : List Value) (t : TypeId) (d : TypeDesc) (hp : tmps.getD q undef = .pointer (some ⟨g, 0, none⟩)) (hb : Blk w g t cs)
    (hu : P.underlying ty = some d) (hd : (match d with | .struct _ | .array _ _ => true | _ => false) = true) (hi : (P.info? ty).map (·.size) = some cs.length) : (results fn tmps).run P w = .ok (.tuple #[tmps.getD p undef, .agg cs.toArray, tmps.getD u undef]) w := by
  have hp' : (tmps[q]?).getD undef = .pointer (some ⟨g, 0, none⟩) := by simpa using hp
  simp [results, h, hp', asAddr, run_loadVar_row w g t ty cs.toArray (0, 0) d hb hu hd (by simpa using hi)]
theorem zeroU8 (w : World) : (zeroValue 5).run Try.prog w = .ok (.int .u8 0) w := by kernel_rfl
theorem zeroFT (w : World) : (zeroValue 54).run Try.prog w = .ok .nilFunc w := by kernel_rfl
theorem zeroF0 (w : World) : (zeroValue 55).run Try.prog w = .ok .nilFunc w := by kernel_rfl
theorem and7 (x : Int) (h0 : 0 ≤ x) (h1 : x ≤ 255) : bits .and .u8 x 7 = x % 8 := by
  obtain ⟨v, rfl⟩ : ∃ v : Nat, x = v := ⟨x.toNat, by omega⟩
  have h : ∀ u : Fin 256, bits .and .u8 ((u.val : Nat) : Int) 7 = ((u.val : Nat) : Int) % 8 := by decide
  exact h ⟨v, by omega⟩
theorem row_at {w : World} {B n b o : Nat} {xs : List Value} {u : Value} (h : Row w B 4 (some ⟨b, o, none⟩) n xs) (j : Nat) (hj : xs[j]? = some u) : w.cell? ⟨b, o + j, none⟩ = some u := by
  have hn : 0 < n := by
    rcases Nat.eq_zero_or_pos n with h0 | h0
    · subst h0
      have := h.1
      obtain ⟨hlt, _⟩ := List.getElem?_eq_some_iff.1 hj
      omega
    · exact h0
  obtain ⟨b', o', hA, _, hc⟩ := h.cells hn
  injection hA with hA
  injection hA with h1 h2
  subst h1 h2
  exact hc j u hj
theorem mapless_grow {w w' : World} {g : Nat} {t : TypeId} {cs : List Value} {b : Nat} (h : Blk w g t cs) (hg : w.grownBy w' (some b)) (hne : g ≠ b) : Blk w' g t cs := h.grown hg (by intro e; injection e with e; exact hne e)

set_option maxHeartbeats 8000000 in
theorem do_any (A : Option Addr) (n c : Nat) (l : List Ent) (m : Hp) (w : World) (h : Row w w.heap.size 4 A n (evs l)) (hc : n ≤ c) (hcm : c ≤ maxLen) (hn : n ≤ 1000000) (hf : ∀ x ∈ l, x.fitR) (hm : m.ok w) :
    Calls Try.prog 8 #[.slice A n c, .agg m.cells.toArray] w fun e w' => ∃ A' c', e = .returned (.tuple #[.slice A' (doF l m).1.length c', .agg (leftC (doF l m).2.1).toArray, .int .i64 (doF l m).2.2]) ∧ Own w' w.heap.size 46 4 A' (doF l m).1.length c' (evs (doF l m).1) ∧ Below w.heap.size w w' := by
  have HM := Lib.hid hm
  have CK := Lib.hid (fun W (h : m.ok W) => check_any m W h)
  obtain ⟨k, hk⟩ : ∃ k, m.chk = k := ⟨_, rfl⟩
  obtain ⟨o, ho⟩ : ∃ o, m.op = o := ⟨_, rfl⟩
  have HC := Lib.hid hk
  have HO := Lib.hid ho
  have hlen := ent_len h
  have HF := Lib.hid hf
  clear hm hk ho hf
  match l, hlen, HF, h with
  | [], hlen, HF, h =>
    obtain rfl : n = 0 := by simpa using hlen.symm
    clear h HF
    go_enter Try.func8, Try.ntmps8
    go_upto_region 1 with (first
      | (refine wpList_box1 (by rfl) 22 _ rfl (.slice A 0 c) rfl rfl ?_; intro w1 hb1 hB1 hs1)
      | (refine wpList_box_blk (by rfl) 25 _ rfl m.cells rfl ?_; intro w2 hb2 hB2 hs2)
      | (refine wpList_alloc_blk (by rfl) 28 rfl (leftC (false, 0, 0)) zeroLeft ?_; intro w3 hb3 hB3 hs3))
    have HL := Lib.hid ((hb1.on hB2).on hB3)
    have HH := Lib.hid (hb2.on hB3)
    have HFI := Lib.hid hb3
    have HW := Lib.hid (hB1.trans ((hB2.trans (hB3.mono (by omega))).mono (by omega)))
    rw [hs1] at HH
    rw [hs2, hs1] at HFI
    obtain ⟨gl, hgl⟩ : ∃ g, w.heap.size = g := ⟨_, rfl⟩
    obtain ⟨gh, hgh⟩ : ∃ g, gl + 1 = g := ⟨_, rfl⟩
    obtain ⟨gf, hgf⟩ : ∃ g, gh + 1 = g := ⟨_, rfl⟩
    rw [hgl] at HL HH HFI
    rw [hgh] at HH HFI
    rw [hgf] at HFI
    have HGL := Lib.hid (show w.heap.size = gl ∧ gl + 1 = gh ∧ gh + 1 = gf ∧ w3.heap.size = gf + 1 from ⟨hgl, hgh, hgf, by omega⟩)
    first | rw [hgl, hgh, hgf] | rw [hgh, hgf] | (rw [hgl, hgh])
    clear hb1 hB1 hs1 hb2 hB2 hs2 hb3 hB3 hs3 hgl hgh hgf
    have d0 : w3.cell? ⟨gl, 0, none⟩ = some (.slice A 0 c) := HL.out.cell 0
    have HV : Hid (doF [] m = ([], (false, 0, 0), 1)) := Lib.hid (rfl)
    have hbf := HFI.out
    go_wp2_with (refine wpList_store_all (by rfl) 28 _ _ rfl gf (leftC (false, 0, 0)) rfl rfl 28 _ hbf (sizeLeft _) rfl (oneLeft _) ?_; intro wZ hbZ hgZ hsZ)
    have HWZ : Below w.heap.size w wZ := bgrown HW.out hgZ HW.out.size (by have := HGL.out; omega)
    refine bodyPost_ret (results_mid rfl _ _ gf _ _ _ rfl hbZ Try.underlying28 rfl (sizeLeft _)) rfl ?_
    exact ⟨none, 0, by rw [HV.out]; rfl, by rw [HV.out]; exact Own.nil _ _ _ _ _, HWZ⟩
  | x :: r, hlen, HF, h =>
    have hn1 : 1 ≤ n := by simp at hlen; omega
    have e0 : ((n : Int) == 0) = false := by simp; omega
    obtain ⟨b, ob, hA, hb, _, _, _, _⟩ := ent_row h 0 x rfl
    subst hA
    have fa := HF.out x (by simp)
    have HR := Lib.hid h
    have HE0 := Lib.hid e0
    clear h hlen
    go_enter Try.func8, Try.ntmps8
    go_upto_region 1 with (first
      | (refine wpList_box1 (by rfl) 22 _ rfl (.slice (some ⟨b, ob, none⟩) n c) rfl rfl ?_; intro w1 hb1 hB1 hs1)
      | (refine wpList_box_blk (by rfl) 25 _ rfl m.cells rfl ?_; intro w2 hb2 hB2 hs2)
      | (refine wpList_alloc_blk (by rfl) 28 rfl (leftC (false, 0, 0)) zeroLeft ?_; intro w3 hb3 hB3 hs3))
    have HL := Lib.hid ((hb1.on hB2).on hB3)
    have HH := Lib.hid (hb2.on hB3)
    have HFI := Lib.hid hb3
    have HW := Lib.hid (hB1.trans ((hB2.trans (hB3.mono (by omega))).mono (by omega)))
    rw [hs1] at HH
    rw [hs2, hs1] at HFI
    obtain ⟨gl, hgl⟩ : ∃ g, w.heap.size = g := ⟨_, rfl⟩
    obtain ⟨gh, hgh⟩ : ∃ g, gl + 1 = g := ⟨_, rfl⟩
    obtain ⟨gf, hgf⟩ : ∃ g, gh + 1 = g := ⟨_, rfl⟩
    rw [hgl] at HL HH HFI
    rw [hgh] at HH HFI
    rw [hgf] at HFI
    have HGL := Lib.hid (show w.heap.size = gl ∧ gl + 1 = gh ∧ gh + 1 = gf ∧ w3.heap.size = gf + 1 from ⟨hgl, hgh, hgf, by omega⟩)
    first | rw [hgl, hgh, hgf] | rw [hgh, hgf] | (rw [hgl, hgh])
    clear hb1 hB1 hs1 hb2 hB2 hs2 hb3 hB3 hs3 hgl hgh hgf
    have d0 : w3.cell? ⟨gl, 0, none⟩ = some (.slice (some ⟨b, ob, none⟩) n c) := HL.out.cell 0
    have hbh := HH.out
    go_wp2_with (refine wpList_load_blk (by rfl) 25 _ rfl gh rfl 25 _ _ hbh Try.underlying25 rfl (sizeHp m) ?_)
    refine (CK.out w3 (hop_below HM.out HW.out)).mono ?_
    rintro e w4 ⟨rfl, hb4⟩
    rw [HC.out]
    replace HL := Lib.hid (HL.out.on hb4)
    replace HH := Lib.hid (HH.out.on hb4)
    replace HFI := Lib.hid (HFI.out.on hb4)
    have HW4 := Lib.hid hb4.size
    replace HW := Lib.hid (bthen HW.out hb4)
    clear d0 hb4 hbh
    have d0 : w4.cell? ⟨gl, 0, none⟩ = some (.slice (some ⟨b, ob, none⟩) n c) := HL.out.cell 0
    have d1 : w4.cell? ⟨gh, 0, none⟩ = some (.int .i64 o) := (HH.out.cell 0).trans (by show some (Value.int .i64 m.op) = _; rw [HO.out])
    by_cases hk0 : k = 0
    · subst hk0
      have hop := chk_op m HC.out
      rw [HO.out] at hop
      by_cases ho3 : o = 3
      · subst ho3
        have HV : Hid (doF (x :: r) m = ([], (false, 0, 0), 54)) := Lib.hid (by unfold doF; simp only [HC.out, HO.out]; simp)
        have hbf := HFI.out
        go_wp2_with (refine wpList_store_all (by rfl) 28 _ _ rfl gf (leftC (false, 0, 0)) rfl rfl 28 _ hbf (sizeLeft _) rfl (oneLeft _) ?_; intro wZ hbZ hgZ hsZ)
        have HWZ : Below w.heap.size w wZ := bgrown HW.out hgZ HW.out.size (by have := HGL.out; omega)
        refine bodyPost_ret (results_mid rfl _ _ gf _ _ _ rfl hbZ Try.underlying28 rfl (sizeLeft _)) rfl ?_
        exact ⟨none, 0, by rw [HV.out]; rfl, by rw [HV.out]; exact Own.nil _ _ _ _ _, HWZ⟩
      · have ho3' : (o == 3) = false := by simpa using ho3
        have ho2 : 0 ≤ o ∧ o ≤ 2 := by omega
        have HO3 := Lib.hid ho3
        clear ho3
        obtain ⟨b', o', hA', _, q0, q1, q2, q3⟩ := ent_row (HR.out.below HW.out) 0 x rfl
        obtain ⟨rfl, rfl⟩ : b = b' ∧ ob = o' := by injection hA' with hA'; injection hA' with h1 h2; exact ⟨h1, h2⟩
        rw [Nat.zero_mul, Nat.add_zero] at q0 q1 q2 q3
        try clear hA'
        go_upto_region 6 with (first
          | (refine wpList_alloc_blk (by rfl) 46 rfl (Ent.cells ⟨0, 0, false, 0⟩) zeroEnt ?_; intro w5 hb5 hB5 hs5)
          | (refine wpList_store_all (by rfl) 46 _ _ rfl w4.heap.size (Ent.cells x) rfl rfl 46 _ hb5 (sizeEnt _) rfl (oneEnt _) ?_; intro w6 hb6 hg6 hs6))
        have hB6 : Below w4.heap.size w4 w6 := bgrown hB5 hg6 hB5.size (Nat.le_refl _)
        have HS6 := Lib.hid (hs6.trans hs5)
        clear hB5 hs5 hb5 hg6 hs6 d0 d1 q0 q1 q2 q3
        replace HL := Lib.hid (HL.out.on hB6)
        replace HH := Lib.hid (HH.out.on hB6)
        replace HFI := Lib.hid (HFI.out.on hB6)
        replace HW := Lib.hid (bthen HW.out hB6)
        obtain ⟨gt, hgt⟩ : ∃ g, w4.heap.size = g := ⟨_, rfl⟩
        rw [hgt] at hb6 HW4 HS6 ⊢
        have HT := Lib.hid hb6
        clear hB6 hb6 hgt
        have d3 : w6.cell? ⟨gt, 3, none⟩ = some (.int .u8 x.ttl) := HT.out.cell 3
        go_wp2_with fail
        refine (next_any x.ttl fa.ttl.1 fa.ttl.2 w6).mono ?_
        rintro e w7 ⟨rfl, rfl⟩
        by_cases ht2 : x.ttl < 2
        · rw [show decide (¬ x.ttl < 2) = false from decide_eq_false (by omega)]
          go_upto_region 7 with (first
            | (refine wpList_alloc1 (by rfl) 5 rfl (.int .u8 0) zeroU8 rfl ?_; intro w7 hb7 hB7 hs7)
            | (refine wpList_store_u8 (by rfl) _ _ rfl w6.heap.size 0 _ rfl rfl 5 _ _ hb7 rfl ?_; intro w8 hb8 hg8 hs8))
          have hB8 : Below w6.heap.size w6 w8 := bgrown hB7 hg8 hB7.size (Nat.le_refl _)
          have HS8 := Lib.hid (show w8.heap.size = gt + 2 by have := HS6.out; omega)
          clear hB7 hs7 hb7 hg8 hs8 d3
          replace HL := Lib.hid (HL.out.on hB8)
          replace HH := Lib.hid (HH.out.on hB8)
          replace HFI := Lib.hid (HFI.out.on hB8)
          replace HT := Lib.hid (HT.out.on hB8)
          replace HW := Lib.hid (bthen HW.out hB8)
          obtain ⟨g8, hg8⟩ : ∃ g, w6.heap.size = g := ⟨_, rfl⟩
          rw [hg8] at hb8 ⊢
          have HG8 := Lib.hid (show g8 = gt + 1 by have := HS6.out; omega)
          have H8 := Lib.hid hb8
          clear hB8 hg8 hb8
          have HV : Hid (doF (x :: r) m = ([], (false, 0, 0), 56)) := Lib.hid (by unfold doF; simp only [HC.out, HO.out]; simp [HO3.out, ht2])
          have hbf := HFI.out
          go_wp2_with (refine wpList_store_all (by rfl) 28 _ _ rfl gf (leftC (false, 0, 0)) rfl rfl 28 _ hbf (sizeLeft _) rfl (oneLeft _) ?_; intro wZ hbZ hgZ hsZ)
          have HWZ : Below w.heap.size w wZ := bgrown HW.out hgZ HW.out.size (by have := HGL.out; omega)
          refine bodyPost_ret (results_mid rfl _ _ gf _ _ _ rfl hbZ Try.underlying28 rfl (sizeLeft _)) rfl ?_
          exact ⟨none, 0, by rw [HV.out]; rfl, by rw [HV.out]; exact Own.nil _ _ _ _ _, HWZ⟩
        · rw [show decide (¬ x.ttl < 2) = true from decide_eq_true (by omega), show nextF x.ttl = x.ttl - 1 by unfold nextF; rw [if_neg ht2]]
          go_upto_region 7 with (first
            | (refine wpList_alloc1 (by rfl) 5 rfl (.int .u8 0) zeroU8 rfl ?_; intro w7 hb7 hB7 hs7)
            | (refine wpList_store_u8 (by rfl) _ _ rfl w6.heap.size 0 _ rfl rfl 5 _ _ hb7 rfl ?_; intro w8 hb8 hg8 hs8))
          have hB8 : Below w6.heap.size w6 w8 := bgrown hB7 hg8 hB7.size (Nat.le_refl _)
          have HS8 := Lib.hid (show w8.heap.size = gt + 2 by have := HS6.out; omega)
          clear hB7 hs7 hb7 hg8 hs8 d3
          replace HL := Lib.hid (HL.out.on hB8)
          replace HH := Lib.hid (HH.out.on hB8)
          replace HFI := Lib.hid (HFI.out.on hB8)
          replace HT := Lib.hid (HT.out.on hB8)
          replace HW := Lib.hid (bthen HW.out hB8)
          obtain ⟨g8, hg8⟩ : ∃ g, w6.heap.size = g := ⟨_, rfl⟩
          rw [hg8] at hb8 ⊢
          have HG8 := Lib.hid (show g8 = gt + 1 by have := HS6.out; omega)
          have H8 := Lib.hid hb8
          clear hB8 hg8 hb8
          have d8 : w8.cell? ⟨g8, 0, none⟩ = some (.int .u8 (x.ttl - 1)) := H8.out.cell 0
          have ht8 := HT.out
          go_upto_region 10 with (refine wpList_store_u8 (by rfl) _ _ rfl gt 3 _ rfl rfl 46 _ _ ht8 rfl ?_; intro w9 hb9 hg9 hs9)
          replace HL := Lib.hid (mapless_grow HL.out hg9 (by have := HGL.out; have := HW4.out; omega))
          replace HH := Lib.hid (mapless_grow HH.out hg9 (by have := HGL.out; have := HW4.out; omega))
          replace HFI := Lib.hid (mapless_grow HFI.out hg9 (by have := HGL.out; have := HW4.out; omega))
          replace H8 := Lib.hid (mapless_grow H8.out hg9 (by have := HG8.out; omega))
          replace HW := Lib.hid (bgrown HW.out hg9 HW.out.size (by have := HGL.out; have := HW4.out; omega))
          replace HT := Lib.hid (show Blk w9 gt 46 (Ent.cells ⟨x.label, x.cls, x.bot, x.ttl - 1⟩) from hb9)
          have HS9 := Lib.hid (show w9.heap.size = gt + 2 by have := HS8.out; omega)
          clear d8 ht8 hb9 hg9 hs9
          go_upto_region 11 with (first
            | (refine wpList_alloc1 (by rfl) 54 rfl .nilFunc zeroFT rfl ?_; intro w10 hb10 hB10 hs10)
            | (refine wpList_store_fn (by rfl) _ _ rfl w9.heap.size 0 _ _ _ rfl rfl 54 _ _ hb10 rfl ?_; intro w11 hb11 hg11 hs11))
          have hB11 : Below w9.heap.size w9 w11 := bgrown hB10 hg11 hB10.size (Nat.le_refl _)
          have HS11 := Lib.hid (show w11.heap.size = gt + 3 by have := HS9.out; omega)
          replace HL := Lib.hid (HL.out.on hB11)
          replace HH := Lib.hid (HH.out.on hB11)
          replace HFI := Lib.hid (HFI.out.on hB11)
          replace H8 := Lib.hid (H8.out.on hB11)
          replace HT := Lib.hid (HT.out.on hB11)
          replace HW := Lib.hid (bthen HW.out hB11)
          obtain ⟨g10, hg10⟩ : ∃ g, w9.heap.size = g := ⟨_, rfl⟩
          rw [hg10] at hb11 ⊢
          have HG10 := Lib.hid (show g10 = gt + 2 by have := HS9.out; omega)
          have H10 := Lib.hid (show Blk w11 g10 54 [pushV gt g8 gl] from hb11)
          clear hB10 hs10 hb10 hg11 hs11 hb11 hB11 hg10
          have hmap0 := World.ownsMap_made (H := Value) w11 Try.prog 3 heldR
          have hmm := @run_makeMap Try.prog
          go_upto_region 12 with (first
            | (refine wpList_insert_own _ rfl (.tmp 44) (.const (.int .i64 0)) (.tmp 45) 56 rfl 3 55 lawJ Try.underlying56 heldR _ 0 _ rfl hmap0 (by decide) _ _ _ rfl rfl (keyJ 0 (by decide)) _ [] rfl ?_; intro w12 hmap1 hg12)
            | (refine wpList_insert_own _ rfl (.tmp 44) (.const (.int .i64 1)) (.tmp 46) 56 rfl 3 55 lawJ Try.underlying56 heldR _ 1 _ rfl hmap1 (by decide) _ _ _ rfl rfl (keyJ 1 (by decide)) _ [] rfl ?_; intro w13 hmap2 hg13)
            | (refine wpList_insert_own _ rfl (.tmp 44) (.const (.int .i64 2)) (.tmp 47) 56 rfl 3 55 lawJ Try.underlying56 heldR _ 2 _ rfl hmap2 (by decide) _ _ _ rfl rfl (keyJ 2 (by decide)) _ [] rfl ?_; intro w14 hmap3 hg14))
          clear hmm
          have hg15 := (World.grownBy_alloc w11 (.map #[] 0) (some w11.heap.size)).trans ((hg12.trans hg13).trans hg14)
          replace HL := Lib.hid (mapless_grow HL.out hg15 (by have := HGL.out; have := HW4.out; have := HS11.out; omega))
          replace HH := Lib.hid (mapless_grow HH.out hg15 (by have := HGL.out; have := HW4.out; have := HS11.out; omega))
          replace HFI := Lib.hid (mapless_grow HFI.out hg15 (by have := HGL.out; have := HW4.out; have := HS11.out; omega))
          replace H8 := Lib.hid (mapless_grow H8.out hg15 (by have := HG8.out; have := HS11.out; omega))
          replace HT := Lib.hid (mapless_grow HT.out hg15 (by have := HS11.out; omega))
          replace H10 := Lib.hid (mapless_grow H10.out hg15 (by have := HG10.out; have := HS11.out; omega))
          replace HW := Lib.hid (bgrown HW.out hg15 HW.out.size (by have := HGL.out; have := HW4.out; have := HS11.out; omega))
          have HMP := Lib.hid hmap3
          clear hg12 hg13 hg14 hg15 hmap0 hmap1 hmap2 hmap3
          have d0 : w14.cell? ⟨gl, 0, none⟩ = some (.slice (some ⟨b, ob, none⟩) n c) := HL.out.cell 0
          have HD1 := Lib.hid (show w14.cell? ⟨gh, 0, none⟩ = some (.int .i64 o) from (HH.out.cell 0).trans (by show some (Value.int .i64 m.op) = _; rw [HO.out]))
          have HELD := Lib.hid (show Held w14 gt g8 gl g10 gh b ob n c ⟨x.label, x.cls, x.bot, x.ttl - 1⟩ (x.ttl - 1) (x :: r) m from ⟨HT.out, H8.out, HL.out, ⟨_, H10.out⟩, HH.out⟩)
          have hcase : o = 0 ∨ o = 1 ∨ o = 2 := by omega
          have hsm := (chk_small m HC.out).1
          clear d0
          rcases hcase with rfl | rfl | rfl
          · skip
            have P := do2_any gt g8 gl g10 gh b ob n c ⟨x.label, x.cls, x.bot, x.ttl - 1⟩ (x.ttl - 1) (x :: r) m w14 HELD.out (hop_below HM.out HW.out) (by omega) ((HR.out.below HW.out).more HW.out.size) hn1 hc hcm hn fa.cls
            have hdo : doF (x :: r) m = finF x (outE (pushF ⟨x.label, x.cls, x.bot, x.ttl - 1⟩ (x.ttl - 1) m.l (x :: r))) := by unfold doF opF; simp [HC.out, HO.out, HO3.out, ht2]; try (intro h; omega)
            obtain ⟨R, hR⟩ : ∃ R, outE (pushF ⟨x.label, x.cls, x.bot, x.ttl - 1⟩ (x.ttl - 1) m.l (x :: r)) = R := ⟨_, rfl⟩
            rw [hR] at P hdo
            obtain ⟨L, E⟩ := R
            dsimp only at P hdo
            obtain ⟨q, hq⟩ : ∃ q, L.length = q := ⟨_, rfl⟩
            rw [hq] at P
            have HDO := Lib.hid hdo
            have HQ := Lib.hid hq
            have HP := Lib.hid P
            have hmap := HMP.out
            have d1 := HD1.out
            clear P hdo hq hR
            go_wp2_with (refine wpList_lookup_fn rfl _ _ 56 rfl 55 Try.underlying56 (zeroF0 _) _ _ _ _ rfl hmap 0 rfl (keyJ 0 (by decide)) (funD_0 _ _ _ _) ?_)
            refine HP.out.mono ?_
            rintro e w15 ⟨A', c', rfl, hown, hb15⟩
            have hB15 : Below gt w14 w15 := hb15.mono (Nat.le_of_lt HT.out.lt)
            have HOG := Lib.hid (show ∀ z, blk A' c' = some z → gt ≤ z from fun z hz => by have := (hown.lt z hz).1; have h1 := HT.out.lt; omega)
            replace HL := Lib.hid (HL.out.below hB15 (by have := HGL.out; have := HW4.out; omega))
            replace HFI := Lib.hid (HFI.out.below hB15 (by have := HGL.out; have := HW4.out; omega))
            replace HW := Lib.hid (HW.out.trans (hB15.mono (by have := HGL.out; have := HW4.out; omega)))
            have HOWN := Lib.hid (hown.mono (B := w.heap.size) (by have := HGL.out; have := HW4.out; have := HT.out.lt; omega))
            clear hmap d1 hB15 hb15 hown
            by_cases hE : E = 0
            · subst hE
              by_cases hq0 : q = 0
              · subst hq0
                have HV : Hid (doF (x :: r) m = ([], (true, x.ttl, x.cls % 8), 0)) := Lib.hid (by rw [HDO.out]; unfold finF; rw [if_pos ⟨rfl, HQ.out⟩])
                go_upto_region 14 with fail
                have HQL := Lib.hid (show ∀ W, Ext1 gf 28 (leftC (true, x.ttl, x.cls % 8)) w15.drew W → W.cell? ⟨gl, 0, none⟩ = some (.slice (some ⟨b, ob, none⟩) n c) from fun W hX => ((HL.out.drew).grown hX.grown (by intro e; injection e with e; have := HGL.out; omega)).cell 0)
                have HQR := Lib.hid (show ∀ W, Ext1 gf 28 (leftC (true, x.ttl, x.cls % 8)) w15.drew W → Row W w.heap.size 4 (some ⟨b, ob, none⟩) n (evs (x :: r)) from fun W hX => HR.out.below (bgrown (w := w15.drew) (bthen HW.out (below_drew _)) hX.grown (by have := HW.out.size; simpa using this) (by have := HGL.out; omega)))
                have HQ3 := Lib.hid (show ∀ W, Ext1 gf 28 (leftC (true, x.ttl, x.cls % 8)) w15.drew W → W.cell? ⟨b, ob + 3, none⟩ = some (.int .u8 x.ttl) from fun W hX => row_at (HQR.out W hX) 3 rfl)
                have HQ1 := Lib.hid (show ∀ W, Ext1 gf 28 (leftC (true, x.ttl, x.cls % 8)) w15.drew W → W.cell? ⟨b, ob + 1, none⟩ = some (.int .u8 x.cls) from fun W hX => row_at (HQR.out W hX) 1 rfl)
                have AND7 := Lib.hid (and7 x.cls fa.cls.1 fa.cls.2)
                refine wp_region_rel (Ext1 gf 28 (leftC (true, x.ttl, x.cls % 8))) (Ext1.refl gf 28 (leftC (true, x.ttl, x.cls % 8))) (fun A B C h k => h.trans k) (relAt (List.cons (fun v _ => v = .slice (some ⟨b, ob, none⟩) n c) (List.cons (fun v _ => v = .pointer (some ⟨b, ob, none⟩)) (List.cons (fun v _ => v = .pointer (some ⟨b, ob + 3, none⟩)) (List.cons (fun v _ => v = .int .u8 x.ttl) (List.cons (fun v _ => v = .slice (some ⟨b, ob, none⟩) n c) (List.cons (fun v _ => v = .pointer (some ⟨b, ob, none⟩)) (List.cons (fun v _ => v = .pointer (some ⟨b, ob + 1, none⟩)) (List.cons (fun v _ => v = .int .u8 x.cls) (List.cons (fun v _ => v = .int .u8 (x.cls % 8)) (List.cons (fun v _ => v = .agg (leftC (true, x.ttl, x.cls % 8)).toArray) (List.cons (fun v _ => v = .slice none 0 0) (List.cons (fun v W => Blk W gf 28 (leftC (true, x.ttl, x.cls % 8))) (List.cons (fun v _ => v = .int .i64 0) ([]))))))))))))))) (MonoL.at_ (.cons (mono_val _) (.cons (mono_val _) (.cons (mono_val _) (.cons (mono_val _) (.cons (mono_val _) (.cons (mono_val _) (.cons (mono_val _) (.cons (mono_val _) (.cons (mono_val _) (.cons (mono_val _) (.cons (mono_val _) (.cons (fun _ _ _ h k => k.stays h) (.cons (mono_val _) .nil)))))))))))))) (by kernel_rfl) (by kernel_rfl) ⟨?_, ?_, ?_, ?_, ?_, ?_, ?_, ?_, ?_, ?_, ?_, ?_, ?_, trivial⟩ ?_
                · intro a vs W hX hR he hf K hK
                  rw [if_pos (wanted_none rfl)]
                  have e2 : a.eval (.tmp 2) = .pointer (some ⟨gl, 0, none⟩) := hf 2 (by kernel_rfl)
                  have hc : W.cell? ⟨gl, 0, none⟩ = some (.slice (some ⟨b, ob, none⟩) n c) := HQL.out W hX
                  refine wp_value (v := _) ?_ (hK _ _ rfl (Ext1.refl _ _ _ W))
                  simp only [execOp, e2]
                  go_simp
                · intro a vs W hX hR he hf K hK
                  rw [if_pos (wanted_none rfl)]
                  have e64 : a.eval (.tmp 64) = .slice (some ⟨b, ob, none⟩) n c := (he 0 64 (by kernel_rfl) rfl).trans (hR 0 (by kernel_rfl))
                  refine wp_value (v := .pointer (some ⟨b, ob, none⟩)) ?_ (hK _ _ rfl (Ext1.refl _ _ _ W))
                  simp only [execOp, e64]
                  try go_simp
                  try (first | rfl | omega | (simp only [IntKind.wrap_i64, IntKind.wrap_u8, IntKind.wrap_u64, IntKind.wrap_u16, IntKind.wrap_u32]; omega) | (rw [Int.tmod_eq_emod_of_nonneg (by omega)]) | (rw [Int.tmod_eq_emod_of_nonneg (by omega)]; omega))
                · intro a vs W hX hR he hf K hK
                  rw [if_pos (wanted_none rfl)]
                  have e65 : a.eval (.tmp 65) = .pointer (some ⟨b, ob, none⟩) := (he 1 65 (by kernel_rfl) rfl).trans (hR 1 (by kernel_rfl))
                  refine wp_value (v := .pointer (some ⟨b, ob + 3, none⟩)) ?_ (hK _ _ rfl (Ext1.refl _ _ _ W))
                  simp only [execOp, e65]
                  try go_simp
                  try (first | rfl | omega | (simp only [IntKind.wrap_i64, IntKind.wrap_u8, IntKind.wrap_u64, IntKind.wrap_u16, IntKind.wrap_u32]; omega) | (rw [Int.tmod_eq_emod_of_nonneg (by omega)]) | (rw [Int.tmod_eq_emod_of_nonneg (by omega)]; omega))
                · intro a vs W hX hR he hf K hK
                  rw [if_pos (wanted_none rfl)]
                  have e66 : a.eval (.tmp 66) = .pointer (some ⟨b, ob + 3, none⟩) := (he 2 66 (by kernel_rfl) rfl).trans (hR 2 (by kernel_rfl))
                  have hq : W.cell? ⟨b, ob + 3, none⟩ = some (.int .u8 x.ttl) := HQ3.out W hX
                  refine wp_value (v := _) ?_ (hK _ _ rfl (Ext1.refl _ _ _ W))
                  simp only [execOp, e66]
                  go_simp
                · intro a vs W hX hR he hf K hK
                  rw [if_pos (wanted_none rfl)]
                  have e2 : a.eval (.tmp 2) = .pointer (some ⟨gl, 0, none⟩) := hf 2 (by kernel_rfl)
                  have hc : W.cell? ⟨gl, 0, none⟩ = some (.slice (some ⟨b, ob, none⟩) n c) := HQL.out W hX
                  refine wp_value (v := _) ?_ (hK _ _ rfl (Ext1.refl _ _ _ W))
                  simp only [execOp, e2]
                  go_simp
                · intro a vs W hX hR he hf K hK
                  rw [if_pos (wanted_none rfl)]
                  have e68 : a.eval (.tmp 68) = .slice (some ⟨b, ob, none⟩) n c := (he 4 68 (by kernel_rfl) rfl).trans (hR 4 (by kernel_rfl))
                  refine wp_value (v := .pointer (some ⟨b, ob, none⟩)) ?_ (hK _ _ rfl (Ext1.refl _ _ _ W))
                  simp only [execOp, e68]
                  try go_simp
                  try (first | rfl | omega | (simp only [IntKind.wrap_i64, IntKind.wrap_u8, IntKind.wrap_u64, IntKind.wrap_u16, IntKind.wrap_u32]; omega) | (rw [Int.tmod_eq_emod_of_nonneg (by omega)]) | (rw [Int.tmod_eq_emod_of_nonneg (by omega)]; omega))
                · intro a vs W hX hR he hf K hK
                  rw [if_pos (wanted_none rfl)]
                  have e69 : a.eval (.tmp 69) = .pointer (some ⟨b, ob, none⟩) := (he 5 69 (by kernel_rfl) rfl).trans (hR 5 (by kernel_rfl))
                  refine wp_value (v := .pointer (some ⟨b, ob + 1, none⟩)) ?_ (hK _ _ rfl (Ext1.refl _ _ _ W))
                  simp only [execOp, e69]
                  try go_simp
                  try (first | rfl | omega | (simp only [IntKind.wrap_i64, IntKind.wrap_u8, IntKind.wrap_u64, IntKind.wrap_u16, IntKind.wrap_u32]; omega) | (rw [Int.tmod_eq_emod_of_nonneg (by omega)]) | (rw [Int.tmod_eq_emod_of_nonneg (by omega)]; omega))
                · intro a vs W hX hR he hf K hK
                  rw [if_pos (wanted_none rfl)]
                  have e70 : a.eval (.tmp 70) = .pointer (some ⟨b, ob + 1, none⟩) := (he 6 70 (by kernel_rfl) rfl).trans (hR 6 (by kernel_rfl))
                  have hq : W.cell? ⟨b, ob + 1, none⟩ = some (.int .u8 x.cls) := HQ1.out W hX
                  refine wp_value (v := _) ?_ (hK _ _ rfl (Ext1.refl _ _ _ W))
                  simp only [execOp, e70]
                  go_simp
                · intro a vs W hX hR he hf K hK
                  rw [if_pos (wanted_none rfl)]
                  have e71 : a.eval (.tmp 71) = .int .u8 x.cls := (he 7 71 (by kernel_rfl) rfl).trans (hR 7 (by kernel_rfl))
                  refine wp_value (v := _) ?_ (hK _ _ rfl (Ext1.refl _ _ _ W))
                  simp only [execOp, e71]
                  go_simp
                  rw [AND7.out]
                · intro a vs W hX hR he hf K hK
                  rw [if_pos (wanted_none rfl)]
                  have e67 : a.eval (.tmp 67) = .int .u8 x.ttl := (he 3 67 (by kernel_rfl) rfl).trans (hR 3 (by kernel_rfl))
                  have e72 : a.eval (.tmp 72) = .int .u8 (x.cls % 8) := (he 8 72 (by kernel_rfl) rfl).trans (hR 8 (by kernel_rfl))
                  have f67 := e67
                  simp only [Act.eval, Array.getD_eq_getD_getElem?] at f67
                  have f72 := e72
                  simp only [Act.eval, Array.getD_eq_getD_getElem?] at f72
                  refine wp_value (v := _) ?_ (hK _ _ rfl (Ext1.refl _ _ _ W))
                  simp only [execOp, e67, e72]
                  go_simp
                  try rfl
                · intro a vs W hX hR he hf K hK
                  rw [if_pos (wanted_none rfl)]
                  refine wp_value (v := .slice none 0 0) ?_ (hK _ _ rfl (Ext1.refl _ _ _ W))
                  simp only [execOp]
                  try go_simp
                  try (first | rfl | omega | (simp only [IntKind.wrap_i64, IntKind.wrap_u8, IntKind.wrap_u64, IntKind.wrap_u16, IntKind.wrap_u32]; omega) | (rw [Int.tmod_eq_emod_of_nonneg (by omega)]) | (rw [Int.tmod_eq_emod_of_nonneg (by omega)]; omega))
                · intro a vs W hX hR he hf K hK
                  rw [if_pos (wanted_none rfl)]
                  have e5 : a.eval (.tmp 5) = .pointer (some ⟨gf, 0, none⟩) := hf 5 (by kernel_rfl)
                  have e73 : a.eval (.tmp 73) = .agg (leftC (true, x.ttl, x.cls % 8)).toArray := (he 9 73 (by kernel_rfl) rfl).trans (hR 9 (by kernel_rfl))
                  obtain ⟨zs, hz, hbz⟩ := hX.there ⟨leftC (false, 0, 0), rfl, HFI.out.drew⟩
                  refine wp_store_all 28 _ _ rfl gf _ e5 e73 28 zs hbz (sizeLeft _) hz.symm (oneLeft _) ?_
                  intro w' hb' hg' hs'
                  exact hK _ _ hb' (Ext1.store hg' hb')
                · intro a vs W hX hR he hf K hK
                  rw [if_pos (wanted_none rfl)]
                  refine wp_value (v := .int .i64 0) ?_ (hK _ _ rfl (Ext1.refl _ _ _ W))
                  simp only [execOp]
                  try go_simp
                  try (first | rfl | omega | (simp only [IntKind.wrap_i64, IntKind.wrap_u8, IntKind.wrap_u64, IntKind.wrap_u16, IntKind.wrap_u32]; omega) | (rw [Int.tmod_eq_emod_of_nonneg (by omega)]) | (rw [Int.tmod_eq_emod_of_nonneg (by omega)]; omega))
                · intro vs w17 hX17 hR
                  have q0 := hR 0 (by decide)
                  have q1 := hR 1 (by decide)
                  have q2 := hR 2 (by decide)
                  have q3 := hR 3 (by decide)
                  have q4 := hR 4 (by decide)
                  have q5 := hR 5 (by decide)
                  have q6 := hR 6 (by decide)
                  have q7 := hR 7 (by decide)
                  have q8 := hR 8 (by decide)
                  have q9 := hR 9 (by decide)
                  have q10 := hR 10 (by decide)
                  have q11 := hR 11 (by decide)
                  have q12 := hR 12 (by decide)
                  change vs 0 = .slice (some ⟨b, ob, none⟩) n c at q0
                  change vs 1 = .pointer (some ⟨b, ob, none⟩) at q1
                  change vs 2 = .pointer (some ⟨b, ob + 3, none⟩) at q2
                  change vs 3 = .int .u8 x.ttl at q3
                  change vs 4 = .slice (some ⟨b, ob, none⟩) n c at q4
                  change vs 5 = .pointer (some ⟨b, ob, none⟩) at q5
                  change vs 6 = .pointer (some ⟨b, ob + 1, none⟩) at q6
                  change vs 7 = .int .u8 x.cls at q7
                  change vs 8 = .int .u8 (x.cls % 8) at q8
                  change vs 9 = .agg (leftC (true, x.ttl, x.cls % 8)).toArray at q9
                  change vs 10 = .slice none 0 0 at q10
                  change (fun v W => Blk W gf 28 (leftC (true, x.ttl, x.cls % 8))) (vs 11) w17 at q11
                  change vs 12 = .int .i64 0 at q12
                  simp only [putAll, Act.put, List.setIfInBounds_toArray, List.set_cons_zero, List.set_cons_succ, q0, q1, q2, q3, q4, q5, q6, q7, q8, q9, q10, q12]
                  clear q0 q1 q2 q3 q4 q5 q6 q7 q8 q9 q10 q12
                  clear hR
                  go_wp2_with fail
                  have HWZ : Below w.heap.size w w17 := bgrown (w := w15.drew) (bthen HW.out (below_drew _)) hX17.grown (by have := HW.out.size; simpa using this) (by have := HGL.out; omega)
                  refine bodyPost_ret (results_mid rfl _ _ gf _ _ _ rfl q11 Try.underlying28 rfl (sizeLeft _)) rfl ?_
                  exact ⟨none, 0, by rw [HV.out]; rfl, by rw [HV.out]; exact Own.nil _ _ _ _ _, HWZ⟩
              · have e1 : ((q : Int) == 0) = false := by simp; omega
                have HV : Hid (doF (x :: r) m = (L, (false, 0, 0), 0)) := Lib.hid (by rw [HDO.out]; unfold finF; rw [if_neg (by rw [HQ.out]; exact fun h => hq0 h.2)])
                have hbf := HFI.out
                go_wp2_with (refine wpList_store_all (by rfl) 28 _ _ rfl gf (leftC (false, 0, 0)) rfl rfl 28 _ hbf (sizeLeft _) rfl (oneLeft _) ?_; intro wZ hbZ hgZ hsZ)
                have HWZ : Below w.heap.size w wZ := bgrown HW.out hgZ HW.out.size (by have := HGL.out; omega)
                refine bodyPost_ret (results_mid rfl _ _ gf _ _ _ rfl hbZ Try.underlying28 rfl (sizeLeft _)) rfl ?_
                have ho := HOWN.out
                exact ⟨A', c', by rw [HV.out]; simp only [HQ.out]; rfl, by rw [HV.out]; simp only [HQ.out]; exact ho.kept hgZ (fun z hz => by have h1 := HOG.out z hz; have h2 := HGL.out; have h3 := HW4.out; intro e; injection e with e; omega), HWZ⟩
            · have e2 : (E == 0) = false := by simpa using hE
              have HV : Hid (doF (x :: r) m = (L, (false, 0, 0), E)) := Lib.hid (by rw [HDO.out]; unfold finF; rw [if_neg (fun h => hE h.1)])
              have hbf := HFI.out
              go_wp2_with (refine wpList_store_all (by rfl) 28 _ _ rfl gf (leftC (false, 0, 0)) rfl rfl 28 _ hbf (sizeLeft _) rfl (oneLeft _) ?_; intro wZ hbZ hgZ hsZ)
              have HWZ : Below w.heap.size w wZ := bgrown HW.out hgZ HW.out.size (by have := HGL.out; omega)
              refine bodyPost_ret (results_mid rfl _ _ gf _ _ _ rfl hbZ Try.underlying28 rfl (sizeLeft _)) rfl ?_
              have ho := HOWN.out
              exact ⟨A', c', by rw [HV.out]; simp only [HQ.out]; rfl, by rw [HV.out]; simp only [HQ.out]; exact ho.kept hgZ (fun z hz => by have h1 := HOG.out z hz; have h2 := HGL.out; have h3 := HW4.out; intro e; injection e with e; omega), HWZ⟩
          · obtain ⟨z, zs, hz⟩ : ∃ z zs, m.l = z :: zs := by
              have h1 := hop.2.2 rfl
              have h2 := HM.out.lrow.1
              rw [nv_length] at h2
              cases hml : m.l with
              | nil => rw [hml] at h2; simp at h2; omega
              | cons z zs => exact ⟨z, zs, rfl⟩
            have P := do3_any gt gt g8 gl g10 gh b ob n c ⟨x.label, x.cls, x.bot, x.ttl - 1⟩ (x.ttl - 1) z zs (x :: r) m w14 HELD.out (by have := HG8.out; have := HG10.out; have := HGL.out; have := HW4.out; omega) (Nat.le_refl _) ((HM.out.lrow.below HW.out).more (by have := HGL.out; have := HW4.out; omega)) HM.out.lle HM.out.lcap hz (by omega) ((HR.out.below HW.out).more (by have := HGL.out; have := HW4.out; omega)) hn1 hc hcm hn fa.cls
            have hdo : doF (x :: r) m = finF x (outE (pushF ⟨z, x.cls, x.bot, x.ttl - 1⟩ (x.ttl - 1) zs (x :: r))) := by unfold doF opF; simp [HC.out, HO.out, HO3.out, ht2, hz]; try (intro h; omega)
            obtain ⟨R, hR⟩ : ∃ R, outE (pushF ⟨z, x.cls, x.bot, x.ttl - 1⟩ (x.ttl - 1) zs (x :: r)) = R := ⟨_, rfl⟩
            rw [hR] at P hdo
            obtain ⟨L, E⟩ := R
            dsimp only at P hdo
            obtain ⟨q, hq⟩ : ∃ q, L.length = q := ⟨_, rfl⟩
            rw [hq] at P
            have HDO := Lib.hid hdo
            have HQ := Lib.hid hq
            have HP := Lib.hid P
            have hmap := HMP.out
            have d1 := HD1.out
            clear P hdo hq hR
            go_wp2_with (refine wpList_lookup_fn rfl _ _ 56 rfl 55 Try.underlying56 (zeroF0 _) _ _ _ _ rfl hmap 1 rfl (keyJ 1 (by decide)) (funD_1 _ _ _ _) ?_)
            refine HP.out.mono ?_
            rintro e w15 ⟨A', c', rfl, hown, hb15⟩
            have hB15 : Below gt w14 w15 := hb15
            have HOG := Lib.hid (show ∀ z, blk A' c' = some z → gt ≤ z from fun z hz => by have := (hown.lt z hz).1; have h1 := HT.out.lt; omega)
            replace HL := Lib.hid (HL.out.below hB15 (by have := HGL.out; have := HW4.out; omega))
            replace HFI := Lib.hid (HFI.out.below hB15 (by have := HGL.out; have := HW4.out; omega))
            replace HW := Lib.hid (HW.out.trans (hB15.mono (by have := HGL.out; have := HW4.out; omega)))
            have HOWN := Lib.hid (hown.mono (B := w.heap.size) (by have := HGL.out; have := HW4.out; have := HT.out.lt; omega))
            clear hmap d1 hB15 hb15 hown
            by_cases hE : E = 0
            · subst hE
              by_cases hq0 : q = 0
              · subst hq0
                have HV : Hid (doF (x :: r) m = ([], (true, x.ttl, x.cls % 8), 0)) := Lib.hid (by rw [HDO.out]; unfold finF; rw [if_pos ⟨rfl, HQ.out⟩])
                go_upto_region 14 with fail
                have HQL := Lib.hid (show ∀ W, Ext1 gf 28 (leftC (true, x.ttl, x.cls % 8)) w15.drew W → W.cell? ⟨gl, 0, none⟩ = some (.slice (some ⟨b, ob, none⟩) n c) from fun W hX => ((HL.out.drew).grown hX.grown (by intro e; injection e with e; have := HGL.out; omega)).cell 0)
                have HQR := Lib.hid (show ∀ W, Ext1 gf 28 (leftC (true, x.ttl, x.cls % 8)) w15.drew W → Row W w.heap.size 4 (some ⟨b, ob, none⟩) n (evs (x :: r)) from fun W hX => HR.out.below (bgrown (w := w15.drew) (bthen HW.out (below_drew _)) hX.grown (by have := HW.out.size; simpa using this) (by have := HGL.out; omega)))
                have HQ3 := Lib.hid (show ∀ W, Ext1 gf 28 (leftC (true, x.ttl, x.cls % 8)) w15.drew W → W.cell? ⟨b, ob + 3, none⟩ = some (.int .u8 x.ttl) from fun W hX => row_at (HQR.out W hX) 3 rfl)
                have HQ1 := Lib.hid (show ∀ W, Ext1 gf 28 (leftC (true, x.ttl, x.cls % 8)) w15.drew W → W.cell? ⟨b, ob + 1, none⟩ = some (.int .u8 x.cls) from fun W hX => row_at (HQR.out W hX) 1 rfl)
                have AND7 := Lib.hid (and7 x.cls fa.cls.1 fa.cls.2)
                refine wp_region_rel (Ext1 gf 28 (leftC (true, x.ttl, x.cls % 8))) (Ext1.refl gf 28 (leftC (true, x.ttl, x.cls % 8))) (fun A B C h k => h.trans k) (relAt (List.cons (fun v _ => v = .slice (some ⟨b, ob, none⟩) n c) (List.cons (fun v _ => v = .pointer (some ⟨b, ob, none⟩)) (List.cons (fun v _ => v = .pointer (some ⟨b, ob + 3, none⟩)) (List.cons (fun v _ => v = .int .u8 x.ttl) (List.cons (fun v _ => v = .slice (some ⟨b, ob, none⟩) n c) (List.cons (fun v _ => v = .pointer (some ⟨b, ob, none⟩)) (List.cons (fun v _ => v = .pointer (some ⟨b, ob + 1, none⟩)) (List.cons (fun v _ => v = .int .u8 x.cls) (List.cons (fun v _ => v = .int .u8 (x.cls % 8)) (List.cons (fun v _ => v = .agg (leftC (true, x.ttl, x.cls % 8)).toArray) (List.cons (fun v _ => v = .slice none 0 0) (List.cons (fun v W => Blk W gf 28 (leftC (true, x.ttl, x.cls % 8))) (List.cons (fun v _ => v = .int .i64 0) ([]))))))))))))))) (MonoL.at_ (.cons (mono_val _) (.cons (mono_val _) (.cons (mono_val _) (.cons (mono_val _) (.cons (mono_val _) (.cons (mono_val _) (.cons (mono_val _) (.cons (mono_val _) (.cons (mono_val _) (.cons (mono_val _) (.cons (mono_val _) (.cons (fun _ _ _ h k => k.stays h) (.cons (mono_val _) .nil)))))))))))))) (by kernel_rfl) (by kernel_rfl) ⟨?_, ?_, ?_, ?_, ?_, ?_, ?_, ?_, ?_, ?_, ?_, ?_, ?_, trivial⟩ ?_
                · intro a vs W hX hR he hf K hK
                  rw [if_pos (wanted_none rfl)]
                  have e2 : a.eval (.tmp 2) = .pointer (some ⟨gl, 0, none⟩) := hf 2 (by kernel_rfl)
                  have hc : W.cell? ⟨gl, 0, none⟩ = some (.slice (some ⟨b, ob, none⟩) n c) := HQL.out W hX
                  refine wp_value (v := _) ?_ (hK _ _ rfl (Ext1.refl _ _ _ W))
                  simp only [execOp, e2]
                  go_simp
                · intro a vs W hX hR he hf K hK
                  rw [if_pos (wanted_none rfl)]
                  have e64 : a.eval (.tmp 64) = .slice (some ⟨b, ob, none⟩) n c := (he 0 64 (by kernel_rfl) rfl).trans (hR 0 (by kernel_rfl))
                  refine wp_value (v := .pointer (some ⟨b, ob, none⟩)) ?_ (hK _ _ rfl (Ext1.refl _ _ _ W))
                  simp only [execOp, e64]
                  try go_simp
                  try (first | rfl | omega | (simp only [IntKind.wrap_i64, IntKind.wrap_u8, IntKind.wrap_u64, IntKind.wrap_u16, IntKind.wrap_u32]; omega) | (rw [Int.tmod_eq_emod_of_nonneg (by omega)]) | (rw [Int.tmod_eq_emod_of_nonneg (by omega)]; omega))
                · intro a vs W hX hR he hf K hK
                  rw [if_pos (wanted_none rfl)]
                  have e65 : a.eval (.tmp 65) = .pointer (some ⟨b, ob, none⟩) := (he 1 65 (by kernel_rfl) rfl).trans (hR 1 (by kernel_rfl))
                  refine wp_value (v := .pointer (some ⟨b, ob + 3, none⟩)) ?_ (hK _ _ rfl (Ext1.refl _ _ _ W))
                  simp only [execOp, e65]
                  try go_simp
                  try (first | rfl | omega | (simp only [IntKind.wrap_i64, IntKind.wrap_u8, IntKind.wrap_u64, IntKind.wrap_u16, IntKind.wrap_u32]; omega) | (rw [Int.tmod_eq_emod_of_nonneg (by omega)]) | (rw [Int.tmod_eq_emod_of_nonneg (by omega)]; omega))
                · intro a vs W hX hR he hf K hK
                  rw [if_pos (wanted_none rfl)]
                  have e66 : a.eval (.tmp 66) = .pointer (some ⟨b, ob + 3, none⟩) := (he 2 66 (by kernel_rfl) rfl).trans (hR 2 (by kernel_rfl))
                  have hq : W.cell? ⟨b, ob + 3, none⟩ = some (.int .u8 x.ttl) := HQ3.out W hX
                  refine wp_value (v := _) ?_ (hK _ _ rfl (Ext1.refl _ _ _ W))
                  simp only [execOp, e66]
                  go_simp
                · intro a vs W hX hR he hf K hK
                  rw [if_pos (wanted_none rfl)]
                  have e2 : a.eval (.tmp 2) = .pointer (some ⟨gl, 0, none⟩) := hf 2 (by kernel_rfl)
                  have hc : W.cell? ⟨gl, 0, none⟩ = some (.slice (some ⟨b, ob, none⟩) n c) := HQL.out W hX
                  refine wp_value (v := _) ?_ (hK _ _ rfl (Ext1.refl _ _ _ W))
                  simp only [execOp, e2]
                  go_simp
                · intro a vs W hX hR he hf K hK
                  rw [if_pos (wanted_none rfl)]
                  have e68 : a.eval (.tmp 68) = .slice (some ⟨b, ob, none⟩) n c := (he 4 68 (by kernel_rfl) rfl).trans (hR 4 (by kernel_rfl))
                  refine wp_value (v := .pointer (some ⟨b, ob, none⟩)) ?_ (hK _ _ rfl (Ext1.refl _ _ _ W))
                  simp only [execOp, e68]
                  try go_simp
                  try (first | rfl | omega | (simp only [IntKind.wrap_i64, IntKind.wrap_u8, IntKind.wrap_u64, IntKind.wrap_u16, IntKind.wrap_u32]; omega) | (rw [Int.tmod_eq_emod_of_nonneg (by omega)]) | (rw [Int.tmod_eq_emod_of_nonneg (by omega)]; omega))
                · intro a vs W hX hR he hf K hK
                  rw [if_pos (wanted_none rfl)]
                  have e69 : a.eval (.tmp 69) = .pointer (some ⟨b, ob, none⟩) := (he 5 69 (by kernel_rfl) rfl).trans (hR 5 (by kernel_rfl))
                  refine wp_value (v := .pointer (some ⟨b, ob + 1, none⟩)) ?_ (hK _ _ rfl (Ext1.refl _ _ _ W))
                  simp only [execOp, e69]
                  try go_simp
                  try (first | rfl | omega | (simp only [IntKind.wrap_i64, IntKind.wrap_u8, IntKind.wrap_u64, IntKind.wrap_u16, IntKind.wrap_u32]; omega) | (rw [Int.tmod_eq_emod_of_nonneg (by omega)]) | (rw [Int.tmod_eq_emod_of_nonneg (by omega)]; omega))
                · intro a vs W hX hR he hf K hK
                  rw [if_pos (wanted_none rfl)]
                  have e70 : a.eval (.tmp 70) = .pointer (some ⟨b, ob + 1, none⟩) := (he 6 70 (by kernel_rfl) rfl).trans (hR 6 (by kernel_rfl))
                  have hq : W.cell? ⟨b, ob + 1, none⟩ = some (.int .u8 x.cls) := HQ1.out W hX
                  refine wp_value (v := _) ?_ (hK _ _ rfl (Ext1.refl _ _ _ W))
                  simp only [execOp, e70]
                  go_simp
                · intro a vs W hX hR he hf K hK
                  rw [if_pos (wanted_none rfl)]
                  have e71 : a.eval (.tmp 71) = .int .u8 x.cls := (he 7 71 (by kernel_rfl) rfl).trans (hR 7 (by kernel_rfl))
                  refine wp_value (v := _) ?_ (hK _ _ rfl (Ext1.refl _ _ _ W))
                  simp only [execOp, e71]
                  go_simp
                  rw [AND7.out]
                · intro a vs W hX hR he hf K hK
                  rw [if_pos (wanted_none rfl)]
                  have e67 : a.eval (.tmp 67) = .int .u8 x.ttl := (he 3 67 (by kernel_rfl) rfl).trans (hR 3 (by kernel_rfl))
                  have e72 : a.eval (.tmp 72) = .int .u8 (x.cls % 8) := (he 8 72 (by kernel_rfl) rfl).trans (hR 8 (by kernel_rfl))
                  have f67 := e67
                  simp only [Act.eval, Array.getD_eq_getD_getElem?] at f67
                  have f72 := e72
                  simp only [Act.eval, Array.getD_eq_getD_getElem?] at f72
                  refine wp_value (v := _) ?_ (hK _ _ rfl (Ext1.refl _ _ _ W))
                  simp only [execOp, e67, e72]
                  go_simp
                  try rfl
                · intro a vs W hX hR he hf K hK
                  rw [if_pos (wanted_none rfl)]
                  refine wp_value (v := .slice none 0 0) ?_ (hK _ _ rfl (Ext1.refl _ _ _ W))
                  simp only [execOp]
                  try go_simp
                  try (first | rfl | omega | (simp only [IntKind.wrap_i64, IntKind.wrap_u8, IntKind.wrap_u64, IntKind.wrap_u16, IntKind.wrap_u32]; omega) | (rw [Int.tmod_eq_emod_of_nonneg (by omega)]) | (rw [Int.tmod_eq_emod_of_nonneg (by omega)]; omega))
                · intro a vs W hX hR he hf K hK
                  rw [if_pos (wanted_none rfl)]
                  have e5 : a.eval (.tmp 5) = .pointer (some ⟨gf, 0, none⟩) := hf 5 (by kernel_rfl)
                  have e73 : a.eval (.tmp 73) = .agg (leftC (true, x.ttl, x.cls % 8)).toArray := (he 9 73 (by kernel_rfl) rfl).trans (hR 9 (by kernel_rfl))
                  obtain ⟨zs, hz, hbz⟩ := hX.there ⟨leftC (false, 0, 0), rfl, HFI.out.drew⟩
                  refine wp_store_all 28 _ _ rfl gf _ e5 e73 28 zs hbz (sizeLeft _) hz.symm (oneLeft _) ?_
                  intro w' hb' hg' hs'
                  exact hK _ _ hb' (Ext1.store hg' hb')
                · intro a vs W hX hR he hf K hK
                  rw [if_pos (wanted_none rfl)]
                  refine wp_value (v := .int .i64 0) ?_ (hK _ _ rfl (Ext1.refl _ _ _ W))
                  simp only [execOp]
                  try go_simp
                  try (first | rfl | omega | (simp only [IntKind.wrap_i64, IntKind.wrap_u8, IntKind.wrap_u64, IntKind.wrap_u16, IntKind.wrap_u32]; omega) | (rw [Int.tmod_eq_emod_of_nonneg (by omega)]) | (rw [Int.tmod_eq_emod_of_nonneg (by omega)]; omega))
                · intro vs w17 hX17 hR
                  have q0 := hR 0 (by decide)
                  have q1 := hR 1 (by decide)
                  have q2 := hR 2 (by decide)
                  have q3 := hR 3 (by decide)
                  have q4 := hR 4 (by decide)
                  have q5 := hR 5 (by decide)
                  have q6 := hR 6 (by decide)
                  have q7 := hR 7 (by decide)
                  have q8 := hR 8 (by decide)
                  have q9 := hR 9 (by decide)
                  have q10 := hR 10 (by decide)
                  have q11 := hR 11 (by decide)
                  have q12 := hR 12 (by decide)
                  change vs 0 = .slice (some ⟨b, ob, none⟩) n c at q0
                  change vs 1 = .pointer (some ⟨b, ob, none⟩) at q1
                  change vs 2 = .pointer (some ⟨b, ob + 3, none⟩) at q2
                  change vs 3 = .int .u8 x.ttl at q3
                  change vs 4 = .slice (some ⟨b, ob, none⟩) n c at q4
                  change vs 5 = .pointer (some ⟨b, ob, none⟩) at q5
                  change vs 6 = .pointer (some ⟨b, ob + 1, none⟩) at q6
                  change vs 7 = .int .u8 x.cls at q7
                  change vs 8 = .int .u8 (x.cls % 8) at q8
                  change vs 9 = .agg (leftC (true, x.ttl, x.cls % 8)).toArray at q9
                  change vs 10 = .slice none 0 0 at q10
                  change (fun v W => Blk W gf 28 (leftC (true, x.ttl, x.cls % 8))) (vs 11) w17 at q11
                  change vs 12 = .int .i64 0 at q12
                  simp only [putAll, Act.put, List.setIfInBounds_toArray, List.set_cons_zero, List.set_cons_succ, q0, q1, q2, q3, q4, q5, q6, q7, q8, q9, q10, q12]
                  clear q0 q1 q2 q3 q4 q5 q6 q7 q8 q9 q10 q12
                  clear hR
                  go_wp2_with fail
                  have HWZ : Below w.heap.size w w17 := bgrown (w := w15.drew) (bthen HW.out (below_drew _)) hX17.grown (by have := HW.out.size; simpa using this) (by have := HGL.out; omega)
                  refine bodyPost_ret (results_mid rfl _ _ gf _ _ _ rfl q11 Try.underlying28 rfl (sizeLeft _)) rfl ?_
                  exact ⟨none, 0, by rw [HV.out]; rfl, by rw [HV.out]; exact Own.nil _ _ _ _ _, HWZ⟩
              · have e1 : ((q : Int) == 0) = false := by simp; omega
                have HV : Hid (doF (x :: r) m = (L, (false, 0, 0), 0)) := Lib.hid (by rw [HDO.out]; unfold finF; rw [if_neg (by rw [HQ.out]; exact fun h => hq0 h.2)])
                have hbf := HFI.out
                go_wp2_with (refine wpList_store_all (by rfl) 28 _ _ rfl gf (leftC (false, 0, 0)) rfl rfl 28 _ hbf (sizeLeft _) rfl (oneLeft _) ?_; intro wZ hbZ hgZ hsZ)
                have HWZ : Below w.heap.size w wZ := bgrown HW.out hgZ HW.out.size (by have := HGL.out; omega)
                refine bodyPost_ret (results_mid rfl _ _ gf _ _ _ rfl hbZ Try.underlying28 rfl (sizeLeft _)) rfl ?_
                have ho := HOWN.out
                exact ⟨A', c', by rw [HV.out]; simp only [HQ.out]; rfl, by rw [HV.out]; simp only [HQ.out]; exact ho.kept hgZ (fun z hz => by have h1 := HOG.out z hz; have h2 := HGL.out; have h3 := HW4.out; intro e; injection e with e; omega), HWZ⟩
            · have e2 : (E == 0) = false := by simpa using hE
              have HV : Hid (doF (x :: r) m = (L, (false, 0, 0), E)) := Lib.hid (by rw [HDO.out]; unfold finF; rw [if_neg (fun h => hE h.1)])
              have hbf := HFI.out
              go_wp2_with (refine wpList_store_all (by rfl) 28 _ _ rfl gf (leftC (false, 0, 0)) rfl rfl 28 _ hbf (sizeLeft _) rfl (oneLeft _) ?_; intro wZ hbZ hgZ hsZ)
              have HWZ : Below w.heap.size w wZ := bgrown HW.out hgZ HW.out.size (by have := HGL.out; omega)
              refine bodyPost_ret (results_mid rfl _ _ gf _ _ _ rfl hbZ Try.underlying28 rfl (sizeLeft _)) rfl ?_
              have ho := HOWN.out
              exact ⟨A', c', by rw [HV.out]; simp only [HQ.out]; rfl, by rw [HV.out]; simp only [HQ.out]; exact ho.kept hgZ (fun z hz => by have h1 := HOG.out z hz; have h2 := HGL.out; have h3 := HW4.out; intro e; injection e with e; omega), HWZ⟩
          · skip
            have P := do4_any gl gh n c (some ⟨b, ob, none⟩) (x :: r) m w14 HL.out HH.out ((HR.out.below HW.out).more HW.out.size) hc hcm (by omega) HF.out
            have hdo : doF (x :: r) m = finF x (popF (x :: r) m.pipe) := by unfold doF opF; simp [HC.out, HO.out, HO3.out, ht2]; try (intro h; omega)
            obtain ⟨R, hR⟩ : ∃ R, popF (x :: r) m.pipe = R := ⟨_, rfl⟩
            rw [hR] at P hdo
            obtain ⟨L, E⟩ := R
            dsimp only at P hdo
            obtain ⟨q, hq⟩ : ∃ q, L.length = q := ⟨_, rfl⟩
            rw [hq] at P
            have HDO := Lib.hid hdo
            have HQ := Lib.hid hq
            have HP := Lib.hid P
            have hmap := HMP.out
            have d1 := HD1.out
            clear P hdo hq hR
            go_wp2_with (refine wpList_lookup_fn rfl _ _ 56 rfl 55 Try.underlying56 (zeroF0 _) _ _ _ _ rfl hmap 2 rfl (keyJ 2 (by decide)) (funD_2 _ _ _ _) ?_)
            refine HP.out.mono ?_
            rintro e w15 ⟨A', c', rfl, hown, hb15⟩
            have hB15 : Below gt w14 w15 := hb15.mono (Nat.le_of_lt HT.out.lt)
            have HOG := Lib.hid (show ∀ z, blk A' c' = some z → gt ≤ z from fun z hz => by have := (hown.lt z hz).1; have h1 := HT.out.lt; omega)
            replace HL := Lib.hid (HL.out.below hB15 (by have := HGL.out; have := HW4.out; omega))
            replace HFI := Lib.hid (HFI.out.below hB15 (by have := HGL.out; have := HW4.out; omega))
            replace HW := Lib.hid (HW.out.trans (hB15.mono (by have := HGL.out; have := HW4.out; omega)))
            have HOWN := Lib.hid (hown.mono (B := w.heap.size) (by have := HGL.out; have := HW4.out; have := HT.out.lt; omega))
            clear hmap d1 hB15 hb15 hown
            by_cases hE : E = 0
            · subst hE
              by_cases hq0 : q = 0
              · subst hq0
                have HV : Hid (doF (x :: r) m = ([], (true, x.ttl, x.cls % 8), 0)) := Lib.hid (by rw [HDO.out]; unfold finF; rw [if_pos ⟨rfl, HQ.out⟩])
                go_upto_region 14 with fail
                have HQL := Lib.hid (show ∀ W, Ext1 gf 28 (leftC (true, x.ttl, x.cls % 8)) w15.drew W → W.cell? ⟨gl, 0, none⟩ = some (.slice (some ⟨b, ob, none⟩) n c) from fun W hX => ((HL.out.drew).grown hX.grown (by intro e; injection e with e; have := HGL.out; omega)).cell 0)
                have HQR := Lib.hid (show ∀ W, Ext1 gf 28 (leftC (true, x.ttl, x.cls % 8)) w15.drew W → Row W w.heap.size 4 (some ⟨b, ob, none⟩) n (evs (x :: r)) from fun W hX => HR.out.below (bgrown (w := w15.drew) (bthen HW.out (below_drew _)) hX.grown (by have := HW.out.size; simpa using this) (by have := HGL.out; omega)))
                have HQ3 := Lib.hid (show ∀ W, Ext1 gf 28 (leftC (true, x.ttl, x.cls % 8)) w15.drew W → W.cell? ⟨b, ob + 3, none⟩ = some (.int .u8 x.ttl) from fun W hX => row_at (HQR.out W hX) 3 rfl)
                have HQ1 := Lib.hid (show ∀ W, Ext1 gf 28 (leftC (true, x.ttl, x.cls % 8)) w15.drew W → W.cell? ⟨b, ob + 1, none⟩ = some (.int .u8 x.cls) from fun W hX => row_at (HQR.out W hX) 1 rfl)
                have AND7 := Lib.hid (and7 x.cls fa.cls.1 fa.cls.2)
                refine wp_region_rel (Ext1 gf 28 (leftC (true, x.ttl, x.cls % 8))) (Ext1.refl gf 28 (leftC (true, x.ttl, x.cls % 8))) (fun A B C h k => h.trans k) (relAt (List.cons (fun v _ => v = .slice (some ⟨b, ob, none⟩) n c) (List.cons (fun v _ => v = .pointer (some ⟨b, ob, none⟩)) (List.cons (fun v _ => v = .pointer (some ⟨b, ob + 3, none⟩)) (List.cons (fun v _ => v = .int .u8 x.ttl) (List.cons (fun v _ => v = .slice (some ⟨b, ob, none⟩) n c) (List.cons (fun v _ => v = .pointer (some ⟨b, ob, none⟩)) (List.cons (fun v _ => v = .pointer (some ⟨b, ob + 1, none⟩)) (List.cons (fun v _ => v = .int .u8 x.cls) (List.cons (fun v _ => v = .int .u8 (x.cls % 8)) (List.cons (fun v _ => v = .agg (leftC (true, x.ttl, x.cls % 8)).toArray) (List.cons (fun v _ => v = .slice none 0 0) (List.cons (fun v W => Blk W gf 28 (leftC (true, x.ttl, x.cls % 8))) (List.cons (fun v _ => v = .int .i64 0) ([]))))))))))))))) (MonoL.at_ (.cons (mono_val _) (.cons (mono_val _) (.cons (mono_val _) (.cons (mono_val _) (.cons (mono_val _) (.cons (mono_val _) (.cons (mono_val _) (.cons (mono_val _) (.cons (mono_val _) (.cons (mono_val _) (.cons (mono_val _) (.cons (fun _ _ _ h k => k.stays h) (.cons (mono_val _) .nil)))))))))))))) (by kernel_rfl) (by kernel_rfl) ⟨?_, ?_, ?_, ?_, ?_, ?_, ?_, ?_, ?_, ?_, ?_, ?_, ?_, trivial⟩ ?_
                · intro a vs W hX hR he hf K hK
                  rw [if_pos (wanted_none rfl)]
                  have e2 : a.eval (.tmp 2) = .pointer (some ⟨gl, 0, none⟩) := hf 2 (by kernel_rfl)
                  have hc : W.cell? ⟨gl, 0, none⟩ = some (.slice (some ⟨b, ob, none⟩) n c) := HQL.out W hX
                  refine wp_value (v := _) ?_ (hK _ _ rfl (Ext1.refl _ _ _ W))
                  simp only [execOp, e2]
                  go_simp
                · intro a vs W hX hR he hf K hK
                  rw [if_pos (wanted_none rfl)]
                  have e64 : a.eval (.tmp 64) = .slice (some ⟨b, ob, none⟩) n c := (he 0 64 (by kernel_rfl) rfl).trans (hR 0 (by kernel_rfl))
                  refine wp_value (v := .pointer (some ⟨b, ob, none⟩)) ?_ (hK _ _ rfl (Ext1.refl _ _ _ W))
                  simp only [execOp, e64]
                  try go_simp
                  try (first | rfl | omega | (simp only [IntKind.wrap_i64, IntKind.wrap_u8, IntKind.wrap_u64, IntKind.wrap_u16, IntKind.wrap_u32]; omega) | (rw [Int.tmod_eq_emod_of_nonneg (by omega)]) | (rw [Int.tmod_eq_emod_of_nonneg (by omega)]; omega))
                · intro a vs W hX hR he hf K hK
                  rw [if_pos (wanted_none rfl)]
                  have e65 : a.eval (.tmp 65) = .pointer (some ⟨b, ob, none⟩) := (he 1 65 (by kernel_rfl) rfl).trans (hR 1 (by kernel_rfl))
                  refine wp_value (v := .pointer (some ⟨b, ob + 3, none⟩)) ?_ (hK _ _ rfl (Ext1.refl _ _ _ W))
                  simp only [execOp, e65]
                  try go_simp
                  try (first | rfl | omega | (simp only [IntKind.wrap_i64, IntKind.wrap_u8, IntKind.wrap_u64, IntKind.wrap_u16, IntKind.wrap_u32]; omega) | (rw [Int.tmod_eq_emod_of_nonneg (by omega)]) | (rw [Int.tmod_eq_emod_of_nonneg (by omega)]; omega))
                · intro a vs W hX hR he hf K hK
                  rw [if_pos (wanted_none rfl)]
                  have e66 : a.eval (.tmp 66) = .pointer (some ⟨b, ob + 3, none⟩) := (he 2 66 (by kernel_rfl) rfl).trans (hR 2 (by kernel_rfl))
                  have hq : W.cell? ⟨b, ob + 3, none⟩ = some (.int .u8 x.ttl) := HQ3.out W hX
                  refine wp_value (v := _) ?_ (hK _ _ rfl (Ext1.refl _ _ _ W))
                  simp only [execOp, e66]
                  go_simp
                · intro a vs W hX hR he hf K hK
                  rw [if_pos (wanted_none rfl)]
                  have e2 : a.eval (.tmp 2) = .pointer (some ⟨gl, 0, none⟩) := hf 2 (by kernel_rfl)
                  have hc : W.cell? ⟨gl, 0, none⟩ = some (.slice (some ⟨b, ob, none⟩) n c) := HQL.out W hX
                  refine wp_value (v := _) ?_ (hK _ _ rfl (Ext1.refl _ _ _ W))
                  simp only [execOp, e2]
                  go_simp
                · intro a vs W hX hR he hf K hK
                  rw [if_pos (wanted_none rfl)]
                  have e68 : a.eval (.tmp 68) = .slice (some ⟨b, ob, none⟩) n c := (he 4 68 (by kernel_rfl) rfl).trans (hR 4 (by kernel_rfl))
                  refine wp_value (v := .pointer (some ⟨b, ob, none⟩)) ?_ (hK _ _ rfl (Ext1.refl _ _ _ W))
                  simp only [execOp, e68]
                  try go_simp
                  try (first | rfl | omega | (simp only [IntKind.wrap_i64, IntKind.wrap_u8, IntKind.wrap_u64, IntKind.wrap_u16, IntKind.wrap_u32]; omega) | (rw [Int.tmod_eq_emod_of_nonneg (by omega)]) | (rw [Int.tmod_eq_emod_of_nonneg (by omega)]; omega))
                · intro a vs W hX hR he hf K hK
                  rw [if_pos (wanted_none rfl)]
                  have e69 : a.eval (.tmp 69) = .pointer (some ⟨b, ob, none⟩) := (he 5 69 (by kernel_rfl) rfl).trans (hR 5 (by kernel_rfl))
                  refine wp_value (v := .pointer (some ⟨b, ob + 1, none⟩)) ?_ (hK _ _ rfl (Ext1.refl _ _ _ W))
                  simp only [execOp, e69]
                  try go_simp
                  try (first | rfl | omega | (simp only [IntKind.wrap_i64, IntKind.wrap_u8, IntKind.wrap_u64, IntKind.wrap_u16, IntKind.wrap_u32]; omega) | (rw [Int.tmod_eq_emod_of_nonneg (by omega)]) | (rw [Int.tmod_eq_emod_of_nonneg (by omega)]; omega))
                · intro a vs W hX hR he hf K hK
                  rw [if_pos (wanted_none rfl)]
                  have e70 : a.eval (.tmp 70) = .pointer (some ⟨b, ob + 1, none⟩) := (he 6 70 (by kernel_rfl) rfl).trans (hR 6 (by kernel_rfl))
                  have hq : W.cell? ⟨b, ob + 1, none⟩ = some (.int .u8 x.cls) := HQ1.out W hX
                  refine wp_value (v := _) ?_ (hK _ _ rfl (Ext1.refl _ _ _ W))
                  simp only [execOp, e70]
                  go_simp
                · intro a vs W hX hR he hf K hK
                  rw [if_pos (wanted_none rfl)]
                  have e71 : a.eval (.tmp 71) = .int .u8 x.cls := (he 7 71 (by kernel_rfl) rfl).trans (hR 7 (by kernel_rfl))
                  refine wp_value (v := _) ?_ (hK _ _ rfl (Ext1.refl _ _ _ W))
                  simp only [execOp, e71]
                  go_simp
                  rw [AND7.out]
                · intro a vs W hX hR he hf K hK
                  rw [if_pos (wanted_none rfl)]
                  have e67 : a.eval (.tmp 67) = .int .u8 x.ttl := (he 3 67 (by kernel_rfl) rfl).trans (hR 3 (by kernel_rfl))
                  have e72 : a.eval (.tmp 72) = .int .u8 (x.cls % 8) := (he 8 72 (by kernel_rfl) rfl).trans (hR 8 (by kernel_rfl))
                  have f67 := e67
                  simp only [Act.eval, Array.getD_eq_getD_getElem?] at f67
                  have f72 := e72
                  simp only [Act.eval, Array.getD_eq_getD_getElem?] at f72
                  refine wp_value (v := _) ?_ (hK _ _ rfl (Ext1.refl _ _ _ W))
                  simp only [execOp, e67, e72]
                  go_simp
                  try rfl
                · intro a vs W hX hR he hf K hK
                  rw [if_pos (wanted_none rfl)]
                  refine wp_value (v := .slice none 0 0) ?_ (hK _ _ rfl (Ext1.refl _ _ _ W))
                  simp only [execOp]
                  try go_simp
                  try (first | rfl | omega | (simp only [IntKind.wrap_i64, IntKind.wrap_u8, IntKind.wrap_u64, IntKind.wrap_u16, IntKind.wrap_u32]; omega) | (rw [Int.tmod_eq_emod_of_nonneg (by omega)]) | (rw [Int.tmod_eq_emod_of_nonneg (by omega)]; omega))
                · intro a vs W hX hR he hf K hK
                  rw [if_pos (wanted_none rfl)]
                  have e5 : a.eval (.tmp 5) = .pointer (some ⟨gf, 0, none⟩) := hf 5 (by kernel_rfl)
                  have e73 : a.eval (.tmp 73) = .agg (leftC (true, x.ttl, x.cls % 8)).toArray := (he 9 73 (by kernel_rfl) rfl).trans (hR 9 (by kernel_rfl))
                  obtain ⟨zs, hz, hbz⟩ := hX.there ⟨leftC (false, 0, 0), rfl, HFI.out.drew⟩
                  refine wp_store_all 28 _ _ rfl gf _ e5 e73 28 zs hbz (sizeLeft _) hz.symm (oneLeft _) ?_
                  intro w' hb' hg' hs'
                  exact hK _ _ hb' (Ext1.store hg' hb')
                · intro a vs W hX hR he hf K hK
                  rw [if_pos (wanted_none rfl)]
                  refine wp_value (v := .int .i64 0) ?_ (hK _ _ rfl (Ext1.refl _ _ _ W))
                  simp only [execOp]
                  try go_simp
                  try (first | rfl | omega | (simp only [IntKind.wrap_i64, IntKind.wrap_u8, IntKind.wrap_u64, IntKind.wrap_u16, IntKind.wrap_u32]; omega) | (rw [Int.tmod_eq_emod_of_nonneg (by omega)]) | (rw [Int.tmod_eq_emod_of_nonneg (by omega)]; omega))
                · intro vs w17 hX17 hR
                  have q0 := hR 0 (by decide)
                  have q1 := hR 1 (by decide)
                  have q2 := hR 2 (by decide)
                  have q3 := hR 3 (by decide)
                  have q4 := hR 4 (by decide)
                  have q5 := hR 5 (by decide)
                  have q6 := hR 6 (by decide)
                  have q7 := hR 7 (by decide)
                  have q8 := hR 8 (by decide)
                  have q9 := hR 9 (by decide)
                  have q10 := hR 10 (by decide)
                  have q11 := hR 11 (by decide)
                  have q12 := hR 12 (by decide)
                  change vs 0 = .slice (some ⟨b, ob, none⟩) n c at q0
                  change vs 1 = .pointer (some ⟨b, ob, none⟩) at q1
                  change vs 2 = .pointer (some ⟨b, ob + 3, none⟩) at q2
                  change vs 3 = .int .u8 x.ttl at q3
                  change vs 4 = .slice (some ⟨b, ob, none⟩) n c at q4
                  change vs 5 = .pointer (some ⟨b, ob, none⟩) at q5
                  change vs 6 = .pointer (some ⟨b, ob + 1, none⟩) at q6
                  change vs 7 = .int .u8 x.cls at q7
                  change vs 8 = .int .u8 (x.cls % 8) at q8
                  change vs 9 = .agg (leftC (true, x.ttl, x.cls % 8)).toArray at q9
                  change vs 10 = .slice none 0 0 at q10
                  change (fun v W => Blk W gf 28 (leftC (true, x.ttl, x.cls % 8))) (vs 11) w17 at q11
                  change vs 12 = .int .i64 0 at q12
                  simp only [putAll, Act.put, List.setIfInBounds_toArray, List.set_cons_zero, List.set_cons_succ, q0, q1, q2, q3, q4, q5, q6, q7, q8, q9, q10, q12]
                  clear q0 q1 q2 q3 q4 q5 q6 q7 q8 q9 q10 q12
                  clear hR
                  go_wp2_with fail
                  have HWZ : Below w.heap.size w w17 := bgrown (w := w15.drew) (bthen HW.out (below_drew _)) hX17.grown (by have := HW.out.size; simpa using this) (by have := HGL.out; omega)
                  refine bodyPost_ret (results_mid rfl _ _ gf _ _ _ rfl q11 Try.underlying28 rfl (sizeLeft _)) rfl ?_
                  exact ⟨none, 0, by rw [HV.out]; rfl, by rw [HV.out]; exact Own.nil _ _ _ _ _, HWZ⟩
              · have e1 : ((q : Int) == 0) = false := by simp; omega
                have HV : Hid (doF (x :: r) m = (L, (false, 0, 0), 0)) := Lib.hid (by rw [HDO.out]; unfold finF; rw [if_neg (by rw [HQ.out]; exact fun h => hq0 h.2)])
                have hbf := HFI.out
                go_wp2_with (refine wpList_store_all (by rfl) 28 _ _ rfl gf (leftC (false, 0, 0)) rfl rfl 28 _ hbf (sizeLeft _) rfl (oneLeft _) ?_; intro wZ hbZ hgZ hsZ)
                have HWZ : Below w.heap.size w wZ := bgrown HW.out hgZ HW.out.size (by have := HGL.out; omega)
                refine bodyPost_ret (results_mid rfl _ _ gf _ _ _ rfl hbZ Try.underlying28 rfl (sizeLeft _)) rfl ?_
                have ho := HOWN.out
                exact ⟨A', c', by rw [HV.out]; simp only [HQ.out]; rfl, by rw [HV.out]; simp only [HQ.out]; exact ho.kept hgZ (fun z hz => by have h1 := HOG.out z hz; have h2 := HGL.out; have h3 := HW4.out; intro e; injection e with e; omega), HWZ⟩
            · have e2 : (E == 0) = false := by simpa using hE
              have HV : Hid (doF (x :: r) m = (L, (false, 0, 0), E)) := Lib.hid (by rw [HDO.out]; unfold finF; rw [if_neg (fun h => hE h.1)])
              have hbf := HFI.out
              go_wp2_with (refine wpList_store_all (by rfl) 28 _ _ rfl gf (leftC (false, 0, 0)) rfl rfl 28 _ hbf (sizeLeft _) rfl (oneLeft _) ?_; intro wZ hbZ hgZ hsZ)
              have HWZ : Below w.heap.size w wZ := bgrown HW.out hgZ HW.out.size (by have := HGL.out; omega)
              refine bodyPost_ret (results_mid rfl _ _ gf _ _ _ rfl hbZ Try.underlying28 rfl (sizeLeft _)) rfl ?_
              have ho := HOWN.out
              exact ⟨A', c', by rw [HV.out]; simp only [HQ.out]; rfl, by rw [HV.out]; simp only [HQ.out]; exact ho.kept hgZ (fun z hz => by have h1 := HOG.out z hz; have h2 := HGL.out; have h3 := HW4.out; intro e; injection e with e; omega), HWZ⟩
    · have hk0' : (k != 0) = true := by simpa [bne] using hk0
      have HV : Hid (doF (x :: r) m = ([], (false, 0, 0), 54)) := Lib.hid (by unfold doF; simp only [HC.out, HO.out]; simp [hk0])
      have hbf := HFI.out
      go_wp2_with (refine wpList_store_all (by rfl) 28 _ _ rfl gf (leftC (false, 0, 0)) rfl rfl 28 _ hbf (sizeLeft _) rfl (oneLeft _) ?_; intro wZ hbZ hgZ hsZ)
      have HWZ : Below w.heap.size w wZ := bgrown HW.out hgZ HW.out.size (by have := HGL.out; omega)
      refine bodyPost_ret (results_mid rfl _ _ gf _ _ _ rfl hbZ Try.underlying28 rfl (sizeLeft _)) rfl ?_
      exact ⟨none, 0, by rw [HV.out]; rfl, by rw [HV.out]; exact Own.nil _ _ _ _ _, HWZ⟩
end Go.Proofs.Ytmpaockaeoknmaa

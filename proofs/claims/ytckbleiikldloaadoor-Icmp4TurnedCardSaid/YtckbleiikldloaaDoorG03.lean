/- Texts of this claim put together, in build order: each one's own remark stands ahead of it. -/
import Derived.Test.YtckbleiikldloaaDoorG01
import Derived.Test.YtckbleiikldloaaDoorG02
import Derived.Stop.BytesEq
import Derived.BigQuiet
import Derived.Deep.QuietTactic
import Derived.Deep.OwnRows
/- Small lemmas that the texts on packets share: structs compared, numbers at a place, pieces of strings. No condition. -/
namespace Go.Proofs.YtckbleiikldloaaDoor
open Go.RowKit
set_option linter.unusedVariables false
set_option maxRecDepth 20000
set_option linter.unusedSimpArgs false

section
variable {P : Program} {w : World}
theorem eqF_cons {f : Field} {fs : List Field} {xs ys : Array Value} {d : Nat} {x y : Value} (hn : f.name ≠ "_") (hx : (part f.type xs f.offset).run P w = .ok x w) (hy : (part f.type ys f.offset).run P w = .ok y w)
    (he : (Op.equalIn d f.type x y).run P w = .ok true w) (h : (Op.eqFields d xs ys fs).run P w = .ok true w) : (Op.eqFields d xs ys (f :: fs)).run P w = .ok true w := by
  rw [Op.eqFields, if_pos hn]
  simp only [Sem.run_bind, hx, hy, he, Result.andThen_ok, Bool.not_true, Bool.false_eq_true, if_false, h]
theorem eqF_nil {xs ys : Array Value} {d : Nat} : (Op.eqFields d xs ys []).run P w = .ok true w := rfl
theorem part_one {t : TypeId} {cs : List Value} {off : Nat} {v : Value} (ha : (isAgg t).run P w = .ok false w) (h : cs[off]? = some v) : (part t cs.toArray off).run P w = .ok v w := by
  unfold part
  simp only [Sem.run_bind, ha, Result.andThen_ok, Bool.false_eq_true, if_false, List.getElem?_toArray, h, Sem.run_pure]
theorem part_arr {t : TypeId} {cs : List Value} {off n : Nat} (ha : (isAgg t).run P w = .ok true w) (hs : (sizeOf t).run P w = .ok n w) : (part t cs.toArray off).run P w = .ok (.agg ((cs.drop off).take n).toArray) w := by
  unfold part
  simp only [Sem.run_bind, ha, Result.andThen_ok, if_true, hs, Sem.run_pure]
  congr 2
  apply Array.ext'
  simp [List.extract_eq_take_drop]
theorem eq_int {t : TypeId} {k : IntKind} {d : Nat} (h : P.underlying t = some (.int k)) (q : IntKind) (a : Int) : (Op.equalIn (d + 1) t (.int q a) (.int q a)).run P w = .ok true w := by
  rw [run_equalIn_int w d t q k a a h]
  simp
theorem eq_bool {t : TypeId} {d : Nat} (h : P.underlying t = some .bool) (a : Bool) : (Op.equalIn (d + 1) t (.bool a) (.bool a)).run P w = .ok true w := by
  rw [run_equalIn_bool' w d t a a h]
  simp
theorem eq_str {t : TypeId} {d : Nat} (h : P.underlying t = some .string) (a : ByteArray) : (Op.equalIn (d + 1) t (.string a) (.string a)).run P w = .ok true w := by
  rw [run_equalIn_string w d t a a h]
  simp
theorem eq_bytes {t e : TypeId} {n d : Nat} (ht : P.underlying t = some (.array n e)) (he : P.underlying e = some (.int .u8)) (hsz : ∀ w, (sizeOf e).run P w = .ok 1 w) (l : List UInt8) (hl : l.length = n) :
    (Op.equalIn (d + 2) t (.agg (bv l).toArray) (.agg (bv l).toArray)).run P w = .ok true w := by
  have := run_equalIn_bytes w d t e n ht he hsz l l hl hl
  simp only [BEq.rfl] at this
  exact this
end

theorem below_drew (w : World) : Below w.heap.size w w.drew := below_drewN (Below.refl _ _) 1
theorem be_bd (l : List UInt8) (n : Nat) (h : l.length ≤ n) : be l < 256 ^ n := Nat.lt_of_lt_of_le (be_lt l) (Nat.pow_le_pow_right (by omega) h)

/-- the number of so many bytes at a place -/
def numF (l : List UInt8) (i s : Nat) : Nat := be ((l.drop i).take s)
theorem numF_bd (l : List UInt8) (i s : Nat) : numF l i s < 256 ^ s := be_bd _ _ (by rw [List.length_take]; omega)

theorem bgrown {B : Nat} {w0 w w' : World} {g : Nat} (h : Below B w0 w) (hg : w.grownBy w' (some g)) (hB : B ≤ w.heap.size) (hb : B ≤ g) : Below B w0 w' := h.grown hg hB (fun k hk => by injection hk with hk; omega)
theorem str_drop (l : List UInt8) (i : Nat) : Value.string ((ByteArray.mk l.toArray).extract i l.length) = str (l.drop i) := by
  unfold str
  congr 1
  apply ByteArray.ext
  simp
  rw [List.take_of_length_le (by rw [List.length_drop]; omega)]

theorem str_ex (l : List UInt8) (i j : Nat) : (ByteArray.mk l.toArray).extract i j = ByteArray.mk ((l.take j).drop i).toArray := by
  apply ByteArray.ext
  simp [List.drop_take]

theorem set_bv (l : List UInt8) (k : Nat) (t : Int) (h0 : 0 ≤ t) (h1 : t ≤ 255) (hk : k < l.length) : (bv l).set k (.int .u8 t) = bv (l.take k ++ UInt8.ofNat t.toNat :: l.drop (k + 1)) := by
  have e : l = l.take k ++ l[k] :: l.drop (k + 1) := by rw [← List.drop_eq_getElem_cons hk, List.take_append_drop]
  conv => lhs; rw [e]
  simp only [bv, List.map_append, List.map_cons]
  rw [set_mid _ _ _ _ _ (by simp; omega), u8_of t h0 h1]

def ub (x : Int) : UInt8 := UInt8.ofNat x.toNat

theorem row_litN {e : TypeId} (w : World) (cs : Array Value) (l : List UInt8) (n g : Nat) (h : cs.toList = bv l) (hn : l.length = n) (hg : w.heap.size = g) : Row (w.alloc (.cells cs e)) (w.alloc (.cells cs e)).heap.size 1 (some ⟨g, 0, none⟩) n (bv l) := by
  subst hg
  rw [World.size_alloc]
  exact row_lit w cs l n h hn
theorem row_ne {w : World} {B n g : Nat} {t : TypeId} {cs xs : List Value} {A : Option Addr} (h : Row w B 1 A n xs) (hb : Blk w g t cs) (hn : cs.length < n) : ∀ b o, A = some ⟨b, o, none⟩ → b ≠ g := by
  intro b o hA e
  obtain ⟨b', o', hA', _, hc⟩ := h.2 (by omega)
  rw [hA] at hA'
  cases hA'
  subst e
  have hl : xs.length = n := by have := h.1; omega
  have := hc (n - 1) _ (List.getElem?_eq_getElem (by omega))
  rw [hb.cell, List.getElem?_eq_none (by omega)] at this
  cases this
theorem be_toBe (s m : Nat) : be (toBe s m) = m % 256 ^ s := by
  induction s generalizing m with
  | zero => simp [toBe, be, Nat.mod_one]
  | succ s ih =>
    rw [toBe, be_snoc, ih, UInt8.toNat_ofNat', Nat.mod_eq_of_lt (show m % 256 < 2 ^ 8 by omega), Nat.pow_succ, Nat.mul_comm (256 ^ s) 256, Nat.mod_mul]
    omega
theorem numF_mid (X Y Z : List UInt8) (i s : Nat) (hX : X.length = i) (hY : Y.length = s) : numF (X ++ Y ++ Z) i s = be Y := by
  unfold numF
  rw [List.append_assoc, List.drop_left' hX, List.take_left' hY]
theorem ub_nat (x : Int) (h0 : 0 ≤ x) (h1 : x ≤ 255) : (((ub x).toNat : Nat) : Int) = x := u8_of x h0 h1

/-- a slice of bytes of its own block, not older than base -/
def OwnR (base : Nat) (l : List UInt8) (v : Value) (W : World) : Prop := ∃ A n c, v = .slice A n c ∧ Own W base 5 1 A n c (bv l)
theorem mono_own (base : Nat) (l : List UInt8) : ∀ v A B, OwnR base l v A → World.grownBy A B none → OwnR base l v B := fun _ _ _ ⟨X, n, c, h, ho⟩ hg => ⟨X, n, c, h, ho.below (grow_below hg)⟩

end Go.Proofs.YtckbleiikldloaaDoor

/- A region that draws its order, walked once, where what an operation leaves may hang on what one that it waits for left. And blocks that a region makes and fills itself. No condition. -/
namespace Go.Proofs.YtckbleiikldloaaDoor
open Go.RowKit
set_option linter.unusedVariables false
set_option maxRecDepth 20000

/-- what an operation leaves: said of its value alone, or of its value and that of operation k, for which it waits -/
inductive Pr
  | one (P : Value → World → Prop)
  | two (k : Nat) (P : Value → Value → World → Prop)
def Pr.at_ (p : Pr) (vs : Nat → Value) (v : Value) (W : World) : Prop := match p with | .one P => P v W | .two k P => P (vs k) v W
def prAt (ps : List Pr) (i : Nat) : Pr := ps.getD i (.one fun _ _ => True)
def locB (ops : Array Oper) (ps : List Pr) : Bool := (List.range ops.size).all fun i => match prAt ps i with | .one _ => true | .two k _ => waits ops i k
def Pr.mono (X : World → World → Prop) : Pr → Prop
  | .one P => ∀ v A B, P v A → X A B → P v B
  | .two _ P => ∀ u v A B, P u v A → X A B → P u v B
inductive MonoP (X : World → World → Prop) : List Pr → Prop
  | nil : MonoP X []
  | cons {r : Pr} {l : List Pr} (h : r.mono X) (t : MonoP X l) : MonoP X (r :: l)
theorem MonoP.at_ {X : World → World → Prop} {l : List Pr} (h : MonoP X l) : ∀ i, (prAt l i).mono X := by
  induction h with
  | nil => intro i; unfold prAt; simp [Pr.mono]
  | cons h t ih =>
    intro i
    cases i with
    | zero => exact h
    | succ i => exact ih i
theorem Pr.at_mono {X : World → World → Prop} {p : Pr} (h : p.mono X) {vs : Nat → Value} {v : Value} {A B : World} (hp : p.at_ vs v A) (hx : X A B) : p.at_ vs v B := by
  cases p with
  | one P => exact h _ _ _ hp hx
  | two k P => exact h _ _ _ _ hp hx

section
variable (P : Program) (ops : Array Oper) (ps : List Pr) (X : World → World → Prop) (a0 : Act) (w0 : World)
def RelStep2 (i : Nat) (o : Oper) : Prop :=
  ∀ (a : Act) (vs : Nat → Value) (W : World), X w0 W → (∀ j, waits ops i j = true → (prAt ps j).at_ vs (vs j) W) → (∀ j d, waits ops i j = true → dstOf ops j = some d → a.eval (.tmp d) = vs j) →
    (∀ k, freshFor ops i k = true → a.eval (.tmp k) = a0.eval (.tmp k)) → ∀ K : Act → World → Prop, (∀ v W', (prAt ps i).at_ vs v W' → X W W' → K (a.put o.dst v) W') →
    if Region.wanted o (yielded ops a.tmps) = true then o.wp P a W K (fun _ _ _ => False) else K (a.put o.dst undef) W
def RelSteps2 : Nat → List Oper → Prop
  | _, [] => True
  | i, o :: r => RelStep2 P ops ps X a0 w0 i o ∧ RelSteps2 (i + 1) r
end

section
variable {P : Program} {ops : Array Oper} {ps : List Pr} {X : World → World → Prop} {a0 : Act} {w0 : World}
theorem relSteps2_at (l : List Oper) : ∀ (k : Nat), RelSteps2 P ops ps X a0 w0 k l → ∀ (i : Nat) (o : Oper), l[i]? = some o → RelStep2 P ops ps X a0 w0 (k + i) o := by
  induction l with
  | nil => intro k _ i o h; simp at h
  | cons x l ih =>
    intro k h i o hi
    cases i with
    | zero => simp at hi; subst hi; exact h.1
    | succ i =>
      have := ih (k + 1) h.2 i o (by simpa using hi)
      rwa [show k + 1 + i = k + (i + 1) by omega] at this
/-- what holds between two operations -/
structure RelInv2 (ops : Array Oper) (ps : List Pr) (X : World → World → Prop) (a0 : Act) (w0 : World) (listed : Array Bool) (a : Act) (W : World) (vs : Nat → Value) : Prop where
  world : X w0 W
  size : a.tmps.size = a0.tmps.size
  defers : a.defers = a0.defers
  len : listed.size = ops.size
  vals : ∀ j, listed.getD j true = true → j < ops.size → (prAt ps j).at_ vs (vs j) W ∧ ∀ d, dstOf ops j = some d → a.eval (.tmp d) = vs j
  rest : ∀ k, (∀ j, listed.getD j true = true → j < ops.size → dstOf ops j ≠ some k) → a.eval (.tmp k) = a0.eval (.tmp k)
  closed : ∀ j, listed.getD j true = true → j < ops.size → ∀ i, waits ops j i = true → listed.getD i true = true ∧ i < ops.size

theorem locAt (h : locB ops ps = true) {j k : Nat} {Q : Value → Value → World → Prop} (hj : j < ops.size) (hp : prAt ps j = .two k Q) : waits ops j k = true := by
  have := List.all_eq_true.1 h j (List.mem_range.2 hj)
  rw [hp] at this
  exact this
theorem wp_region_rel2_aux {Q : Exit → Act → World → Prop} (hXt : ∀ A B C, X A B → X B C → X A C) (hR : ∀ i, (prAt ps i).mono X) (hloc : locB ops ps = true) (hp : plainB ops a0.tmps.size = true)
    (hsteps : RelSteps2 P ops ps X a0 w0 0 ops.toList) (hpost : ∀ vs W, X w0 W → (∀ i, i < ops.size → (prAt ps i).at_ vs (vs i) W) → Q .normal (putAll vs 0 ops.toList a0) W) :
    ∀ (fuel : Nat) (listed : Array Bool) (a : Act) (W : World) (vs : Nat → Value), RelInv2 ops ps X a0 w0 listed a W vs → ((List.range ops.size).filter fun i => !listed.getD i true).length ≤ fuel → wpAny P .any ops Q fuel listed a W := by
  have fin : ∀ (listed : Array Bool) (a : Act) (W : World) (vs : Nat → Value), RelInv2 ops ps X a0 w0 listed a W vs → (∀ i, i < ops.size → listed.getD i true = true) → Q .normal a W := by
    intro listed a W vs I hall
    have ha : a = putAll vs 0 ops.toList a0 := by
      refine act_ext (by rw [putAll_size, I.size]) (by rw [putAll_defers, I.defers]) fun k hk => ?_
      by_cases hw : ∃ j, j < ops.size ∧ dstOf ops j = some k
      · obtain ⟨j, hj, hd⟩ := hw
        rw [(I.vals j (hall j hj) hj).2 k hd]
        have hoj : ops.toList[j]? = some ops[j] := by simp [Array.getElem?_eq_getElem hj]
        have := putAll_some vs ops.toList k 0 a0 j ops[j] hoj (by rw [← dst_bind (Array.getElem?_eq_getElem hj)]; exact hd) (by rw [← I.size]; exact hk) (fun i x hx hne => by
          have hx' : ops[i]? = some x := by simpa using hx
          rw [← dst_bind hx']
          exact ((plain_at hp hj).1 k hd).2 i (Array.getElem?_eq_some_iff.1 hx').1 hne)
        rw [this, Nat.zero_add]
      · rw [I.rest k (fun j _ hj hd => hw ⟨j, hj, hd⟩)]
        refine (putAll_none vs ops.toList k 0 a0 fun o ho hd => ?_).symm
        obtain ⟨j, hj⟩ := List.getElem?_of_mem ho
        have hj' : ops[j]? = some o := by simpa using hj
        exact hw ⟨j, (Array.getElem?_eq_some_iff.1 hj').1, by rw [dst_bind hj']; exact hd⟩
    rw [ha]
    exact hpost vs W I.world fun i hi => (I.vals i (hall i hi) hi).1
  intro fuel
  induction fuel with
  | zero =>
    intro listed a W vs I hlen
    have hall : ∀ i, i < ops.size → listed.getD i true = true := by
      intro i hi
      rcases Bool.eq_false_or_eq_true (listed.getD i true) with ht | hf
      · exact ht
      · have : i ∈ (List.range ops.size).filter fun i => !listed.getD i true := List.mem_filter.2 ⟨List.mem_range.2 hi, by simp only [hf, Bool.not_false]⟩
        have hnil : ((List.range ops.size).filter fun i => !listed.getD i true) = [] := List.eq_nil_of_length_eq_zero (by omega)
        rw [hnil] at this
        cases this
    refine ⟨?_, fin listed a W vs I hall⟩
    apply List.eq_nil_iff_forall_not_mem.2
    intro i hi
    obtain ⟨h1, o, ho, _⟩ := mem_ready.1 hi
    rw [hall i (Array.getElem?_eq_some_iff.1 ho).1] at h1
    cases h1
  | succ fuel ih =>
    intro listed a W vs I hlen
    refine ⟨fun h => fin listed a W vs I (listed_all hp I.len h), fun i hi => ?_⟩
    obtain ⟨hun, o, ho, hall⟩ := mem_ready.1 hi
    have hilt : i < ops.size := (Array.getElem?_eq_some_iff.1 ho).1
    have hst := relSteps2_at ops.toList 0 hsteps i o (by simpa using ho)
    rw [Nat.zero_add] at hst
    have hpre : ∀ j, waits ops i j = true → listed.getD j true = true ∧ j < ops.size := by
      intro j hj
      obtain ⟨e, he, hb, rfl⟩ := waits_of ho hj
      have h1 := hall e he hb
      have hlt := (plain_at hp hilt).2 o ho e he hb
      have hjs : e.on < ops.size := by omega
      refine ⟨?_, hjs⟩
      rw [Array.getD_eq_getD_getElem?] at h1 ⊢
      rw [Array.getElem?_eq_getElem (by rw [I.len]; exact hjs)] at h1 ⊢
      exact h1
    have key := hst a vs W I.world (fun j hj => (I.vals j (hpre j hj).1 (hpre j hj).2).1) (fun j d hj hd => (I.vals j (hpre j hj).1 (hpre j hj).2).2 d hd)
      (fun k hk => I.rest k fun j hlj hj hd => by
        have := List.all_eq_true.1 hk j (List.mem_range.2 hj)
        simp only [hd, bne_self_eq_false, Bool.false_or, Bool.or_eq_true, beq_iff_eq] at this
        rcases this with h | h
        · have := (I.closed j hlj hj i h).1
          rw [hun] at this
          cases this
        · subst h
          rw [hun] at hlj
          cases hlj)
    have next : ∀ v W', (prAt ps i).at_ vs v W' → X W W' → wpAny P .any ops Q fuel (listed.setIfInBounds i true) (a.put o.dst v) W' := by
      intro v W' hv hx
      have hils : i < listed.size := by rw [I.len]; exact hilt
      have hget : ∀ j, (listed.setIfInBounds i true).getD j true = if j = i then true else listed.getD j true := by
        intro j
        by_cases hj : j = i
        · subst hj
          rw [if_pos rfl, Array.getD_eq_getD_getElem?, Array.getElem?_setIfInBounds_self_of_lt hils]
          rfl
        · rw [if_neg hj, Array.getD_eq_getD_getElem?, Array.getD_eq_getD_getElem?, Array.getElem?_setIfInBounds_ne (fun e => hj e.symm)]
      have hput : ∀ k, o.dst ≠ some k → (a.put o.dst v).eval (.tmp k) = a.eval (.tmp k) := fun k hk => Act.eval_put fun d hd e => by injection e with e; exact hk (by rw [hd, e])
      refine ih _ _ _ (fun j => if j = i then v else vs j) ?_ ?_
      · refine ⟨hXt _ _ _ I.world hx, ?_, ?_, by rw [Array.size_setIfInBounds, I.len], ?_, ?_, ?_⟩
        · rw [← I.size]; cases h : o.dst <;> simp [Act.put]
        · rw [← I.defers]; cases h : o.dst <;> simp [Act.put]
        · intro j hj hjs
          rw [hget] at hj
          by_cases hji : j = i
          · subst hji
            simp only [if_true]
            refine ⟨?_, fun d hd => ?_⟩
            · cases hpj : prAt ps j with
              | one Q => rw [hpj] at hv; exact hv
              | two k Q =>
                rw [hpj] at hv
                have hw := locAt hloc hjs hpj
                have hne : k ≠ j := by
                  intro e
                  subst e
                  have := (hpre k hw).1
                  rw [hun] at this
                  cases this
                show Q (if k = j then v else vs k) v W'
                rw [if_neg hne]
                exact hv
            rw [dst_bind ho] at hd
            have hdl : d < a.tmps.size := by rw [I.size]; exact ((plain_at hp hjs).1 d (by rw [dst_bind ho]; exact hd)).1
            simp [Act.put, hd, Act.eval, hdl]
          · rw [if_neg hji] at hj
            simp only [if_neg hji]
            obtain ⟨h1, h2⟩ := I.vals j hj hjs
            refine ⟨?_, fun d hd => ?_⟩
            · have h1' := Pr.at_mono (hR j) h1 hx
              cases hpj : prAt ps j with
              | one Q => rw [hpj] at h1'; exact h1'
              | two k Q =>
                rw [hpj] at h1'
                have hw := locAt hloc hjs hpj
                have hne : k ≠ i := by
                  intro e
                  subst e
                  have := (I.closed j hj hjs k hw).1
                  rw [hun] at this
                  cases this
                show Q (if k = i then v else vs k) (vs j) W'
                rw [if_neg hne]
                exact h1'
            rw [hput d (fun e => ((plain_at hp hjs).1 d hd).2 i hilt (fun e => hji e.symm) (by rw [dst_bind ho]; exact e))]
            exact h2 d hd
        · intro k hk
          have hki : o.dst ≠ some k := by
            have := hk i (by rw [hget, if_pos rfl]) hilt
            rwa [dst_bind ho] at this
          rw [hput k hki]
          exact I.rest k fun j hj hjs => hk j (by rw [hget]; split <;> first | rfl | exact hj) hjs
        · intro j hj hjs k hk
          have hkk : listed.getD k true = true ∧ k < ops.size := by
            rw [hget] at hj
            by_cases hji : j = i
            · subst hji
              exact hpre k hk
            · rw [if_neg hji] at hj
              exact I.closed j hj hjs k hk
          exact ⟨by rw [hget]; split <;> first | rfl | exact hkk.1, hkk.2⟩
      · have hsub : ((List.range ops.size).filter fun j => !(listed.setIfInBounds i true).getD j true) = (((List.range ops.size).filter fun j => !listed.getD j true).filter fun j => !decide (j = i)) := by
          rw [List.filter_filter]
          apply List.filter_congr
          intro j _
          rw [hget]
          by_cases hji : j = i
          · simp [hji]
          · simp [hji]
        rw [hsub]
        have hmem : i ∈ (List.range ops.size).filter fun j => !listed.getD j true := List.mem_filter.2 ⟨List.mem_range.2 hilt, by simp only [hun, Bool.not_false]⟩
        have := List.length_filter_lt_length_iff_exists (p := fun j => !decide (j = i)) |>.2 ⟨i, hmem, by simp⟩
        omega
    have key2 := key (wpAny P .any ops Q fuel (listed.setIfInBounds i true)) next
    unfold wpOp
    rw [ho]
    simp only
    by_cases hw : Region.wanted o (yielded ops a.tmps) = true
    · rw [if_pos hw] at key2 ⊢
      exact .inl (upon_calm _ key2)
    · rw [if_neg hw] at key2 ⊢
      exact key2

/-- the law -/
theorem wp_region_rel2 {id : Nat} {Q : Exit → Act → World → Prop} {w : World} (X : World → World → Prop) (hXr : ∀ A, X A A) (hXt : ∀ A B C, X A B → X B C → X A C) (ps : List Pr) (hR : MonoP X ps) (hloc : locB ops ps = true)
    (hm : P.follows .mixedOrders = true) (hp : plainB ops a0.tmps.size = true) (hsteps : RelSteps2 P ops ps X a0 w.drew 0 ops.toList)
    (hpost : ∀ vs W, X w.drew W → (∀ i, i < ops.size → (prAt ps i).at_ vs (vs i) W) → Q .normal (putAll vs 0 ops.toList a0) W) : (Code.region id ops true).wp P Q a0 w := by
  refine wp_region_any hm (wp_region_rel2_aux hXt hR.at_ hloc hp hsteps hpost ops.size (Array.replicate ops.size false) a0 w.drew (fun _ => undef) ?_ ?_)
  · have hno : ∀ j, (Array.replicate ops.size false).getD j true = true → j < ops.size → False := by
      intro j h hj
      rw [Array.getD_eq_getD_getElem?, Array.getElem?_replicate, if_pos hj] at h
      cases h
    exact ⟨hXr _, rfl, rfl, by simp, fun j h hj => (hno j h hj).elim, fun k _ => rfl, fun j h hj => (hno j h hj).elim⟩
  · refine Nat.le_trans (List.length_filter_le _ _) (by simp)
end


/-- what lay below B is as it was; blocks from B on of type t may come, and may be filled with cs; those that hold it keep it -/
structure ExtN (B : Nat) (t : TypeId) (cs : List Value) (A C : World) : Prop where
  below : Below B A C
  stays : ∀ g, Blk A g t cs → Blk C g t cs
  there : ∀ g, (∃ zs, zs.length = cs.length ∧ Blk A g t zs) → ∃ zs, zs.length = cs.length ∧ Blk C g t zs
theorem ExtN.refl (B : Nat) (t : TypeId) (cs : List Value) (A : World) : ExtN B t cs A A := ⟨Below.refl _ _, fun _ => id, fun _ => id⟩
theorem ExtN.trans {B : Nat} {t : TypeId} {cs : List Value} {A C D : World} (h : ExtN B t cs A C) (k : ExtN B t cs C D) : ExtN B t cs A D := ⟨h.below.trans k.below, fun g x => k.stays g (h.stays g x), fun g x => k.there g (h.there g x)⟩
theorem ExtN.of {B : Nat} {t : TypeId} {cs : List Value} {A C : World} (hB : B ≤ A.heap.size) (h : Below A.heap.size A C) : ExtN B t cs A C := ⟨h.mono hB, fun _ x => x.on h, fun _ ⟨zs, h1, h2⟩ => ⟨zs, h1, h2.on h⟩⟩
theorem ExtN.store {B g : Nat} {t : TypeId} {cs : List Value} {A C : World} (hB : B ≤ A.heap.size) (hg : B ≤ g) (h : A.grownBy C (some g)) (hb : Blk C g t cs) : ExtN B t cs A C := by
  refine ⟨grown_below h hB hg, fun i hi => ?_, fun i hi => ?_⟩
  · by_cases hig : i = g
    · subst hig; exact hb
    · exact hi.grown h (fun e => hig (by injection e))
  · by_cases hig : i = g
    · subst hig; exact ⟨cs, rfl, hb⟩
    · obtain ⟨zs, h1, h2⟩ := hi
      exact ⟨zs, h1, h2.grown h (fun e => hig (by injection e))⟩
theorem ExtN.size {B : Nat} {t : TypeId} {cs : List Value} {A C : World} (h : ExtN B t cs A C) : A.heap.size ≤ C.heap.size := h.below.size
end Go.Proofs.YtckbleiikldloaaDoor

/- A region that draws its order, whose last operation waits for all others: those are walked once, in any order, then it. No condition. -/
namespace Go.Proofs.YtckbleiikldloaaDoor
open Go.RowKit
set_option linter.unusedVariables false
set_option maxRecDepth 20000

/-- what operation i waits for, step by step -/
def closure (ops : Array Oper) : Nat → List Nat → List Nat
  | 0, l => l
  | k + 1, l => closure ops k (l ++ (List.range ops.size).filter fun j => !l.contains j && l.any fun i => waits ops i j)
def lastB (ops : Array Oper) : Bool := (List.range (ops.size - 1)).all fun i => (closure ops ops.size [ops.size - 1]).contains i

section
variable {P : Program} {ops : Array Oper} {R : Nat → Value → World → Prop} {X : World → World → Prop} {a0 : Act} {w0 : World}
theorem closure_listed {listed : Array Bool} (hc : ∀ i, (i = ops.size - 1 ∨ listed.getD i true = true) → i < ops.size → ∀ j, waits ops i j = true → listed.getD j true = true ∧ j < ops.size) :
    ∀ (k : Nat) (l : List Nat), (∀ i ∈ l, i < ops.size ∧ (i = ops.size - 1 ∨ listed.getD i true = true)) → ∀ i ∈ closure ops k l, i < ops.size ∧ (i = ops.size - 1 ∨ listed.getD i true = true) := by
  intro k
  induction k with
  | zero => exact fun l h => h
  | succ k ih =>
    intro l h
    refine ih _ fun i hi => ?_
    rcases List.mem_append.1 hi with hi | hi
    · exact h i hi
    · obtain ⟨h1, h2⟩ := List.mem_filter.1 hi
      simp only [Bool.and_eq_true] at h2
      obtain ⟨x, hx, hw⟩ := List.any_eq_true.1 h2.2
      have := hc x (h x hx).2 (h x hx).1 i hw
      exact ⟨this.2, .inr this.1⟩

theorem wpAny_all {Q : Exit → Act → World → Prop} {n : Nat} (hp : plainB ops n = true) {listed : Array Bool} (hl : listed.size = ops.size) (hall : ∀ i, i < ops.size → listed.getD i true = true) {a : Act} {W : World} (h : Q .normal a W) (fuel : Nat) : wpAny P .any ops Q fuel listed a W := by
  have hr : Region.ready .any ops listed = [] := by
    apply List.eq_nil_iff_forall_not_mem.2
    intro i hi
    obtain ⟨h1, o, ho, _⟩ := mem_ready.1 hi
    rw [hall i (Array.getElem?_eq_some_iff.1 ho).1] at h1
    cases h1
  cases fuel with
  | zero => exact ⟨hr, h⟩
  | succ fuel => exact ⟨fun _ => h, fun i hi => by rw [hr] at hi; cases hi⟩

theorem wp_region_last_aux {Q : Exit → Act → World → Prop} (m : Nat) (hm : ops.size = m + 1) (hXt : ∀ A B C, X A B → X B C → X A C) (hR : ∀ i v A B, R i v A → X A B → R i v B) (hp : plainB ops a0.tmps.size = true) (hlast : lastB ops = true)
    (hsteps : RelSteps P ops R X a0 w0 0 (ops.toList.take m)) (hpost : ∀ vs W o, ops[m]? = some o → X w0 W → (∀ i, i < m → R i (vs i) W) → o.wp P (putAll vs 0 (ops.toList.take m) a0) W (fun a W' => Q .normal a W') (fun _ _ _ => False))
    (hwant : ∀ vs W o, ops[m]? = some o → X w0 W → (∀ i, i < m → R i (vs i) W) → Region.wanted o (yielded ops (putAll vs 0 (ops.toList.take m) a0).tmps) = true) :
    ∀ (fuel : Nat) (listed : Array Bool) (a : Act) (W : World) (vs : Nat → Value), RelInv ops R X a0 w0 listed a W vs → listed.getD m true = false → ((List.range ops.size).filter fun i => !listed.getD i true).length ≤ fuel → wpAny P .any ops Q fuel listed a W := by
  intro fuel
  induction fuel with
  | zero =>
    intro listed a W vs I hun hlen
    have : m ∈ (List.range ops.size).filter fun i => !listed.getD i true := List.mem_filter.2 ⟨List.mem_range.2 (by omega), by simp only [hun, Bool.not_false]⟩
    have hnil : ((List.range ops.size).filter fun i => !listed.getD i true) = [] := List.eq_nil_of_length_eq_zero (by omega)
    rw [hnil] at this
    cases this
  | succ fuel ih =>
    intro listed a W vs I hunm hlen
    refine ⟨fun h => ?_, fun i hi => ?_⟩
    · have := listed_all hp I.len h m (by omega)
      rw [hunm] at this
      cases this
    obtain ⟨hun, o, ho, hall⟩ := mem_ready.1 hi
    have hilt : i < ops.size := (Array.getElem?_eq_some_iff.1 ho).1
    have hpre : ∀ j, waits ops i j = true → listed.getD j true = true ∧ j < ops.size := by
      intro j hj
      obtain ⟨e, he, hb, rfl⟩ := waits_of ho hj
      have h1 := hall e he hb
      have hlt := (plain_at hp hilt).2 o ho e he hb
      have hjs : e.on < ops.size := by omega
      refine ⟨?_, hjs⟩
      rw [Array.getD_eq_getD_getElem?] at h1 ⊢
      rw [Array.getElem?_eq_getElem (by rw [I.len]; exact hjs)] at h1 ⊢
      exact h1
    by_cases him : i = m
    · subst him
      have hothers : ∀ j, j < i → listed.getD j true = true := by
        intro j hj
        have hc := List.all_eq_true.1 hlast j (List.mem_range.2 (by omega))
        have hmem : j ∈ closure ops ops.size [ops.size - 1] := by simpa using hc
        have := closure_listed (listed := listed) (ops := ops) (fun x hx hxs y hy => by
          rcases hx with hx | hx
          · have : x = i := by omega
            subst this
            exact hpre y hy
          · exact I.closed x hx hxs y hy) ops.size [ops.size - 1] (fun x hx => by
          simp at hx
          subst hx
          exact ⟨by omega, .inl rfl⟩) j hmem
        rcases this.2 with h | h
        · omega
        · exact h
      have ha : a = putAll vs 0 (ops.toList.take i) a0 := by
        refine act_ext (by rw [putAll_size, I.size]) (by rw [putAll_defers, I.defers]) fun k hk => ?_
        by_cases hw : ∃ j, j < i ∧ dstOf ops j = some k
        · obtain ⟨j, hj, hd⟩ := hw
          have hjs : j < ops.size := by omega
          rw [(I.vals j (hothers j hj) hjs).2 k hd]
          have hoj : (ops.toList.take i)[j]? = some ops[j] := by rw [List.getElem?_take, if_pos hj]; simp [Array.getElem?_eq_getElem hjs]
          have := putAll_some vs (ops.toList.take i) k 0 a0 j ops[j] hoj (by rw [← dst_bind (Array.getElem?_eq_getElem hjs)]; exact hd) (by rw [← I.size]; exact hk) (fun x y hx hne => by
            rw [List.getElem?_take] at hx
            split at hx
            · have hx' : ops[x]? = some y := by simpa using hx
              rw [← dst_bind hx']
              exact ((plain_at hp hjs).1 k hd).2 x (Array.getElem?_eq_some_iff.1 hx').1 hne
            · cases hx)
          rw [this, Nat.zero_add]
        · rw [I.rest k (fun j hl hj hd => by
            rcases Nat.lt_or_ge j i with h | h
            · exact hw ⟨j, h, hd⟩
            · have : j = i := by omega
              subst this
              rw [hun] at hl
              cases hl)]
          refine (putAll_none vs (ops.toList.take i) k 0 a0 fun x hx hd => ?_).symm
          obtain ⟨j, hj⟩ := List.getElem?_of_mem hx
          rw [List.getElem?_take] at hj
          split at hj
          · rename_i hji
            have hj' : ops[j]? = some x := by simpa using hj
            exact hw ⟨j, hji, by rw [dst_bind hj']; exact hd⟩
          · cases hj
      have hRR : ∀ j, j < i → R j (vs j) W := fun j hj => (I.vals j (hothers j hj) (by omega)).1
      have key := hpost vs W o ho I.world hRR
      have hwn := hwant vs W o ho I.world hRR
      rw [← ha] at key hwn
      have next : ∀ a' W', Q .normal a' W' → wpAny P .any ops Q fuel (listed.setIfInBounds i true) a' W' := by
        intro a' W' hq
        refine wpAny_all hp (by rw [Array.size_setIfInBounds, I.len]) (fun j hj => ?_) hq fuel
        by_cases hji : j = i
        · subst hji
          rw [Array.getD_eq_getD_getElem?, Array.getElem?_setIfInBounds_self_of_lt (by rw [I.len]; exact hj)]
          rfl
        · rw [Array.getD_eq_getD_getElem?, Array.getElem?_setIfInBounds_ne (fun e => hji e.symm), ← Array.getD_eq_getD_getElem?]
          exact hothers j (by omega)
      have key2 := Oper.wp_mono next key
      unfold wpOp
      rw [ho]
      simp only
      rw [if_pos hwn]
      exact .inl (upon_calm _ key2)
    · have hilm : i < m := by omega
      have hst := relSteps_at (ops.toList.take m) 0 hsteps i o (by rw [List.getElem?_take, if_pos hilm]; simpa using ho)
      rw [Nat.zero_add] at hst
      have key := hst a vs W I.world (fun j hj => (I.vals j (hpre j hj).1 (hpre j hj).2).1) (fun j d hj hd => (I.vals j (hpre j hj).1 (hpre j hj).2).2 d hd)
        (fun k hk => I.rest k fun j hlj hj hd => by
          have := List.all_eq_true.1 hk j (List.mem_range.2 hj)
          simp only [hd, bne_self_eq_false, Bool.false_or, Bool.or_eq_true, beq_iff_eq] at this
          rcases this with h | h
          · have := (I.closed j hlj hj i h).1
            rw [hun] at this
            cases this
          · subst h
            rw [hun] at hlj
            cases hlj)
      have next : ∀ v W', R i v W' → X W W' → wpAny P .any ops Q fuel (listed.setIfInBounds i true) (a.put o.dst v) W' := by
        intro v W' hv hx
        have hils : i < listed.size := by rw [I.len]; exact hilt
        have hget : ∀ j, (listed.setIfInBounds i true).getD j true = if j = i then true else listed.getD j true := by
          intro j
          by_cases hj : j = i
          · subst hj
            rw [if_pos rfl, Array.getD_eq_getD_getElem?, Array.getElem?_setIfInBounds_self_of_lt hils]
            rfl
          · rw [if_neg hj, Array.getD_eq_getD_getElem?, Array.getD_eq_getD_getElem?, Array.getElem?_setIfInBounds_ne (fun e => hj e.symm)]
        have hput : ∀ k, o.dst ≠ some k → (a.put o.dst v).eval (.tmp k) = a.eval (.tmp k) := fun k hk => Act.eval_put fun d hd e => by injection e with e; exact hk (by rw [hd, e])
        refine ih _ _ _ (fun j => if j = i then v else vs j) ?_ (by rw [hget, if_neg (by omega)]; exact hunm) ?_
        · refine ⟨hXt _ _ _ I.world hx, ?_, ?_, by rw [Array.size_setIfInBounds, I.len], ?_, ?_, ?_⟩
          · rw [← I.size]; cases h : o.dst <;> simp [Act.put]
          · rw [← I.defers]; cases h : o.dst <;> simp [Act.put]
          · intro j hj hjs
            rw [hget] at hj
            by_cases hji : j = i
            · subst hji
              simp only [if_true]
              refine ⟨hv, fun d hd => ?_⟩
              rw [dst_bind ho] at hd
              have hdl : d < a.tmps.size := by rw [I.size]; exact ((plain_at hp hjs).1 d (by rw [dst_bind ho]; exact hd)).1
              simp [Act.put, hd, Act.eval, hdl]
            · rw [if_neg hji] at hj
              simp only [if_neg hji]
              obtain ⟨h1, h2⟩ := I.vals j hj hjs
              refine ⟨hR _ _ _ _ h1 hx, fun d hd => ?_⟩
              rw [hput d (fun e => ((plain_at hp hjs).1 d hd).2 i hilt (fun e => hji e.symm) (by rw [dst_bind ho]; exact e))]
              exact h2 d hd
          · intro k hk
            have hki : o.dst ≠ some k := by
              have := hk i (by rw [hget, if_pos rfl]) hilt
              rwa [dst_bind ho] at this
            rw [hput k hki]
            exact I.rest k fun j hj hjs => hk j (by rw [hget]; split <;> first | rfl | exact hj) hjs
          · intro j hj hjs k hk
            have hkk : listed.getD k true = true ∧ k < ops.size := by
              rw [hget] at hj
              by_cases hji : j = i
              · subst hji
                exact hpre k hk
              · rw [if_neg hji] at hj
                exact I.closed j hj hjs k hk
            exact ⟨by rw [hget]; split <;> first | rfl | exact hkk.1, hkk.2⟩
        · have hsub : ((List.range ops.size).filter fun j => !(listed.setIfInBounds i true).getD j true) = (((List.range ops.size).filter fun j => !listed.getD j true).filter fun j => !decide (j = i)) := by
            rw [List.filter_filter]
            apply List.filter_congr
            intro j _
            rw [hget]
            by_cases hji : j = i
            · simp [hji]
            · simp [hji]
          rw [hsub]
          have hmem : i ∈ (List.range ops.size).filter fun j => !listed.getD j true := List.mem_filter.2 ⟨List.mem_range.2 hilt, by simp only [hun, Bool.not_false]⟩
          have := List.length_filter_lt_length_iff_exists (p := fun j => !decide (j = i)) |>.2 ⟨i, hmem, by simp⟩
          omega
      have key2 := key (wpAny P .any ops Q fuel (listed.setIfInBounds i true)) next
      unfold wpOp
      rw [ho]
      simp only
      by_cases hw : Region.wanted o (yielded ops a.tmps) = true
      · rw [if_pos hw] at key2 ⊢
        exact .inl (upon_calm _ key2)
      · rw [if_neg hw] at key2 ⊢
        exact key2

/-- the law -/
theorem wp_region_last {id : Nat} {Q : Exit → Act → World → Prop} {w : World} (m : Nat) (X : World → World → Prop) (hXr : ∀ A, X A A) (hXt : ∀ A B C, X A B → X B C → X A C) (R : Nat → Value → World → Prop) (hR : ∀ i v A B, R i v A → X A B → R i v B)
    (hf : P.follows .mixedOrders = true) (hp : plainB ops a0.tmps.size = true) (hm : ops.size = m + 1) (hlast : lastB ops = true) (ol : Oper) (hol : ops[m]? = some ol) (hg : ol.guard = none) (hsteps : RelSteps P ops R X a0 w.drew 0 (ops.toList.take m))
    (hpost : ∀ vs W, X w.drew W → (∀ i, i < m → R i (vs i) W) → ol.wp P (putAll vs 0 (ops.toList.take m) a0) W (fun a W' => Q .normal a W') (fun _ _ _ => False)) : (Code.region id ops true).wp P Q a0 w := by
  refine wp_region_any hf (wp_region_last_aux m hm hXt hR hp hlast hsteps (fun vs W o ho hx hr => ?_) (fun vs W o ho hx hr => ?_) ops.size (Array.replicate ops.size false) a0 w.drew (fun _ => undef) ?_ ?_ ?_)
  · rw [hol] at ho
    injection ho with ho
    subst ho
    exact hpost vs W hx hr
  · rw [hol] at ho
    injection ho with ho
    subst ho
    exact wanted_none hg
  · have hno : ∀ j, (Array.replicate ops.size false).getD j true = true → j < ops.size → False := by
      intro j h hj
      rw [Array.getD_eq_getD_getElem?, Array.getElem?_replicate, if_pos hj] at h
      cases h
    exact ⟨hXr _, rfl, rfl, by simp, fun j h hj => (hno j h hj).elim, fun k _ => rfl, fun j h hj => (hno j h hj).elim⟩
  · rw [Array.getD_eq_getD_getElem?, Array.getElem?_replicate, if_pos (by omega)]
    rfl
  · refine Nat.le_trans (List.length_filter_le _ _) (by simp)
end
end Go.Proofs.YtckbleiikldloaaDoor

/- Entries of a label stack as cells, and footplateref03.Exact. No condition but sizes. -/
namespace Go.Proofs.YtckbleiikldloaaDoor
open Go.RowKit
set_option linter.unusedVariables false
set_option maxRecDepth 20000

/-- an entry of a label stack -/
structure Ent where
  label : Int
  cls : Int
  bot : Bool
  ttl : Int
def Ent.cells (e : Ent) : List Value := [.int .i64 e.label, .int .u8 e.cls, .bool e.bot, .int .u8 e.ttl]
def evs (l : List Ent) : List Value := l.flatMap Ent.cells
theorem evs_length (l : List Ent) : (evs l).length = l.length * 4 := by
  induction l with
  | nil => rfl
  | cons e l ih =>
    have h : evs (e :: l) = e.cells ++ evs l := rfl
    rw [h, List.length_append, ih, List.length_cons, Nat.succ_mul]
    simp [Ent.cells]
    omega
theorem evs_append (a b : List Ent) : evs (a ++ b) = evs a ++ evs b := by simp [evs]
theorem evs_one (l : List Ent) : ∀ u ∈ evs l, u.oneCell' = true := by
  intro u hu
  obtain ⟨e, _, he⟩ := List.mem_flatMap.1 hu
  simp [Ent.cells] at he
  rcases he with rfl | rfl | rfl | rfl <;> rfl

theorem infoEntry : (Tryd.prog.info? 49).map (fun i => (i.zero, i.size, i.bytes)) = some (some (.agg #[.int .i64 0, .int .u8 0, .bool false, .int .u8 0]), 4, 16) := by kernel_rfl

theorem evs_cell (l : List Ent) (i : Nat) (x : Ent) (h : l[i]? = some x) (j : Nat) (hj : j < 4) : (evs l)[i * 4 + j]? = x.cells[j]? := by
  induction l generalizing i with
  | nil => simp at h
  | cons y l ih =>
    have e : evs (y :: l) = y.cells ++ evs l := rfl
    have hl : y.cells.length = 4 := rfl
    rw [e]
    cases i with
    | zero =>
      simp at h
      subst h
      rw [List.getElem?_append_left (by omega)]
      congr 1
      omega
    | succ i =>
      simp at h
      rw [List.getElem?_append_right (by omega), ← ih i h]
      congr 1
      omega
theorem ent_row {w : World} {B n : Nat} {A : Option Addr} {l : List Ent} (h : Row w B 4 A n (evs l)) (i : Nat) (x : Ent) (hi : l[i]? = some x) :
    ∃ b o, A = some ⟨b, o, none⟩ ∧ b < B ∧ w.cell? ⟨b, o + i * 4, none⟩ = some (.int .i64 x.label) ∧ w.cell? ⟨b, o + i * 4 + 1, none⟩ = some (.int .u8 x.cls) ∧ w.cell? ⟨b, o + i * 4 + 2, none⟩ = some (.bool x.bot) ∧ w.cell? ⟨b, o + i * 4 + 3, none⟩ = some (.int .u8 x.ttl) := by
  have hl : l.length = n := by have := h.1; rw [evs_length] at this; omega
  have hn : 0 < n := by
    obtain ⟨hi', _⟩ := List.getElem?_eq_some_iff.1 hi
    omega
  obtain ⟨b, o, rfl, hb, hc⟩ := h.2 hn
  refine ⟨b, o, rfl, hb, ?_, ?_, ?_, ?_⟩
  · exact hc (i * 4) _ (evs_cell l i x hi 0 (by omega))
  · exact hc (i * 4 + 1) _ (evs_cell l i x hi 1 (by omega))
  · exact hc (i * 4 + 2) _ (evs_cell l i x hi 2 (by omega))
  · exact hc (i * 4 + 3) _ (evs_cell l i x hi 3 (by omega))
theorem ent_len {w : World} {B n : Nat} {A : Option Addr} {l : List Ent} (h : Row w B 4 A n (evs l)) : l.length = n := by
  have := h.1; rw [evs_length] at this; omega

set_option maxHeartbeats 1000000 in
theorem exact_same (A A2 : Option Addr) (n c c2 : Nat) (l : List Ent) (w : World) (B : Nat) (h1 : Row w B 4 A n (evs l)) (h2 : Row w B 4 A2 n (evs l)) (hn : n ≤ 1099511627776) :
    Calls Tryd.prog 17 #[.slice A n c, .slice A2 n c2] w fun e w' => e = .returned (.bool true) ∧ Below w.heap.size w w' := by
  have HR1 := Lib.hid h1
  have HR2 := Lib.hid h2
  have HL := Lib.hid (ent_len h1)
  clear h1 h2
  go_enter Tryd.func17, Tryd.ntmps17
  go_wp2_with fail
  go_loopw [5] (fun i wr => ∃ (k : Nat), k ≤ n ∧ i = .int .i64 k ∧ ∃ d, wr = w.drewN d) (fun i _ => n - (intOf i).toNat)
  case atStart => exact ⟨0, by omega, rfl, 0, rfl⟩
  case round =>
    obtain ⟨k, hk, rfl, d, rfl⟩ := hrel
    by_cases hlt : k < n
    · obtain ⟨x, hx⟩ : ∃ x, l[k]? = some x := ⟨_, List.getElem?_eq_getElem (by have := HL.out; omega)⟩
      obtain ⟨b, o, rfl, hb, a0, a1, a2, a3⟩ := ent_row HR1.out k x hx
      obtain ⟨b2, o2, rfl, hb2, b0, b1, b2, b3⟩ := ent_row HR2.out k x hx
      go_wp2_with fail
      go_quiet (fail)
      clear a0 a1 a2 a3 b0 b1 b2 b3
      go_wp2_with fail
      go_roundw
      case rel => exact ⟨k + 1, by omega, by simp, d + nq, rfl⟩
      case measure => simp [intOf]; omega
    · have : k = n := by omega
      subst this
      go_wp2
      go_ret
      exact ⟨rfl, below_drewN (Below.refl _ _) d⟩
end Go.Proofs.YtckbleiikldloaaDoor

/- What entry.Pack, entry.Unpack and the reference's compute. No condition but sizes. -/
namespace Go.Proofs.YtckbleiikldloaaDoor
open Go.RowKit
set_option linter.unusedVariables false
set_option maxRecDepth 20000

/-- an entry's fields are of their kinds -/
structure Ent.fit (e : Ent) : Prop where
  l0 : -9223372036854775808 ≤ e.label
  l1 : e.label ≤ 9223372036854775807
  c0 : 0 ≤ e.cls
  c1 : e.cls ≤ 255
  t0 : 0 ≤ e.ttl
  t1 : e.ttl ≤ 255
/-- may an entry be packed -/
def Ent.good (e : Ent) : Prop := 0 ≤ e.label ∧ e.label ≤ 1048575 ∧ e.cls ≤ 7
instance (e : Ent) : Decidable e.good := inferInstanceAs (Decidable (_ ∧ _))
/-- its number -/
def Ent.num (e : Ent) : Int := e.label * 4096 + e.cls * 512 + (if e.bot then 256 else 0) + e.ttl
/-- its bytes, and its error -/
def packL (e : Ent) : List UInt8 := if e.good then toBe 4 e.num.toNat else []
def packE (e : Ent) : Int := if e.good then 0 else 1

theorem made4 : madeCells (Value.int .u8 0).cells (Int.toNat 4 * 1) = #[.int .u8 0, .int .u8 0, .int .u8 0, .int .u8 0] := by kernel_rfl
theorem join_or (k : Nat) (a b : Nat) (h : b < 2 ^ k) (hs : a * 2 ^ k + b < 18446744073709551616) : bits .or .u64 ((a * 2 ^ k : Nat) : Int) (b : Int) = ((a * 2 ^ k + b : Nat) : Int) := by
  have hp : 0 < 2 ^ k := Nat.pos_of_ne_zero (by simp)
  rw [Nat.mul_comm] at hs
  rw [Nat.mul_comm, u64_or_nat _ _ (by omega) (by omega), nat_join k _ _ (Nat.mul_mod_right _ _) h]
theorem num_or (l c t : Int) (l0 : 0 ≤ l) (l1 : l ≤ 1048575) (c0 : 0 ≤ c) (c1 : c ≤ 7) (t0 : 0 ≤ t) (t1 : t ≤ 255) :
    bits .or .u64 (l * 4096) (c * 512) = l * 4096 + c * 512 ∧ bits .or .u64 (l * 4096 + c * 512) t = l * 4096 + c * 512 + t ∧ bits .or .u64 (l * 4096 + c * 512 + t) 256 = l * 4096 + c * 512 + 256 + t := by
  obtain ⟨l, rfl⟩ := Int.eq_ofNat_of_zero_le l0
  obtain ⟨c, rfl⟩ := Int.eq_ofNat_of_zero_le c0
  obtain ⟨t, rfl⟩ := Int.eq_ofNat_of_zero_le t0
  refine ⟨?_, ?_, ?_⟩
  · have := join_or 12 l (c * 512) (by omega) (by omega)
    rw [show ((l : Int) * 4096) = ((l * 2 ^ 12 : Nat) : Int) by omega, show ((c : Int) * 512) = ((c * 512 : Nat) : Int) by omega, this]
    omega
  · have := join_or 9 (l * 8 + c) t (by omega) (by omega)
    rw [show ((l : Int) * 4096 + c * 512) = (((l * 8 + c) * 2 ^ 9 : Nat) : Int) by omega, this]
    omega
  · have e1 := join_or 9 (l * 8 + c) t (by omega) (by omega)
    have e2 := join_or 9 (l * 8 + c) (256 + t) (by omega) (by omega)
    have e3 : 256 ||| t = 256 + t := by
      have := nat_join 8 256 t (by omega) (by omega)
      exact this
    have e4 : ((l * 8 + c) * 2 ^ 9 + t) ||| 256 = (l * 8 + c) * 2 ^ 9 + (256 + t) := by
      have f1 := nat_join 9 ((l * 8 + c) * 2 ^ 9) t (by omega) (by omega)
      have f2 := nat_join 9 ((l * 8 + c) * 2 ^ 9) (256 + t) (by omega) (by omega)
      rw [← f1, ← f2, ← e3, Nat.or_assoc, Nat.or_comm t 256]
    rw [show ((l : Int) * 4096 + c * 512 + t) = (((l * 8 + c) * 2 ^ 9 + t : Nat) : Int) by omega, show (256 : Int) = ((256 : Nat) : Int) from rfl, u64_or_nat _ _ (by omega) (by omega), e4]
    omega

set_option maxHeartbeats 1000000 in
theorem pack_any (x : Ent) (hf : x.fit) (w : World) :
    Calls Tryd.prog 40 #[.agg #[.int .i64 x.label, .int .u8 x.cls, .bool x.bot, .int .u8 x.ttl]] w fun e w' => ∃ r : Bs, e = .returned (.tuple #[r.v, .int .i64 (packE x)]) ∧ r.ok w' ∧ r.l = packL x ∧ Below w.heap.size w w' := by
  obtain ⟨l, c, b, t⟩ := x
  obtain ⟨l0, l1, c0, c1, t0, t1⟩ := hf
  simp only at *
  by_cases hg : 0 ≤ l ∧ l ≤ 1048575 ∧ c ≤ 7
  · obtain ⟨g0, g1, g2⟩ := hg
    have hE : packE ⟨l, c, b, t⟩ = 0 := if_pos ⟨g0, g1, g2⟩
    have hL : packL ⟨l, c, b, t⟩ = toBe 4 (Ent.num ⟨l, c, b, t⟩).toNat := if_pos ⟨g0, g1, g2⟩
    have hw1 : IntKind.u64.wrap l = l := wrap64_id l (by omega) (by omega)
    obtain ⟨o1, o2, o3⟩ := num_or l c t g0 g1 c0 g2 t0 t1
    obtain ⟨i0, hi0, hz0, hs0, hb0⟩ := info_parts infoByte
    have hrow2 : Row ((w.alloc (.cells #[.int .i64 l, .int .u8 c, .bool b, .int .u8 t] 49)).alloc (.cells #[.int .u8 0, .int .u8 0, .int .u8 0, .int .u8 0] 5)) ((w.alloc (.cells #[.int .i64 l, .int .u8 c, .bool b, .int .u8 t] 49)).alloc (.cells #[.int .u8 0, .int .u8 0, .int .u8 0, .int .u8 0] 5)).heap.size 1 (some ⟨w.heap.size + 1, 0, none⟩) 4 (bv [0, 0, 0, 0]) := by
      have hrow := Row.new (n := 4) (sz := 1) (e := 5) (w.alloc (.cells #[.int .i64 l, .int .u8 c, .bool b, .int .u8 t] 49)) #[.int .u8 0, .int .u8 0, .int .u8 0, .int .u8 0] rfl
      rw [World.size_alloc] at hrow
      rw [World.size_alloc, World.size_alloc]
      exact hrow
    have hB : Below w.heap.size w ((w.alloc (.cells #[.int .i64 l, .int .u8 c, .bool b, .int .u8 t] 49)).alloc (.cells #[.int .u8 0, .int .u8 0, .int .u8 0, .int .u8 0] 5)) := ((Below.refl _ _).alloc (Nat.le_refl _) _).alloc (by simp) _
    have hnum : 0 ≤ Ent.num ⟨l, c, b, t⟩ ∧ Ent.num ⟨l, c, b, t⟩ < 256 ^ (4 : Int).toNat := by
      unfold Ent.num
      simp only [show ((256 : Int) ^ (4 : Int).toNat) = 4294967296 from rfl]
      split <;> omega
    have hput := put_yes _ 4 4 [0, 0, 0, 0] 0 4 (Ent.num ⟨l, c, b, t⟩) _ hrow2 (by omega) (by simp [maxLen]) (by omega) (by omega) (by omega) (by omega) (by omega) hnum.1 hnum.2
    have hmk : Sem.run Tryd.prog (Instr.makeSlice 22 (.int .i64 4) (.int .i64 4)) (w.alloc (.cells #[.int .i64 l, .int .u8 c, .bool b, .int .u8 t] 49)) = .ok (.slice (some ⟨w.heap.size + 1, 0, none⟩) 4 4) ((w.alloc (.cells #[.int .i64 l, .int .u8 c, .bool b, .int .u8 t] 49)).alloc (.cells #[.int .u8 0, .int .u8 0, .int .u8 0, .int .u8 0] 5)) := by
      have := run_make (P := Tryd.prog) (w.alloc (.cells #[.int .i64 l, .int .u8 c, .bool b, .int .u8 t] 49)) 22 5 i0 (.int .u8 0) Tryd.underlying22 hi0 hz0 .i64 .i64 4 4 (by omega) (by omega) (by rw [hb0]; omega) (by omega)
      rw [hs0, World.size_alloc, made4] at this
      exact this
    have HP := Lib.hid hput
    clear hput hrow2 hnum hi0 hz0
    have n0 : Ent.num ⟨l, c, false, t⟩ = l * 4096 + c * 512 + t := by simp [Ent.num]
    have n1 : Ent.num ⟨l, c, true, t⟩ = l * 4096 + c * 512 + 256 + t := by simp [Ent.num]
    cases b
    · rw [n0] at HP hL
      clear n0 n1
      go_enter Tryd.func40, Tryd.ntmps40
      go_wp2_with fail
      refine HP.out.mono ?_
      rintro e w' ⟨A', c', rfl, hown, hb⟩
      have hB2 := hB.trans (hb.mono (by simp; omega))
      have HO := Lib.hid hown
      clear hown
      go_wp2_with fail
      go_ret2
      exact ⟨⟨A', 4, c', _⟩, by rw [hE]; rfl, HO.out.ok, by rw [hL]; simp [toBe], hB2⟩
    · rw [n1] at HP hL
      clear n0 n1
      go_enter Tryd.func40, Tryd.ntmps40
      go_wp2_with fail
      refine HP.out.mono ?_
      rintro e w' ⟨A', c', rfl, hown, hb⟩
      have hB2 := hB.trans (hb.mono (by simp; omega))
      have HO := Lib.hid hown
      clear hown
      go_wp2_with fail
      go_ret2
      exact ⟨⟨A', 4, c', _⟩, by rw [hE]; rfl, HO.out.ok, by rw [hL]; simp [toBe], hB2⟩
  · have hE : packE ⟨l, c, b, t⟩ = 1 := if_neg hg
    have hL : packL ⟨l, c, b, t⟩ = [] := if_neg hg
    have hB : Below w.heap.size w (w.alloc (.cells #[.int .i64 l, .int .u8 c, .bool b, .int .u8 t] 49)) := (Below.refl _ _).alloc (Nat.le_refl _) _
    have key : l < 0 ∨ (0 ≤ l ∧ 1048575 < l) ∨ (0 ≤ l ∧ l ≤ 1048575 ∧ 7 < c) := by omega
    clear hg
    rcases key with h | ⟨h1, h2⟩ | ⟨h1, h2, h3⟩
    all_goals
      go_enter Tryd.func40, Tryd.ntmps40
      go_wp2_with fail
      go_ret2
      exact ⟨⟨none, 0, 0, []⟩, by rw [hE]; rfl, ⟨Row.nil _ _ _ _, Nat.le_refl _, Nat.zero_le _⟩, hL.symm, hB⟩

set_option maxHeartbeats 1000000 in
theorem rpack_any (x : Ent) (hf : x.fit) (w : World) :
    Calls Tryd.prog 47 #[.agg #[.int .i64 x.label, .int .u8 x.cls, .bool x.bot, .int .u8 x.ttl]] w fun e w' => e = .returned (.tuple #[str (packL x), .int .i64 (packE x)]) ∧ Below w.heap.size w w' := by
  obtain ⟨l, c, b, t⟩ := x
  obtain ⟨l0, l1, c0, c1, t0, t1⟩ := hf
  simp only at *
  by_cases hg : 0 ≤ l ∧ l ≤ 1048575 ∧ c ≤ 7
  · obtain ⟨g0, g1, g2⟩ := hg
    have hE : packE ⟨l, c, b, t⟩ = 0 := if_pos ⟨g0, g1, g2⟩
    have hL : packL ⟨l, c, b, t⟩ = toBe 4 (Ent.num ⟨l, c, b, t⟩).toNat := if_pos ⟨g0, g1, g2⟩
    have hB : Below w.heap.size w (w.alloc (.cells #[.int .i64 l, .int .u8 c, .bool b, .int .u8 t] 49)) := (Below.refl _ _).alloc (Nat.le_refl _) _
    rw [hE, hL]
    cases b
    · have n0 : 4096 * l + 512 * c + t = Ent.num ⟨l, c, false, t⟩ := by simp [Ent.num]; omega
      have hw := wrap64_id (4096 * l + 512 * c + t) (by omega) (by omega)
      clear hE hL
      go_enter Tryd.func47, Tryd.ntmps47
      go_wp2_with fail
      refine (bytes_any _ 4 _ (by omega) (by omega) (by omega) (by omega)).mono ?_
      rintro e w' ⟨rfl, hb⟩
      have hB2 := hB.trans (hb.mono (by simp))
      go_wp2_with fail
      go_ret2
      exact ⟨rfl, hB2⟩
    · have n0 : 4096 * l + 512 * c + t + 256 = Ent.num ⟨l, c, true, t⟩ := by simp [Ent.num]; omega
      have hw := wrap64_id (4096 * l + 512 * c + t + 256) (by omega) (by omega)
      clear hE hL
      go_enter Tryd.func47, Tryd.ntmps47
      go_wp2_with fail
      refine (bytes_any _ 4 _ (by omega) (by omega) (by omega) (by omega)).mono ?_
      rintro e w' ⟨rfl, hb⟩
      have hB2 := hB.trans (hb.mono (by simp))
      go_wp2_with fail
      go_ret2
      exact ⟨rfl, hB2⟩
  · have hE : packE ⟨l, c, b, t⟩ = 1 := if_neg hg
    have hL : packL ⟨l, c, b, t⟩ = [] := if_neg hg
    have hB : Below w.heap.size w (w.alloc (.cells #[.int .i64 l, .int .u8 c, .bool b, .int .u8 t] 49)) := (Below.refl _ _).alloc (Nat.le_refl _) _
    have key : l < 0 ∨ (0 ≤ l ∧ 1048575 < l) ∨ (0 ≤ l ∧ l ≤ 1048575 ∧ 7 < c) := by omega
    clear hg
    rw [hE, hL]
    clear hE hL
    rcases key with h | ⟨h1, h2⟩ | ⟨h1, h2, h3⟩
    all_goals
      go_enter Tryd.func47, Tryd.ntmps47
      go_wp2_with fail
      go_ret2
      exact ⟨rfl, hB⟩

theorem heap_set4 {w : World} {g : Nat} {a0 a1 a2 a3 : Value} {t : TypeId} (h : w.heap[g]? = some (.cells #[a0, a1, a2, a3] t (0, 0))) (u0 u1 u2 u3 : Value) :
    ((((w.setCell ⟨g, 0, none⟩ u0).setCell ⟨g, 1, none⟩ u1).setCell ⟨g, 2, none⟩ u2).setCell ⟨g, 3, none⟩ u3).heap[g]? = some (.cells #[u0, u1, u2, u3] t (0, 0)) := by
  have := heap_set (heap_set (heap_set (heap_set h 0 u0) 1 u1) 2 u2) 3 u3
  simpa using this
theorem below_set4 {B : Nat} {a w : World} {g : Nat} (h : Below B a w) (hg : B ≤ g) (u0 u1 u2 u3 : Value) : Below B a ((((w.setCell ⟨g, 0, none⟩ u0).setCell ⟨g, 1, none⟩ u1).setCell ⟨g, 2, none⟩ u2).setCell ⟨g, 3, none⟩ u3) :=
  (((h.setCell (p := ⟨g, 0, none⟩) hg u0).setCell (p := ⟨g, 1, none⟩) hg u1).setCell (p := ⟨g, 2, none⟩) hg u2).setCell (p := ⟨g, 3, none⟩) hg u3
theorem results_cellTmp {P : Program} {fn : Func} {p u : Tmp} {ty : TypeId} (h : fn.results = #[.cell p ty, .tmp u]) (tmps : Array Value) (w : World) (a : Addr) (v : Value) (hp : tmps.getD p undef = .pointer (some a)) (hl : (loadVar ty a).run P w = .ok v w) :
    (results fn tmps).run P w = .ok (.tuple #[v, tmps.getD u undef]) w := by
  have hp' : (tmps[p]?).getD undef = .pointer (some a) := by simpa using hp
  simp [results, h, hp', asAddr, hl]
theorem load_ent {w : World} {g : Nat} {u0 u1 u2 u3 : Value} (h : w.heap[g]? = some (.cells #[u0, u1, u2, u3] 49 (0, 0))) : (loadVar 49 ⟨g, 0, none⟩).run Tryd.prog w = .ok (.agg #[u0, u1, u2, u3]) w :=
  run_loadVar_row w g 49 49 #[u0, u1, u2, u3] (0, 0) _ h Tryd.underlying49 rfl (show (Tryd.prog.info? 49).map (·.size) = some 4 by kernel_rfl)

/-- the entry that bytes begin with, and its error -/
def unpE (l : List UInt8) : Ent := if l.length < 4 then ⟨0, 0, false, 0⟩ else ⟨(be (l.take 4) / 4096 : Nat), (be (l.take 4) / 512 % 8 : Nat), be (l.take 4) / 256 % 2 == 1, (be (l.take 4) % 256 : Nat)⟩
def unpN (l : List UInt8) : Int := if l.length < 4 then 10 else 0

theorem and256 (m : Nat) (h : m < 18446744073709551616) : (bits .and .u64 (m : Int) 256 != 0) = (m / 256 % 2 == 1) := by
  rw [show (256 : Int) = ((256 : Nat) : Int) from rfl, u64_and_nat m 256 (by omega) (by omega)]
  have hb : m.testBit 8 = (m / 256 % 2 == 1) := by
    rw [Nat.testBit_eq_decide_div_mod_eq, show (2 : Nat) ^ 8 = 256 from rfl]
    rfl
  rw [← hb]
  cases hm : m.testBit 8
  · have : m &&& 256 = 0 := by
      apply Nat.eq_of_testBit_eq
      intro i
      rw [Nat.testBit_and, show (256 : Nat) = 2 ^ 8 from rfl, Nat.testBit_two_pow]
      by_cases hi : 8 = i
      · subst hi; simp [hm]
      · simp [hi]
    rw [this]
    rfl
  · have : m &&& 256 ≠ 0 := by
      intro h0
      have := congrArg (Nat.testBit · 8) h0
      simp only [Nat.testBit_and, hm, Nat.zero_testBit] at this
      exact absurd this (by decide)
    simp [this]

theorem unpack_any (A : Option Addr) (n c : Nat) (l : List UInt8) (w : World) (h : Row w w.heap.size 1 A n (bv l)) (hc : n ≤ c) (hcm : c ≤ maxLen) (hn : n ≤ 1099511627776) :
    Calls Tryd.prog 57 #[.slice A n c] w fun e w' => e = .returned (.tuple #[.agg #[.int .i64 (unpE l).label, .int .u8 (unpE l).cls, .bool (unpE l).bot, .int .u8 (unpE l).ttl], .int .i64 (unpN l)]) ∧ Below w.heap.size w w' := by
  have hlen : l.length = n := by have := h.1; rw [bv_length] at this; omega
  have hB : Below w.heap.size w (w.alloc (.cells #[.int .i64 0, .int .u8 0, .bool false, .int .u8 0] 49)) := (Below.refl _ _).alloc (Nat.le_refl _) _
  by_cases h4 : n < 4
  · have hE : unpE l = ⟨0, 0, false, 0⟩ := if_pos (by omega)
    have hN : unpN l = 10 := if_pos (by omega)
    rw [hE, hN]
    have G := Lib.hid (get_no A n c l 0 4 (w.alloc (.cells #[.int .i64 0, .int .u8 0, .bool false, .int .u8 0] 49)) ((h.below hB).more hB.size) hc hcm hn (by unfold There; omega))
    clear hE hN hlen h
    go_enter Tryd.func57, Tryd.ntmps57
    go_wp2_with fail
    refine G.out.mono ?_
    rintro e w' ⟨rfl, hb⟩
    have hB2 := hB.trans (hb.mono (by simp))
    have hc0 := hb.block w.heap.size (by simp)
    rw [heap_new] at hc0
    have k0 := cell_at hc0 0
    have k1 := cell_at hc0 1
    have k2 := cell_at hc0 2
    have k3 := cell_at hc0 3
    have kf := frozen_at hc0
    have HB := Lib.hid hc0
    clear hc0
    go_wp2_with fail
    refine bodyPost_ret (results_cellTmp rfl _ _ ⟨w.heap.size, 0, none⟩ _ rfl (load_ent (heap_set4 HB.out _ _ _ _))) rfl ?_
    exact ⟨rfl, below_set4 hB2 (Nat.le_refl _) _ _ _ _⟩
  · have hE : unpE l = _ := if_neg (by omega)
    have hN : unpN l = 0 := if_neg (by omega)
    rw [hE, hN]
    have G := Lib.hid (get_yes A n c l 0 4 (w.alloc (.cells #[.int .i64 0, .int .u8 0, .bool false, .int .u8 0] 49)) ((h.below hB).more hB.size) hc hcm hn (by omega) (by omega) (by omega) (by omega))
    have hd : (l.drop (0 : Int).toNat).take (4 : Int).toNat = l.take 4 := rfl
    rw [hd] at G
    have hlt : be (l.take 4) < 4294967296 := by
      have := be_lt (l.take 4)
      rw [List.length_take, show min 4 l.length = 4 by omega] at this
      exact this
    generalize be (l.take 4) = m at G hlt
    clear hE hN hlen h hd
    go_enter Tryd.func57, Tryd.ntmps57
    go_wp2_with fail
    refine G.out.mono ?_
    rintro e w' ⟨rfl, hb⟩
    have hB2 := hB.trans (hb.mono (by simp))
    have hc0 := hb.block w.heap.size (by simp)
    rw [heap_new] at hc0
    have k0 := cell_at hc0 0
    have k1 := cell_at hc0 1
    have k2 := cell_at hc0 2
    have k3 := cell_at hc0 3
    have kf := frozen_at hc0
    have HB := Lib.hid hc0
    clear hc0
    go_wp2_with fail
    refine bodyPost_ret (results_cellTmp rfl _ _ ⟨w.heap.size, 0, none⟩ _ rfl (load_ent (heap_set4 HB.out _ _ _ _))) rfl ?_
    refine ⟨?_, below_set4 hB2 (Nat.le_refl _) _ _ _ _⟩
    rw [and256 m (by omega)]
    simp

theorem runpack_any (l : List UInt8) (w : World) (hn : l.length ≤ 1099511627776) :
    Calls Tryd.prog 63 #[str l] w fun e w' => e = .returned (.tuple #[.agg #[.int .i64 (unpE l).label, .int .u8 (unpE l).cls, .bool (unpE l).bot, .int .u8 (unpE l).ttl], .int .i64 (unpN l)]) ∧ Below w.heap.size w w' := by
  have hB2 : Below w.heap.size w (w.alloc (.cells #[.int .i64 0, .int .u8 0, .bool false, .int .u8 0] 49)) := (Below.refl _ _).alloc (Nat.le_refl _) _
  have hc0 := heap_new w #[.int .i64 0, .int .u8 0, .bool false, .int .u8 0] 49
  have HB := Lib.hid hc0
  clear hc0
  by_cases h4 : l.length < 4
  · have hE : unpE l = ⟨0, 0, false, 0⟩ := if_pos (by omega)
    have hN : unpN l = 10 := if_pos (by omega)
    rw [hE, hN]
    have G := fun w => rget_no l 0 4 w hn (by unfold There; omega)
    have HG := Lib.hid G
    clear hE hN G
    go_enter Tryd.func63, Tryd.ntmps63
    go_wp2_with fail
    refine (HG.out _).mono ?_
    rintro e w' ⟨rfl, rfl⟩
    go_wp2_with fail
    refine bodyPost_ret (results_cellTmp rfl _ _ ⟨w.heap.size, 0, none⟩ _ rfl (load_ent (heap_new _ _ _))) rfl ?_
    exact ⟨rfl, (Below.refl _ _).alloc (Nat.le_refl _) _⟩
  · have hE : unpE l = _ := if_neg (by omega)
    have hN : unpN l = 0 := if_neg (by omega)
    rw [hE, hN]
    have G := fun w => rget_yes l 0 4 w hn (by omega) (by omega) (by omega) (by omega)
    have hd : (l.drop (0 : Int).toNat).take (4 : Int).toNat = l.take 4 := rfl
    simp only [hd] at G
    have hlt : be (l.take 4) < 4294967296 := by
      have := be_lt (l.take 4)
      rw [List.length_take, show min 4 l.length = 4 by omega] at this
      exact this
    generalize be (l.take 4) = m at G hlt
    have HG := Lib.hid G
    clear hE hN G hd
    go_enter Tryd.func63, Tryd.ntmps63
    go_wp2_with fail
    refine (HG.out _).mono ?_
    rintro e w' ⟨rfl, rfl⟩
    go_wp2_with fail
    refine bodyPost_ret (results_cellTmp rfl _ _ ⟨w.heap.size, 0, none⟩ _ rfl (load_ent (heap_new _ _ _))) rfl ?_
    refine ⟨?_, (Below.refl _ _).alloc (Nat.le_refl _) _⟩
    have hbb : (((m : Int) / 256 % 2) == 1) = (m / 256 % 2 == 1) := by
      by_cases hm : m / 256 % 2 = 1
      · have : (m : Int) / 256 % 2 = 1 := by omega
        simp [hm, this]
      · have : (m : Int) / 256 % 2 = 0 := by omega
        have : m / 256 % 2 = 0 := by omega
        simp [*]
    rw [hbb]
    simp
end Go.Proofs.YtckbleiikldloaaDoor


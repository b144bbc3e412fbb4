/- Texts of this claim put together, in build order: each one's own remark stands ahead of it. -/
import Derived.Test.YtbcjkjmjljfhpaaDoorG06
import Derived.Test.YtbcjkjmjljfhpaaDoorG01
import Derived.Test.YtbcjkjmjljfhpaaDoorG03
/- Plain laws of IPv6's packets: what is put is parsed. No condition. -/
namespace Go.Proofs.YtbcjkjmjljfhpaaDoor
open Go.RowKit
set_option linter.unusedVariables false
set_option maxRecDepth 20000
set_option linter.unusedSimpArgs false

/-- a packet -/
def pkt6 (h : H6) (l : List UInt8) : List UInt8 := front6 h l.length ++ h.src ++ h.dst ++ l
theorem front6_length (h : H6) (n : Nat) : (front6 h n).length = 8 := by simp [front6, toBe_length]
theorem pkt6_length (h : H6) (hf : h.ok) (l : List UInt8) : (pkt6 h l).length = 40 + l.length := by
  simp only [pkt6, List.length_append, front6_length, hf.src, hf.dst]
theorem par6_pkt (h : H6) (hf : h.fit) (hx0 : 0 ≤ h.flow) (hx1 : h.flow < 1048576) (l more : List UInt8) (hl : l.length ≤ 65495) :
    par6 (pkt6 h l ++ more) = ({ h with len := (l.length : Nat) }, 0) := by
  obtain ⟨c0, c1⟩ := hf.cls
  obtain ⟨n0, n1⟩ := hf.next
  obtain ⟨t0, t1⟩ := hf.ttl
  obtain ⟨N, hN⟩ : ∃ N : Nat, (N : Int) = 1610612736 + h.cls * 1048576 + h.flow := ⟨(1610612736 + h.cls * 1048576 + h.flow).toNat, by omega⟩
  have hfr : front6 h l.length = toBe 4 N ++ toBe 2 l.length ++ [ub h.next, ub h.ttl] := by
    unfold front6
    rw [← hN, Int.toNat_natCast]
  have e0 : pkt6 h l ++ more = [] ++ toBe 4 N ++ (toBe 2 l.length ++ [ub h.next, ub h.ttl] ++ h.src ++ h.dst ++ l ++ more) := by simp [pkt6, hfr]
  have e4 : pkt6 h l ++ more = toBe 4 N ++ toBe 2 l.length ++ ([ub h.next, ub h.ttl] ++ h.src ++ h.dst ++ l ++ more) := by simp [pkt6, hfr]
  have hF : numF (pkt6 h l ++ more) 0 4 = N := by
    rw [e0, numF_mid [] (toBe 4 N) _ 0 4 rfl (toBe_length _ _), be_toBe]
    exact Nat.mod_eq_of_lt (by omega)
  have hL : numF (pkt6 h l ++ more) 4 2 = l.length := by
    rw [e4, numF_mid (toBe 4 N) (toBe 2 l.length) _ 4 2 (toBe_length _ _) (toBe_length _ _), be_toBe]
    exact Nat.mod_eq_of_lt (by omega)
  have h6 : (pkt6 h l ++ more).getD 6 0 = ub h.next := by
    have e : pkt6 h l ++ more = (toBe 4 N ++ toBe 2 l.length) ++ (ub h.next :: ub h.ttl :: (h.src ++ h.dst ++ l ++ more)) := by simp [pkt6, hfr]
    rw [e, List.getD_eq_getElem?_getD, List.getElem?_append_right (by simp [toBe_length])]
    simp [toBe_length]
  have h7 : (pkt6 h l ++ more).getD 7 0 = ub h.ttl := by
    have e : pkt6 h l ++ more = (toBe 4 N ++ toBe 2 l.length ++ [ub h.next]) ++ (ub h.ttl :: (h.src ++ h.dst ++ l ++ more)) := by simp [pkt6, hfr]
    rw [e, List.getD_eq_getElem?_getD, List.getElem?_append_right (by simp [toBe_length])]
    simp [toBe_length]
  have h8 : ((pkt6 h l ++ more).drop 8).take 16 = h.src := by
    have e : pkt6 h l ++ more = front6 h l.length ++ (h.src ++ (h.dst ++ l ++ more)) := by simp [pkt6]
    rw [e, List.drop_left' (front6_length _ _), List.take_left' hf.ok.src]
  have h24 : ((pkt6 h l ++ more).drop 24).take 16 = h.dst := by
    have e : pkt6 h l ++ more = (front6 h l.length ++ h.src) ++ (h.dst ++ (l ++ more)) := by simp [pkt6]
    rw [e, List.drop_left' (by rw [List.length_append, front6_length, hf.ok.src]), List.take_left' hf.ok.dst]
  have hlen : (pkt6 h l ++ more).length = 40 + l.length + more.length := by rw [List.length_append, pkt6_length h hf.ok]
  unfold par6
  rw [hF, hL, h6, h7, h8, h24, if_neg (by omega), if_neg (by omega), if_neg (by omega)]
  have k1 : ((N / 1048576 % 256 : Nat) : Int) = h.cls := by omega
  have k2 : ((N % 1048576 : Nat) : Int) = h.flow := by omega
  rw [k1, k2, ub_nat _ n0 n1, ub_nat _ t0 t1]
theorem body6_pkt (h : H6) (hf : h.fit) (hx0 : 0 ≤ h.flow) (hx1 : h.flow < 1048576) (l more : List UInt8) (hl : l.length ≤ 65495) : body6 (pkt6 h l ++ more) = l := by
  unfold body6
  rw [par6_pkt h hf hx0 hx1 l more hl, if_pos rfl]
  have e : pkt6 h l ++ more = (front6 h l.length ++ h.src ++ h.dst) ++ (l ++ more) := by simp [pkt6]
  rw [e, List.drop_left' (by simp [front6_length, hf.ok.src, hf.ok.dst])]
  simp
theorem ttl6_pkt (h : H6) (hf : h.fit) (hx0 : 0 ≤ h.flow) (hx1 : h.flow < 1048576) (l more : List UInt8) (hl : l.length ≤ 65495) (t : Int) : ttl6 (pkt6 h l ++ more) t = pkt6 { h with ttl := t } l ++ more := by
  unfold ttl6
  rw [par6_pkt h hf hx0 hx1 l more hl, if_pos rfl]
  obtain ⟨N, hN⟩ : ∃ N : Nat, N = (1610612736 + h.cls * 1048576 + h.flow).toNat := ⟨_, rfl⟩
  have hX : ∀ u, pkt6 { h with ttl := u } l ++ more = (toBe 4 N ++ toBe 2 l.length ++ [ub h.next]) ++ (ub u :: (h.src ++ h.dst ++ l ++ more)) := by intro u; simp [pkt6, front6, hN]
  have hl7 : (toBe 4 N ++ toBe 2 l.length ++ [ub h.next]).length = 7 := by simp [toBe_length]
  rw [hX t]
  have := hX h.ttl
  rw [show ({ h with ttl := h.ttl } : H6) = h from rfl] at this
  rw [this, List.take_left' hl7, show (8 : Nat) = 7 + 1 from rfl, ← List.drop_drop, List.drop_left' hl7]
  rfl
theorem put6_yes (h : H6) (hx0 : 0 ≤ h.flow) (hx1 : h.flow < 1048576) (l : List UInt8) (hl : l.length ≤ 65495) : put6 h l = (pkt6 h l, 0) := by
  unfold put6
  rw [if_neg (by omega), if_neg (by omega)]
  rfl
end Go.Proofs.YtbcjkjmjljfhpaaDoor

/- An append whose row is known to be turned only where it has room; a drawn region that holds one. No condition. -/
namespace Go.Proofs.YtbcjkjmjljfhpaaDoor
open Go.RowKit
set_option linter.unusedVariables false
set_option maxRecDepth 20000
section
variable {P : Program} {w : World}
theorem run_append_Own2 (base : Nat) (t ty e : TypeId) (z : Value) (sz bytes : Nat) (ht : P.underlying t = some (.slice e)) (hinfo : (P.info? e).map (fun i => (i.zero, i.size, i.bytes)) = some (some z, sz, bytes))
    (hzs : z.cells.size = sz) (hsz : 0 < sz)
    (A : Option Addr) (n c : Nat) (xs : List Value) (hown : Own w base e sz A n c xs)
    (B : Nat) (X : Option Addr) (m cx : Nat) (news : List Value) (hr : Row w B sz X m news) (h1 : ∀ u ∈ news, u.oneCell' = true)
    (h63 : n + m ≤ maxLen) (hbytes : (n + m) * bytes ≤ 140737488355328) (hbase : base ≤ w.heap.size) :
    ∃ A' c' w', (Builtin.append_ #[t, t] ty #[.slice A n c, .slice X m cx]).run P w = .ok (.slice A' (n + m) c') w' ∧ Own w' base e sz A' (n + m) c' (xs ++ news) ∧ w.grownBy w' (if n + m ≤ c then blk A c else none) ∧
      (n + m ≤ c → A' = A ∧ c' = c) ∧ (¬ n + m ≤ c → ∃ g, A' = some ⟨g, 0, none⟩ ∧ w.heap.size ≤ g) := by
  obtain ⟨i, hi, hz, hsize, hby⟩ := info_parts hinfo
  subst hsize
  subst hby
  rcases Nat.eq_zero_or_pos m with h0 | h0
  · subst h0
    have hn : news = [] := List.eq_nil_of_length_eq_zero (by simpa using hr.1)
    subst hn
    refine ⟨A, c, w, run_append_same w t ty e i ht hi A X n c cx hown.le, by simpa using hown, World.grownBy.refl w _, fun _ => ⟨rfl, rfl⟩, fun h => absurd hown.le (by simpa using h)⟩
  obtain ⟨b, o, rfl, hbB, hcell⟩ := hr.2 h0
  have hnews : ∀ j u, news[j]? = some u → w.cell? ((⟨b, o, none⟩ : Addr).add j) = some u := by
    intro j u hu
    have := hcell j u hu
    unfold Addr.add
    split
    · rename_i hj; subst hj; simpa using this
    · exact this
  have hsmall : n + m ≤ 9223372036854775807 := by simp only [maxLen] at h63; omega
  have hlen : (xs ++ news).length = (n + m) * i.size := by rw [List.length_append, hown.len, hr.1, Nat.add_mul]
  have grown : ∀ (old : Nat), Own (w.drew.alloc (.cells (xs.toArray ++ news.toArray ++ Builtin.zeroCells z.cells (grownCap w (n + m) old e - (n + m))) e)) base e i.size
        (some ⟨w.heap.size, 0, none⟩) (n + m) (grownCap w (n + m) old e) (xs ++ news) := by
    intro old
    have hge := grownCap_ge w (n + m) old e
    refine ⟨hlen, hge, grownCap_le_maxLen w (n + m) old e h63, .inr ⟨w.heap.size, _, rfl, hbase, heap_alloc_new w.drew _, ?_, ?_⟩⟩
    · simp only [Array.size_append, List.size_toArray, size_zeroCells, hzs, hown.len, hr.1, ← Nat.add_mul]
      congr 1
      omega
    · simp only [Array.toList_append, List.append_assoc]
      rw [← List.append_assoc, ← hlen]
      exact List.take_left
  have hnn : news.length = m * i.size := hr.1
  by_cases hroom : n + m ≤ c
  · rcases hown.own with ⟨hn0, hc0⟩ | ⟨g, cur, rfl, hbg, hg, hcs, htake⟩
    · omega
    · have hfit : n * i.size + news.length ≤ cur.size := by rw [hnn, hcs, ← Nat.add_mul]; exact Nat.mul_le_mul_right _ hroom
      have hrun := run_append_room (P := P) w t ty e i ht hi g n c cur hg ⟨b, o, none⟩ m cx news hnn hnews h1 hroom hfit
      refine ⟨_, _, _, hrun, ⟨hlen, hroom, hown.cap, .inr ⟨g, _, rfl, hbg, setRow_heap w g cur _ e _ hg, ?_, ?_⟩⟩, by rw [if_pos hroom]; exact ⟨rfl, rfl, rfl, by simp, fun k _ hk => setRow_other w g k _ (fun e => hk (by rw [e]; unfold blk; rw [if_neg (by omega)]; rfl))⟩, fun _ => ⟨rfl, rfl⟩, fun h => absurd hroom h⟩
      · simp only [List.size_toArray, List.length_append, List.length_take, List.length_drop, Array.length_toList]
        omega
      · rw [htake, ← hlen]
        exact List.take_left
  · rcases A with _ | ad
    · have hn0 : n = 0 := by
        rcases hown.own with ⟨hn0, hc0⟩ | ⟨g, cur, hA, _⟩
        · exact hn0
        · cases hA
      have hc0 : c = 0 := by
        rcases hown.own with ⟨hn0, hc0⟩ | ⟨g, cur, hA, _⟩
        · exact hc0
        · cases hA
      subst hn0
      subst hc0
      have hx : xs = [] := List.eq_nil_of_length_eq_zero (by simpa using hown.len)
      subst hx
      have hrun := run_append_nil (P := P) w t ty e i z ht hi hz ⟨b, o, none⟩ m cx news hnn hnews h0 (by omega) (by have hb := hbytes; simp only [Nat.zero_add] at hb; omega)
      have hgr := grown 0
      simp only [Nat.zero_add, List.nil_append, Array.empty_append] at hgr ⊢
      exact ⟨_, _, _, hrun, hgr, by rw [if_neg (by omega)]; exact grownBy_new w _ _ _, fun h => absurd h (by omega), fun _ => ⟨_, rfl, Nat.le_refl _⟩⟩
    · have holds : ∀ j u, xs[j]? = some u → w.cell? (ad.add j) = some u := by
        intro j u hu
        have hj : j < xs.length := by
          rcases Nat.lt_or_ge j xs.length with h | h
          · exact h
          · rw [List.getElem?_eq_none h] at hu; cases hu
        have hnp : 0 < n := by
          rcases Nat.eq_zero_or_pos n with hz0 | hp
          · rw [hown.len, hz0] at hj; omega
          · exact hp
        obtain ⟨b', o', hA, _, hc'⟩ := hown.row.2 hnp
        injection hA with hA
        subst hA
        have := hc' j u hu
        unfold Addr.add
        split
        · rename_i hj0; subst hj0; simpa using this
        · exact this
      have hrun := run_append_grow (P := P) w t ty e i z ht hi hz ad n c xs hown.len holds ⟨b, o, none⟩ m cx news hnn hnews (by omega) (by omega) (growslice_fits (by omega) hbytes)
      exact ⟨_, _, _, hrun, grown c, by rw [if_neg hroom]; exact grownBy_new w _ _ _, fun h => absurd h hroom, fun _ => ⟨_, rfl, Nat.le_refl _⟩⟩
end
/-- what an append leaves -/
def OwnV (base k : Nat) (xs : List Value) (v : Value) (W : World) : Prop := ∃ A c, v = .slice A k c ∧ Own W base 5 1 A k c xs
theorem OwnV.grown {base k : Nat} {xs : List Value} {v : Value} {A B : World} (h : OwnV base k xs v A) (hg : A.grownBy B none) : OwnV base k xs v B := by
  obtain ⟨X, c, hv, ho⟩ := h
  exact ⟨X, c, hv, ho.kept hg (fun g _ e => by cases e)⟩
structure AppS where
  base : Nat
  n : Nat
  c : Nat
  A : Option Addr
/-- a region that appends once to a row: its steps -/
structure ExtA (p : AppS) (xs news : List Value) (A B : World) : Prop where
  grown : A.grownBy B (blk p.A p.c)
  stays : ∀ v, OwnV p.base (p.n + news.length) (xs ++ news) v A → OwnV p.base (p.n + news.length) (xs ++ news) v B
  pre : Own A p.base 5 1 p.A p.n p.c xs → Own B p.base 5 1 p.A p.n p.c xs
theorem ExtA.refl (p : AppS) (xs news : List Value) (A : World) : ExtA p xs news A A := ⟨grown_refl A _, fun _ h => h, id⟩
theorem ExtA.trans {p : AppS} {xs news : List Value} {A B C : World} (h : ExtA p xs news A B) (k : ExtA p xs news B C) : ExtA p xs news A C := ⟨grown_trans h.grown k.grown, fun v x => k.stays v (h.stays v x), fun x => k.pre (h.pre x)⟩
theorem grown_wide {A B : World} (row : Option Nat) (h : A.grownBy B none) : A.grownBy B row := below_grow (grow_below h) row
theorem ExtA.plain {p : AppS} {xs news : List Value} {A B : World} (h : A.grownBy B none) : ExtA p xs news A B := ⟨grown_wide _ h, fun _ x => x.grown h, fun x => x.kept h (fun g _ e => by cases e)⟩
theorem blk_some {W : World} {base n c g : Nat} {t : TypeId} {A : Option Addr} {xs : List Value} (h : Own W base t 1 A n c xs) (hb : blk A c = some g) : A = some ⟨g, 0, none⟩ ∧ ∃ cur : Array Value, W.heap[g]? = some (.cells cur t (0, 0)) ∧ cur.size = c := by
  unfold blk at hb
  split at hb
  · cases hb
  · rename_i hc
    rcases h.own with ⟨_, h0⟩ | ⟨g', cur, rfl, _, hh, hs, _⟩
    · omega
    · simp at hb
      subst hb
      exact ⟨rfl, cur, hh, by omega⟩
theorem own_short {W : World} {base n m c : Nat} {t : TypeId} {A : Option Addr} {xs news : List Value} (h : Own W base t 1 A (n + m) c (xs ++ news)) (hx : xs.length = n) : Own W base t 1 A n c xs := by
  refine ⟨by omega, by have := h.le; omega, h.cap, ?_⟩
  rcases h.own with ⟨h0, h1⟩ | ⟨g, cur, hA, hb, hh, hs, ht⟩
  · exact .inl ⟨by omega, h1⟩
  · refine .inr ⟨g, cur, hA, hb, hh, hs, ?_⟩
    have h2 := congrArg (List.take n) ht
    rw [List.take_take, List.take_left' hx, show min n ((n + m) * 1) = n * 1 by omega] at h2
    exact h2
theorem ExtA.app {w w' : World} {p : AppS} {c' : Nat} {A' : Option Addr} {xs news : List Value} (ho : Own w p.base 5 1 p.A p.n p.c xs) (ho' : Own w' p.base 5 1 A' (p.n + news.length) c' (xs ++ news))
    (hg : w.grownBy w' (if p.n + news.length ≤ p.c then blk p.A p.c else none)) (hin : p.n + news.length ≤ p.c → A' = p.A ∧ c' = p.c) : ExtA p xs news w w' := by
  by_cases hr : p.n + news.length ≤ p.c
  · rw [if_pos hr] at hg
    obtain ⟨e1, e2⟩ := hin hr
    rw [e1, e2] at ho'
    refine ⟨hg, fun v hv => ?_, fun _ => own_short ho' (by have := ho.len; omega)⟩
    obtain ⟨X, d, rfl, hx⟩ := hv
    by_cases he : ∃ g, blk X d = some g ∧ blk p.A p.c = some g
    · obtain ⟨g, h1, h2⟩ := he
      obtain ⟨rfl, cur, hc1, hs1⟩ := blk_some hx h1
      obtain ⟨e3, cur2, hc2, hs2⟩ := blk_some ho h2
      rw [hc1] at hc2
      injection hc2 with hc2
      injection hc2 with hc2
      subst hc2
      rw [e3] at ho'
      exact ⟨_, _, by rw [show d = p.c by omega], ho'⟩
    · exact ⟨X, d, rfl, hx.kept hg (fun g h1 h2 => he ⟨g, h1, h2⟩)⟩
  · rw [if_neg hr] at hg
    exact ExtA.plain hg
end Go.Proofs.YtbcjkjmjljfhpaaDoor

/- A region that draws its order, walked once, where what an operation leaves may hang on what one that it waits for left. And blocks that a region makes and fills itself. No condition. -/
namespace Go.Proofs.YtbcjkjmjljfhpaaDoor
open Go.RowKit
set_option linter.unusedVariables false
set_option maxRecDepth 20000

/-- what an operation leaves: said of its value alone, or of its value and that of operation k, for which it waits -/
inductive Pr
  | one (P : Value → World → Prop)
  | two (k : Nat) (P : Value → Value → World → Prop)
def Pr.at_ (p : Pr) (vs : Nat → Value) (v : Value) (W : World) : Prop := match p with | .one P => P v W | .two k P => P (vs k) v W
def prAt (ps : List Pr) (i : Nat) : Pr := ps.getD i (.one fun _ _ => True)
def locB (ops : Array Oper) (ps : List Pr) : Bool := (List.range ops.size).all fun i => match prAt ps i with | .one _ => true | .two k _ => waits ops i k
def Pr.mono (X : World → World → Prop) : Pr → Prop
  | .one P => ∀ v A B, P v A → X A B → P v B
  | .two _ P => ∀ u v A B, P u v A → X A B → P u v B
inductive MonoP (X : World → World → Prop) : List Pr → Prop
  | nil : MonoP X []
  | cons {r : Pr} {l : List Pr} (h : r.mono X) (t : MonoP X l) : MonoP X (r :: l)
theorem MonoP.at_ {X : World → World → Prop} {l : List Pr} (h : MonoP X l) : ∀ i, (prAt l i).mono X := by
  induction h with
  | nil => intro i; unfold prAt; simp [Pr.mono]
  | cons h t ih =>
    intro i
    cases i with
    | zero => exact h
    | succ i => exact ih i
theorem Pr.at_mono {X : World → World → Prop} {p : Pr} (h : p.mono X) {vs : Nat → Value} {v : Value} {A B : World} (hp : p.at_ vs v A) (hx : X A B) : p.at_ vs v B := by
  cases p with
  | one P => exact h _ _ _ hp hx
  | two k P => exact h _ _ _ _ hp hx

section
variable (P : Program) (ops : Array Oper) (ps : List Pr) (X : World → World → Prop) (a0 : Act) (w0 : World)
def RelStep2 (i : Nat) (o : Oper) : Prop :=
  ∀ (a : Act) (vs : Nat → Value) (W : World), X w0 W → (∀ j, waits ops i j = true → (prAt ps j).at_ vs (vs j) W) → (∀ j d, waits ops i j = true → dstOf ops j = some d → a.eval (.tmp d) = vs j) →
    (∀ k, freshFor ops i k = true → a.eval (.tmp k) = a0.eval (.tmp k)) → ∀ K : Act → World → Prop, (∀ v W', (prAt ps i).at_ vs v W' → X W W' → K (a.put o.dst v) W') →
    if Region.wanted o (yielded ops a.tmps) = true then o.wp P a W K (fun _ _ _ => False) else K (a.put o.dst undef) W
def RelSteps2 : Nat → List Oper → Prop
  | _, [] => True
  | i, o :: r => RelStep2 P ops ps X a0 w0 i o ∧ RelSteps2 (i + 1) r
end

section
variable {P : Program} {ops : Array Oper} {ps : List Pr} {X : World → World → Prop} {a0 : Act} {w0 : World}
theorem relSteps2_at (l : List Oper) : ∀ (k : Nat), RelSteps2 P ops ps X a0 w0 k l → ∀ (i : Nat) (o : Oper), l[i]? = some o → RelStep2 P ops ps X a0 w0 (k + i) o := by
  induction l with
  | nil => intro k _ i o h; simp at h
  | cons x l ih =>
    intro k h i o hi
    cases i with
    | zero => simp at hi; subst hi; exact h.1
    | succ i =>
      have := ih (k + 1) h.2 i o (by simpa using hi)
      rwa [show k + 1 + i = k + (i + 1) by omega] at this
/-- what holds between two operations -/
structure RelInv2 (ops : Array Oper) (ps : List Pr) (X : World → World → Prop) (a0 : Act) (w0 : World) (listed : Array Bool) (a : Act) (W : World) (vs : Nat → Value) : Prop where
  world : X w0 W
  size : a.tmps.size = a0.tmps.size
  defers : a.defers = a0.defers
  len : listed.size = ops.size
  vals : ∀ j, listed.getD j true = true → j < ops.size → (prAt ps j).at_ vs (vs j) W ∧ ∀ d, dstOf ops j = some d → a.eval (.tmp d) = vs j
  rest : ∀ k, (∀ j, listed.getD j true = true → j < ops.size → dstOf ops j ≠ some k) → a.eval (.tmp k) = a0.eval (.tmp k)
  closed : ∀ j, listed.getD j true = true → j < ops.size → ∀ i, waits ops j i = true → listed.getD i true = true ∧ i < ops.size

theorem locAt (h : locB ops ps = true) {j k : Nat} {Q : Value → Value → World → Prop} (hj : j < ops.size) (hp : prAt ps j = .two k Q) : waits ops j k = true := by
  have := List.all_eq_true.1 h j (List.mem_range.2 hj)
  rw [hp] at this
  exact this
theorem wp_region_rel2_aux {Q : Exit → Act → World → Prop} (hXt : ∀ A B C, X A B → X B C → X A C) (hR : ∀ i, (prAt ps i).mono X) (hloc : locB ops ps = true) (hp : plainB ops a0.tmps.size = true)
    (hsteps : RelSteps2 P ops ps X a0 w0 0 ops.toList) (hpost : ∀ vs W, X w0 W → (∀ i, i < ops.size → (prAt ps i).at_ vs (vs i) W) → Q .normal (putAll vs 0 ops.toList a0) W) :
    ∀ (fuel : Nat) (listed : Array Bool) (a : Act) (W : World) (vs : Nat → Value), RelInv2 ops ps X a0 w0 listed a W vs → ((List.range ops.size).filter fun i => !listed.getD i true).length ≤ fuel → wpAny P .any ops Q fuel listed a W := by
  have fin : ∀ (listed : Array Bool) (a : Act) (W : World) (vs : Nat → Value), RelInv2 ops ps X a0 w0 listed a W vs → (∀ i, i < ops.size → listed.getD i true = true) → Q .normal a W := by
    intro listed a W vs I hall
    have ha : a = putAll vs 0 ops.toList a0 := by
      refine act_ext (by rw [putAll_size, I.size]) (by rw [putAll_defers, I.defers]) fun k hk => ?_
      by_cases hw : ∃ j, j < ops.size ∧ dstOf ops j = some k
      · obtain ⟨j, hj, hd⟩ := hw
        rw [(I.vals j (hall j hj) hj).2 k hd]
        have hoj : ops.toList[j]? = some ops[j] := by simp [Array.getElem?_eq_getElem hj]
        have := putAll_some vs ops.toList k 0 a0 j ops[j] hoj (by rw [← dst_bind (Array.getElem?_eq_getElem hj)]; exact hd) (by rw [← I.size]; exact hk) (fun i x hx hne => by
          have hx' : ops[i]? = some x := by simpa using hx
          rw [← dst_bind hx']
          exact ((plain_at hp hj).1 k hd).2 i (Array.getElem?_eq_some_iff.1 hx').1 hne)
        rw [this, Nat.zero_add]
      · rw [I.rest k (fun j _ hj hd => hw ⟨j, hj, hd⟩)]
        refine (putAll_none vs ops.toList k 0 a0 fun o ho hd => ?_).symm
        obtain ⟨j, hj⟩ := List.getElem?_of_mem ho
        have hj' : ops[j]? = some o := by simpa using hj
        exact hw ⟨j, (Array.getElem?_eq_some_iff.1 hj').1, by rw [dst_bind hj']; exact hd⟩
    rw [ha]
    exact hpost vs W I.world fun i hi => (I.vals i (hall i hi) hi).1
  intro fuel
  induction fuel with
  | zero =>
    intro listed a W vs I hlen
    have hall : ∀ i, i < ops.size → listed.getD i true = true := by
      intro i hi
      rcases Bool.eq_false_or_eq_true (listed.getD i true) with ht | hf
      · exact ht
      · have : i ∈ (List.range ops.size).filter fun i => !listed.getD i true := List.mem_filter.2 ⟨List.mem_range.2 hi, by simp only [hf, Bool.not_false]⟩
        have hnil : ((List.range ops.size).filter fun i => !listed.getD i true) = [] := List.eq_nil_of_length_eq_zero (by omega)
        rw [hnil] at this
        cases this
    refine ⟨?_, fin listed a W vs I hall⟩
    apply List.eq_nil_iff_forall_not_mem.2
    intro i hi
    obtain ⟨h1, o, ho, _⟩ := mem_ready.1 hi
    rw [hall i (Array.getElem?_eq_some_iff.1 ho).1] at h1
    cases h1
  | succ fuel ih =>
    intro listed a W vs I hlen
    refine ⟨fun h => fin listed a W vs I (listed_all hp I.len h), fun i hi => ?_⟩
    obtain ⟨hun, o, ho, hall⟩ := mem_ready.1 hi
    have hilt : i < ops.size := (Array.getElem?_eq_some_iff.1 ho).1
    have hst := relSteps2_at ops.toList 0 hsteps i o (by simpa using ho)
    rw [Nat.zero_add] at hst
    have hpre : ∀ j, waits ops i j = true → listed.getD j true = true ∧ j < ops.size := by
      intro j hj
      obtain ⟨e, he, hb, rfl⟩ := waits_of ho hj
      have h1 := hall e he hb
      have hlt := (plain_at hp hilt).2 o ho e he hb
      have hjs : e.on < ops.size := by omega
      refine ⟨?_, hjs⟩
      rw [Array.getD_eq_getD_getElem?] at h1 ⊢
      rw [Array.getElem?_eq_getElem (by rw [I.len]; exact hjs)] at h1 ⊢
      exact h1
    have key := hst a vs W I.world (fun j hj => (I.vals j (hpre j hj).1 (hpre j hj).2).1) (fun j d hj hd => (I.vals j (hpre j hj).1 (hpre j hj).2).2 d hd)
      (fun k hk => I.rest k fun j hlj hj hd => by
        have := List.all_eq_true.1 hk j (List.mem_range.2 hj)
        simp only [hd, bne_self_eq_false, Bool.false_or, Bool.or_eq_true, beq_iff_eq] at this
        rcases this with h | h
        · have := (I.closed j hlj hj i h).1
          rw [hun] at this
          cases this
        · subst h
          rw [hun] at hlj
          cases hlj)
    have next : ∀ v W', (prAt ps i).at_ vs v W' → X W W' → wpAny P .any ops Q fuel (listed.setIfInBounds i true) (a.put o.dst v) W' := by
      intro v W' hv hx
      have hils : i < listed.size := by rw [I.len]; exact hilt
      have hget : ∀ j, (listed.setIfInBounds i true).getD j true = if j = i then true else listed.getD j true := by
        intro j
        by_cases hj : j = i
        · subst hj
          rw [if_pos rfl, Array.getD_eq_getD_getElem?, Array.getElem?_setIfInBounds_self_of_lt hils]
          rfl
        · rw [if_neg hj, Array.getD_eq_getD_getElem?, Array.getD_eq_getD_getElem?, Array.getElem?_setIfInBounds_ne (fun e => hj e.symm)]
      have hput : ∀ k, o.dst ≠ some k → (a.put o.dst v).eval (.tmp k) = a.eval (.tmp k) := fun k hk => Act.eval_put fun d hd e => by injection e with e; exact hk (by rw [hd, e])
      refine ih _ _ _ (fun j => if j = i then v else vs j) ?_ ?_
      · refine ⟨hXt _ _ _ I.world hx, ?_, ?_, by rw [Array.size_setIfInBounds, I.len], ?_, ?_, ?_⟩
        · rw [← I.size]; cases h : o.dst <;> simp [Act.put]
        · rw [← I.defers]; cases h : o.dst <;> simp [Act.put]
        · intro j hj hjs
          rw [hget] at hj
          by_cases hji : j = i
          · subst hji
            simp only [if_true]
            refine ⟨?_, fun d hd => ?_⟩
            · cases hpj : prAt ps j with
              | one Q => rw [hpj] at hv; exact hv
              | two k Q =>
                rw [hpj] at hv
                have hw := locAt hloc hjs hpj
                have hne : k ≠ j := by
                  intro e
                  subst e
                  have := (hpre k hw).1
                  rw [hun] at this
                  cases this
                show Q (if k = j then v else vs k) v W'
                rw [if_neg hne]
                exact hv
            rw [dst_bind ho] at hd
            have hdl : d < a.tmps.size := by rw [I.size]; exact ((plain_at hp hjs).1 d (by rw [dst_bind ho]; exact hd)).1
            simp [Act.put, hd, Act.eval, hdl]
          · rw [if_neg hji] at hj
            simp only [if_neg hji]
            obtain ⟨h1, h2⟩ := I.vals j hj hjs
            refine ⟨?_, fun d hd => ?_⟩
            · have h1' := Pr.at_mono (hR j) h1 hx
              cases hpj : prAt ps j with
              | one Q => rw [hpj] at h1'; exact h1'
              | two k Q =>
                rw [hpj] at h1'
                have hw := locAt hloc hjs hpj
                have hne : k ≠ i := by
                  intro e
                  subst e
                  have := (I.closed j hj hjs k hw).1
                  rw [hun] at this
                  cases this
                show Q (if k = i then v else vs k) (vs j) W'
                rw [if_neg hne]
                exact h1'
            rw [hput d (fun e => ((plain_at hp hjs).1 d hd).2 i hilt (fun e => hji e.symm) (by rw [dst_bind ho]; exact e))]
            exact h2 d hd
        · intro k hk
          have hki : o.dst ≠ some k := by
            have := hk i (by rw [hget, if_pos rfl]) hilt
            rwa [dst_bind ho] at this
          rw [hput k hki]
          exact I.rest k fun j hj hjs => hk j (by rw [hget]; split <;> first | rfl | exact hj) hjs
        · intro j hj hjs k hk
          have hkk : listed.getD k true = true ∧ k < ops.size := by
            rw [hget] at hj
            by_cases hji : j = i
            · subst hji
              exact hpre k hk
            · rw [if_neg hji] at hj
              exact I.closed j hj hjs k hk
          exact ⟨by rw [hget]; split <;> first | rfl | exact hkk.1, hkk.2⟩
      · have hsub : ((List.range ops.size).filter fun j => !(listed.setIfInBounds i true).getD j true) = (((List.range ops.size).filter fun j => !listed.getD j true).filter fun j => !decide (j = i)) := by
          rw [List.filter_filter]
          apply List.filter_congr
          intro j _
          rw [hget]
          by_cases hji : j = i
          · simp [hji]
          · simp [hji]
        rw [hsub]
        have hmem : i ∈ (List.range ops.size).filter fun j => !listed.getD j true := List.mem_filter.2 ⟨List.mem_range.2 hilt, by simp only [hun, Bool.not_false]⟩
        have := List.length_filter_lt_length_iff_exists (p := fun j => !decide (j = i)) |>.2 ⟨i, hmem, by simp⟩
        omega
    have key2 := key (wpAny P .any ops Q fuel (listed.setIfInBounds i true)) next
    unfold wpOp
    rw [ho]
    simp only
    by_cases hw : Region.wanted o (yielded ops a.tmps) = true
    · rw [if_pos hw] at key2 ⊢
      exact .inl (upon_calm _ key2)
    · rw [if_neg hw] at key2 ⊢
      exact key2

/-- the law -/
theorem wp_region_rel2 {id : Nat} {Q : Exit → Act → World → Prop} {w : World} (X : World → World → Prop) (hXr : ∀ A, X A A) (hXt : ∀ A B C, X A B → X B C → X A C) (ps : List Pr) (hR : MonoP X ps) (hloc : locB ops ps = true)
    (hm : P.follows .mixedOrders = true) (hp : plainB ops a0.tmps.size = true) (hsteps : RelSteps2 P ops ps X a0 w.drew 0 ops.toList)
    (hpost : ∀ vs W, X w.drew W → (∀ i, i < ops.size → (prAt ps i).at_ vs (vs i) W) → Q .normal (putAll vs 0 ops.toList a0) W) : (Code.region id ops true).wp P Q a0 w := by
  refine wp_region_any hm (wp_region_rel2_aux hXt hR.at_ hloc hp hsteps hpost ops.size (Array.replicate ops.size false) a0 w.drew (fun _ => undef) ?_ ?_)
  · have hno : ∀ j, (Array.replicate ops.size false).getD j true = true → j < ops.size → False := by
      intro j h hj
      rw [Array.getD_eq_getD_getElem?, Array.getElem?_replicate, if_pos hj] at h
      cases h
    exact ⟨hXr _, rfl, rfl, by simp, fun j h hj => (hno j h hj).elim, fun k _ => rfl, fun j h hj => (hno j h hj).elim⟩
  · refine Nat.le_trans (List.length_filter_le _ _) (by simp)
end


/-- what lay below B is as it was; blocks from B on of type t may come, and may be filled with cs; those that hold it keep it -/
structure ExtN (B : Nat) (t : TypeId) (cs : List Value) (A C : World) : Prop where
  below : Below B A C
  stays : ∀ g, Blk A g t cs → Blk C g t cs
  there : ∀ g, (∃ zs, zs.length = cs.length ∧ Blk A g t zs) → ∃ zs, zs.length = cs.length ∧ Blk C g t zs
theorem ExtN.refl (B : Nat) (t : TypeId) (cs : List Value) (A : World) : ExtN B t cs A A := ⟨Below.refl _ _, fun _ => id, fun _ => id⟩
theorem ExtN.trans {B : Nat} {t : TypeId} {cs : List Value} {A C D : World} (h : ExtN B t cs A C) (k : ExtN B t cs C D) : ExtN B t cs A D := ⟨h.below.trans k.below, fun g x => k.stays g (h.stays g x), fun g x => k.there g (h.there g x)⟩
theorem ExtN.of {B : Nat} {t : TypeId} {cs : List Value} {A C : World} (hB : B ≤ A.heap.size) (h : Below A.heap.size A C) : ExtN B t cs A C := ⟨h.mono hB, fun _ x => x.on h, fun _ ⟨zs, h1, h2⟩ => ⟨zs, h1, h2.on h⟩⟩
theorem ExtN.store {B g : Nat} {t : TypeId} {cs : List Value} {A C : World} (hB : B ≤ A.heap.size) (hg : B ≤ g) (h : A.grownBy C (some g)) (hb : Blk C g t cs) : ExtN B t cs A C := by
  refine ⟨grown_below h hB hg, fun i hi => ?_, fun i hi => ?_⟩
  · by_cases hig : i = g
    · subst hig; exact hb
    · exact hi.grown h (fun e => hig (by injection e))
  · by_cases hig : i = g
    · subst hig; exact ⟨cs, rfl, hb⟩
    · obtain ⟨zs, h1, h2⟩ := hi
      exact ⟨zs, h1, h2.grown h (fun e => hig (by injection e))⟩
theorem ExtN.size {B : Nat} {t : TypeId} {cs : List Value} {A C : World} (h : ExtN B t cs A C) : A.heap.size ≤ C.heap.size := h.below.size
end Go.Proofs.YtbcjkjmjljfhpaaDoor

/- A region that draws its order, whose last operation waits for all others: those are walked once, in any order, then it. No condition. -/
namespace Go.Proofs.YtbcjkjmjljfhpaaDoor
open Go.RowKit
set_option linter.unusedVariables false
set_option maxRecDepth 20000

/-- what operation i waits for, step by step -/
def closure (ops : Array Oper) : Nat → List Nat → List Nat
  | 0, l => l
  | k + 1, l => closure ops k (l ++ (List.range ops.size).filter fun j => !l.contains j && l.any fun i => waits ops i j)
def lastB (ops : Array Oper) : Bool := (List.range (ops.size - 1)).all fun i => (closure ops ops.size [ops.size - 1]).contains i

section
variable {P : Program} {ops : Array Oper} {R : Nat → Value → World → Prop} {X : World → World → Prop} {a0 : Act} {w0 : World}
theorem closure_listed {listed : Array Bool} (hc : ∀ i, (i = ops.size - 1 ∨ listed.getD i true = true) → i < ops.size → ∀ j, waits ops i j = true → listed.getD j true = true ∧ j < ops.size) :
    ∀ (k : Nat) (l : List Nat), (∀ i ∈ l, i < ops.size ∧ (i = ops.size - 1 ∨ listed.getD i true = true)) → ∀ i ∈ closure ops k l, i < ops.size ∧ (i = ops.size - 1 ∨ listed.getD i true = true) := by
  intro k
  induction k with
  | zero => exact fun l h => h
  | succ k ih =>
    intro l h
    refine ih _ fun i hi => ?_
    rcases List.mem_append.1 hi with hi | hi
    · exact h i hi
    · obtain ⟨h1, h2⟩ := List.mem_filter.1 hi
      simp only [Bool.and_eq_true] at h2
      obtain ⟨x, hx, hw⟩ := List.any_eq_true.1 h2.2
      have := hc x (h x hx).2 (h x hx).1 i hw
      exact ⟨this.2, .inr this.1⟩

theorem wpAny_all {Q : Exit → Act → World → Prop} {n : Nat} (hp : plainB ops n = true) {listed : Array Bool} (hl : listed.size = ops.size) (hall : ∀ i, i < ops.size → listed.getD i true = true) {a : Act} {W : World} (h : Q .normal a W) (fuel : Nat) : wpAny P .any ops Q fuel listed a W := by
  have hr : Region.ready .any ops listed = [] := by
    apply List.eq_nil_iff_forall_not_mem.2
    intro i hi
    obtain ⟨h1, o, ho, _⟩ := mem_ready.1 hi
    rw [hall i (Array.getElem?_eq_some_iff.1 ho).1] at h1
    cases h1
  cases fuel with
  | zero => exact ⟨hr, h⟩
  | succ fuel => exact ⟨fun _ => h, fun i hi => by rw [hr] at hi; cases hi⟩

theorem wp_region_last_aux {Q : Exit → Act → World → Prop} (m : Nat) (hm : ops.size = m + 1) (hXt : ∀ A B C, X A B → X B C → X A C) (hR : ∀ i v A B, R i v A → X A B → R i v B) (hp : plainB ops a0.tmps.size = true) (hlast : lastB ops = true)
    (hsteps : RelSteps P ops R X a0 w0 0 (ops.toList.take m)) (hpost : ∀ vs W o, ops[m]? = some o → X w0 W → (∀ i, i < m → R i (vs i) W) → o.wp P (putAll vs 0 (ops.toList.take m) a0) W (fun a W' => Q .normal a W') (fun _ _ _ => False))
    (hwant : ∀ vs W o, ops[m]? = some o → X w0 W → (∀ i, i < m → R i (vs i) W) → Region.wanted o (yielded ops (putAll vs 0 (ops.toList.take m) a0).tmps) = true) :
    ∀ (fuel : Nat) (listed : Array Bool) (a : Act) (W : World) (vs : Nat → Value), RelInv ops R X a0 w0 listed a W vs → listed.getD m true = false → ((List.range ops.size).filter fun i => !listed.getD i true).length ≤ fuel → wpAny P .any ops Q fuel listed a W := by
  intro fuel
  induction fuel with
  | zero =>
    intro listed a W vs I hun hlen
    have : m ∈ (List.range ops.size).filter fun i => !listed.getD i true := List.mem_filter.2 ⟨List.mem_range.2 (by omega), by simp only [hun, Bool.not_false]⟩
    have hnil : ((List.range ops.size).filter fun i => !listed.getD i true) = [] := List.eq_nil_of_length_eq_zero (by omega)
    rw [hnil] at this
    cases this
  | succ fuel ih =>
    intro listed a W vs I hunm hlen
    refine ⟨fun h => ?_, fun i hi => ?_⟩
    · have := listed_all hp I.len h m (by omega)
      rw [hunm] at this
      cases this
    obtain ⟨hun, o, ho, hall⟩ := mem_ready.1 hi
    have hilt : i < ops.size := (Array.getElem?_eq_some_iff.1 ho).1
    have hpre : ∀ j, waits ops i j = true → listed.getD j true = true ∧ j < ops.size := by
      intro j hj
      obtain ⟨e, he, hb, rfl⟩ := waits_of ho hj
      have h1 := hall e he hb
      have hlt := (plain_at hp hilt).2 o ho e he hb
      have hjs : e.on < ops.size := by omega
      refine ⟨?_, hjs⟩
      rw [Array.getD_eq_getD_getElem?] at h1 ⊢
      rw [Array.getElem?_eq_getElem (by rw [I.len]; exact hjs)] at h1 ⊢
      exact h1
    by_cases him : i = m
    · subst him
      have hothers : ∀ j, j < i → listed.getD j true = true := by
        intro j hj
        have hc := List.all_eq_true.1 hlast j (List.mem_range.2 (by omega))
        have hmem : j ∈ closure ops ops.size [ops.size - 1] := by simpa using hc
        have := closure_listed (listed := listed) (ops := ops) (fun x hx hxs y hy => by
          rcases hx with hx | hx
          · have : x = i := by omega
            subst this
            exact hpre y hy
          · exact I.closed x hx hxs y hy) ops.size [ops.size - 1] (fun x hx => by
          simp at hx
          subst hx
          exact ⟨by omega, .inl rfl⟩) j hmem
        rcases this.2 with h | h
        · omega
        · exact h
      have ha : a = putAll vs 0 (ops.toList.take i) a0 := by
        refine act_ext (by rw [putAll_size, I.size]) (by rw [putAll_defers, I.defers]) fun k hk => ?_
        by_cases hw : ∃ j, j < i ∧ dstOf ops j = some k
        · obtain ⟨j, hj, hd⟩ := hw
          have hjs : j < ops.size := by omega
          rw [(I.vals j (hothers j hj) hjs).2 k hd]
          have hoj : (ops.toList.take i)[j]? = some ops[j] := by rw [List.getElem?_take, if_pos hj]; simp [Array.getElem?_eq_getElem hjs]
          have := putAll_some vs (ops.toList.take i) k 0 a0 j ops[j] hoj (by rw [← dst_bind (Array.getElem?_eq_getElem hjs)]; exact hd) (by rw [← I.size]; exact hk) (fun x y hx hne => by
            rw [List.getElem?_take] at hx
            split at hx
            · have hx' : ops[x]? = some y := by simpa using hx
              rw [← dst_bind hx']
              exact ((plain_at hp hjs).1 k hd).2 x (Array.getElem?_eq_some_iff.1 hx').1 hne
            · cases hx)
          rw [this, Nat.zero_add]
        · rw [I.rest k (fun j hl hj hd => by
            rcases Nat.lt_or_ge j i with h | h
            · exact hw ⟨j, h, hd⟩
            · have : j = i := by omega
              subst this
              rw [hun] at hl
              cases hl)]
          refine (putAll_none vs (ops.toList.take i) k 0 a0 fun x hx hd => ?_).symm
          obtain ⟨j, hj⟩ := List.getElem?_of_mem hx
          rw [List.getElem?_take] at hj
          split at hj
          · rename_i hji
            have hj' : ops[j]? = some x := by simpa using hj
            exact hw ⟨j, hji, by rw [dst_bind hj']; exact hd⟩
          · cases hj
      have hRR : ∀ j, j < i → R j (vs j) W := fun j hj => (I.vals j (hothers j hj) (by omega)).1
      have key := hpost vs W o ho I.world hRR
      have hwn := hwant vs W o ho I.world hRR
      rw [← ha] at key hwn
      have next : ∀ a' W', Q .normal a' W' → wpAny P .any ops Q fuel (listed.setIfInBounds i true) a' W' := by
        intro a' W' hq
        refine wpAny_all hp (by rw [Array.size_setIfInBounds, I.len]) (fun j hj => ?_) hq fuel
        by_cases hji : j = i
        · subst hji
          rw [Array.getD_eq_getD_getElem?, Array.getElem?_setIfInBounds_self_of_lt (by rw [I.len]; exact hj)]
          rfl
        · rw [Array.getD_eq_getD_getElem?, Array.getElem?_setIfInBounds_ne (fun e => hji e.symm), ← Array.getD_eq_getD_getElem?]
          exact hothers j (by omega)
      have key2 := Oper.wp_mono next key
      unfold wpOp
      rw [ho]
      simp only
      rw [if_pos hwn]
      exact .inl (upon_calm _ key2)
    · have hilm : i < m := by omega
      have hst := relSteps_at (ops.toList.take m) 0 hsteps i o (by rw [List.getElem?_take, if_pos hilm]; simpa using ho)
      rw [Nat.zero_add] at hst
      have key := hst a vs W I.world (fun j hj => (I.vals j (hpre j hj).1 (hpre j hj).2).1) (fun j d hj hd => (I.vals j (hpre j hj).1 (hpre j hj).2).2 d hd)
        (fun k hk => I.rest k fun j hlj hj hd => by
          have := List.all_eq_true.1 hk j (List.mem_range.2 hj)
          simp only [hd, bne_self_eq_false, Bool.false_or, Bool.or_eq_true, beq_iff_eq] at this
          rcases this with h | h
          · have := (I.closed j hlj hj i h).1
            rw [hun] at this
            cases this
          · subst h
            rw [hun] at hlj
            cases hlj)
      have next : ∀ v W', R i v W' → X W W' → wpAny P .any ops Q fuel (listed.setIfInBounds i true) (a.put o.dst v) W' := by
        intro v W' hv hx
        have hils : i < listed.size := by rw [I.len]; exact hilt
        have hget : ∀ j, (listed.setIfInBounds i true).getD j true = if j = i then true else listed.getD j true := by
          intro j
          by_cases hj : j = i
          · subst hj
            rw [if_pos rfl, Array.getD_eq_getD_getElem?, Array.getElem?_setIfInBounds_self_of_lt hils]
            rfl
          · rw [if_neg hj, Array.getD_eq_getD_getElem?, Array.getD_eq_getD_getElem?, Array.getElem?_setIfInBounds_ne (fun e => hj e.symm)]
        have hput : ∀ k, o.dst ≠ some k → (a.put o.dst v).eval (.tmp k) = a.eval (.tmp k) := fun k hk => Act.eval_put fun d hd e => by injection e with e; exact hk (by rw [hd, e])
        refine ih _ _ _ (fun j => if j = i then v else vs j) ?_ (by rw [hget, if_neg (by omega)]; exact hunm) ?_
        · refine ⟨hXt _ _ _ I.world hx, ?_, ?_, by rw [Array.size_setIfInBounds, I.len], ?_, ?_, ?_⟩
          · rw [← I.size]; cases h : o.dst <;> simp [Act.put]
          · rw [← I.defers]; cases h : o.dst <;> simp [Act.put]
          · intro j hj hjs
            rw [hget] at hj
            by_cases hji : j = i
            · subst hji
              simp only [if_true]
              refine ⟨hv, fun d hd => ?_⟩
              rw [dst_bind ho] at hd
              have hdl : d < a.tmps.size := by rw [I.size]; exact ((plain_at hp hjs).1 d (by rw [dst_bind ho]; exact hd)).1
              simp [Act.put, hd, Act.eval, hdl]
            · rw [if_neg hji] at hj
              simp only [if_neg hji]
              obtain ⟨h1, h2⟩ := I.vals j hj hjs
              refine ⟨hR _ _ _ _ h1 hx, fun d hd => ?_⟩
              rw [hput d (fun e => ((plain_at hp hjs).1 d hd).2 i hilt (fun e => hji e.symm) (by rw [dst_bind ho]; exact e))]
              exact h2 d hd
          · intro k hk
            have hki : o.dst ≠ some k := by
              have := hk i (by rw [hget, if_pos rfl]) hilt
              rwa [dst_bind ho] at this
            rw [hput k hki]
            exact I.rest k fun j hj hjs => hk j (by rw [hget]; split <;> first | rfl | exact hj) hjs
          · intro j hj hjs k hk
            have hkk : listed.getD k true = true ∧ k < ops.size := by
              rw [hget] at hj
              by_cases hji : j = i
              · subst hji
                exact hpre k hk
              · rw [if_neg hji] at hj
                exact I.closed j hj hjs k hk
            exact ⟨by rw [hget]; split <;> first | rfl | exact hkk.1, hkk.2⟩
        · have hsub : ((List.range ops.size).filter fun j => !(listed.setIfInBounds i true).getD j true) = (((List.range ops.size).filter fun j => !listed.getD j true).filter fun j => !decide (j = i)) := by
            rw [List.filter_filter]
            apply List.filter_congr
            intro j _
            rw [hget]
            by_cases hji : j = i
            · simp [hji]
            · simp [hji]
          rw [hsub]
          have hmem : i ∈ (List.range ops.size).filter fun j => !listed.getD j true := List.mem_filter.2 ⟨List.mem_range.2 hilt, by simp only [hun, Bool.not_false]⟩
          have := List.length_filter_lt_length_iff_exists (p := fun j => !decide (j = i)) |>.2 ⟨i, hmem, by simp⟩
          omega
      have key2 := key (wpAny P .any ops Q fuel (listed.setIfInBounds i true)) next
      unfold wpOp
      rw [ho]
      simp only
      by_cases hw : Region.wanted o (yielded ops a.tmps) = true
      · rw [if_pos hw] at key2 ⊢
        exact .inl (upon_calm _ key2)
      · rw [if_neg hw] at key2 ⊢
        exact key2

/-- the law -/
theorem wp_region_last {id : Nat} {Q : Exit → Act → World → Prop} {w : World} (m : Nat) (X : World → World → Prop) (hXr : ∀ A, X A A) (hXt : ∀ A B C, X A B → X B C → X A C) (R : Nat → Value → World → Prop) (hR : ∀ i v A B, R i v A → X A B → R i v B)
    (hf : P.follows .mixedOrders = true) (hp : plainB ops a0.tmps.size = true) (hm : ops.size = m + 1) (hlast : lastB ops = true) (ol : Oper) (hol : ops[m]? = some ol) (hg : ol.guard = none) (hsteps : RelSteps P ops R X a0 w.drew 0 (ops.toList.take m))
    (hpost : ∀ vs W, X w.drew W → (∀ i, i < m → R i (vs i) W) → ol.wp P (putAll vs 0 (ops.toList.take m) a0) W (fun a W' => Q .normal a W') (fun _ _ _ => False)) : (Code.region id ops true).wp P Q a0 w := by
  refine wp_region_any hf (wp_region_last_aux m hm hXt hR hp hlast hsteps (fun vs W o ho hx hr => ?_) (fun vs W o ho hx hr => ?_) ops.size (Array.replicate ops.size false) a0 w.drew (fun _ => undef) ?_ ?_ ?_)
  · rw [hol] at ho
    injection ho with ho
    subst ho
    exact hpost vs W hx hr
  · rw [hol] at ho
    injection ho with ho
    subst ho
    exact wanted_none hg
  · have hno : ∀ j, (Array.replicate ops.size false).getD j true = true → j < ops.size → False := by
      intro j h hj
      rw [Array.getD_eq_getD_getElem?, Array.getElem?_replicate, if_pos hj] at h
      cases h
    exact ⟨hXr _, rfl, rfl, by simp, fun j h hj => (hno j h hj).elim, fun k _ => rfl, fun j h hj => (hno j h hj).elim⟩
  · rw [Array.getD_eq_getD_getElem?, Array.getElem?_replicate, if_pos (by omega)]
    rfl
  · refine Nat.le_trans (List.length_filter_le _ _) (by simp)
end
end Go.Proofs.YtbcjkjmjljfhpaaDoor


/- Texts of this claim put together, in build order: each one's own remark stands ahead of it. -/
import Derived.Test.YtckbleiikldloaaDoorG09
import Derived.Test.YtckbleiikldloaaDoorG07
/- What ext.Told (layer 22) computes. No condition but sizes. -/
namespace Go.Proofs.YtckbleiikldloaaDoor
open Go.RowKit Go.Shelf
set_option linter.unusedVariables false
set_option maxRecDepth 20000
set_option linter.unusedSimpArgs false

attribute [local go_sem] Oper.semAt_some

def entAt (l : List UInt8) (k : Nat) : Ent := unpE (l.drop (4 * k))
def outs (l : List UInt8) (k : Nat) : List Ent := (List.range k).map (entAt l)
theorem outs_succ (l : List UInt8) (k : Nat) : outs l (k + 1) = outs l k ++ [entAt l k] := by simp [outs, List.range_succ]
theorem outs_length (l : List UInt8) (k : Nat) : (outs l k).length = k := by simp [outs]
def toldG (zs : List UInt8) : List Ent × Int := if (getG zs).2 ≠ 0 then ([], (getG zs).2) else match (getG zs).1.find? Ob.lab with | none => ([], 31) | some x => if 64 < x.body.length then ([], 51) else (outs x.body (x.body.length / 4), 0)
theorem unpE_take (l : List UInt8) (h : 4 ≤ l.length) : unpE (l.take 4) = unpE l ∧ unpN (l.take 4) = 0 := by
  have h1 : (l.take 4).length = 4 := by rw [List.length_take]; omega
  unfold unpE unpN
  rw [if_neg (by omega), if_neg (by omega), if_neg (by omega), List.take_take]
  exact ⟨rfl, rfl⟩
theorem goG_mod : ∀ (f : Nat) (acc : List Ob) (zs : List UInt8), (∀ x ∈ acc, x.body.length % 4 = 0 ∧ x.body.length ≤ 65536) → ∀ x ∈ (goG f acc zs).1, x.body.length % 4 = 0 ∧ x.body.length ≤ 65536 := by
  intro f
  induction f with
  | zero => exact fun acc zs h => h
  | succ f ih =>
    intro acc zs h
    unfold goG
    split
    · exact h
    · split
      · simp
      · split
        · simp
        · rename_i h0 h4 hb
          refine ih _ _ fun x hx => ?_
          rcases List.mem_append.1 hx with hx | hx
          · exact h x hx
          · obtain rfl := List.mem_singleton.1 hx
            have hk := be_bd (zs.take 2) 2 (by rw [List.length_take]; omega)
            unfold badG at hb
            simp at hb
            unfold obG
            simp only [List.length_drop, List.length_take]
            omega
theorem getG_mod (zs : List UInt8) : ∀ x ∈ (getG zs).1, x.body.length % 4 = 0 ∧ x.body.length ≤ 65536 := by
  unfold getG
  split
  · simp
  · split
    · simp
    · split
      · simp
      · exact goG_mod _ _ _ (by simp)
theorem goG_len : ∀ (f : Nat) (acc : List Ob) (zs : List UInt8), (goG f acc zs).1.length ≤ acc.length + zs.length := by
  intro f
  induction f with
  | zero => intro acc zs; simp [goG]
  | succ f ih =>
    intro acc zs
    unfold goG
    split
    · simp
    · split
      · simp
      · split
        · simp
        · rename_i h0 h4 hb
          refine Nat.le_trans (ih _ _) ?_
          unfold badG at hb
          simp at hb
          simp only [List.length_append, List.length_drop, List.length_cons, List.length_nil]
          omega
theorem getG_len (zs : List UInt8) : (getG zs).1.length ≤ zs.length := by
  unfold getG
  split
  · simp
  · split
    · simp
    · split
      · simp
      · refine Nat.le_trans (goG_len _ _ _) ?_
        simp
theorem find_lab (l : List Xo) : (∃ (m : Nat) (x : Xo), l[m]? = some x ∧ x.ob.lab = true ∧ (∀ (k : Nat) (y : Xo), k < m → l[k]? = some y → y.ob.lab = false) ∧ (l.map Xo.ob).find? Ob.lab = some x.ob) ∨ ((∀ (k : Nat) (y : Xo), l[k]? = some y → y.ob.lab = false) ∧ (l.map Xo.ob).find? Ob.lab = none) := by
  induction l with
  | nil => exact .inr ⟨by simp, rfl⟩
  | cons a l ih =>
    by_cases ha : a.ob.lab = true
    · exact .inl ⟨0, a, rfl, ha, (fun k y h => by omega), by simp [ha]⟩
    · have ha' : a.ob.lab = false := by simpa using ha
      rcases ih with ⟨m, x, h1, h2, h3, h4⟩ | ⟨h1, h2⟩
      · refine .inl ⟨m + 1, x, by simpa using h1, h2, fun k y hk hy => ?_, by simp [ha', h4]⟩
        cases k with
        | zero => simp at hy; subst hy; exact ha'
        | succ k => exact h3 k y (by omega) (by simpa using hy)
      · refine .inr ⟨fun k y hy => ?_, by simp [ha', h2]⟩
        cases k with
        | zero => simp at hy; subst hy; exact ha'
        | succ k => exact h1 k y (by simpa using hy)

structure TlI (w : World) (zs : List UInt8) (pre : List Tc) (W : World) : Prop where
  out : ∃ A c, Boxed W w.heap.size 23 (.slice A pre.length c) ∧ Own W w.heap.size 49 4 A pre.length c (evs (outs zs pre.length))
  bx : ∃ v, Boxed W (w.heap.size + 1) 22 v
  bx2 : ∃ v, Boxed W (w.heap.size + 1 + 1) 3 v
  bel : Below w.heap.size w W
theorem TlI.turn {w : World} {zs : List UInt8} {pre : List Tc} {W W' : World} {row : Option Nat} (h : TlI w zs pre W) (hg : W.grownBy W' row) (hr : ∀ r, row = some r → w.heap.size ≤ r ∧ ∀ cs t, W.heap[r]? = some (.cells cs t (0, 0)) → False) : TlI w zs pre W' := by
  have hb : ∀ {B : Nat} {t : TypeId} {v : Value}, Boxed W B t v → Boxed W' B t v := fun hb => hb.kept hg (fun e => (hr _ e.symm).2 _ _ hb)
  obtain ⟨A, c, ho, hown⟩ := h.out
  obtain ⟨v, hv⟩ := h.bx
  obtain ⟨v2, hv2⟩ := h.bx2
  exact ⟨⟨A, c, hb ho, own_turn hown hg (fun r e => (hr r e).2)⟩, ⟨v, hb hv⟩, ⟨v2, hb hv2⟩, h.bel.grown hg h.bel.size (fun k e => (hr k e).1)⟩
theorem TlI.ownFrom (w : World) (zs : List UInt8) (B : Nat) (hB : w.heap.size ≤ B) : OwnFrom B (TlI w zs) := fun s X Y row hs hg hr =>
  hs.turn hg (fun r e => by
    obtain ⟨h1, o, ho, hc⟩ := hr r e
    refine ⟨by omega, fun cs t h2 => ?_⟩
    rw [ho] at h2
    cases h2
    cases hc)
theorem TlI.below {w : World} {zs : List UInt8} {pre : List Tc} {W W' : World} (h : TlI w zs pre W) (hb : Below W.heap.size W W') : TlI w zs pre W' := by
  have hk : ∀ {B : Nat} {t : TypeId} {v : Value}, Boxed W B t v → Boxed W' B t v := fun hx => (hb.block _ hx.lt).trans hx
  obtain ⟨A, c, ho, hown⟩ := h.out
  obtain ⟨v, hv⟩ := h.bx
  obtain ⟨v2, hv2⟩ := h.bx2
  exact ⟨⟨A, c, hk ho, hown.below hb⟩, ⟨v, hk hv⟩, ⟨v2, hk hv2⟩, h.bel.trans (hb.mono h.bel.size)⟩
theorem TlI.lets (w : World) (zs : List UInt8) : Lets (w.heap.size + 1) (TlI w zs) where
  below s W W' h hb := h.below hb
  set s W u h := by
    obtain ⟨A, c, ho, hown⟩ := h.out
    obtain ⟨v, hv⟩ := h.bx
    obtain ⟨v2, hv2⟩ := h.bx2
    exact ⟨⟨A, c, ho.other (by omega) u, own_box' hown hv (by decide) u⟩, ⟨u, hv.set u⟩, ⟨v2, hv2.other (by omega) u⟩, h.bel.setCell (p := ⟨_, 0, none⟩) (by simp only; omega) u⟩
theorem TlI.pushed {w : World} {zs : List UInt8} {pre : List Tc} {W w3 : World} (h : TlI w zs pre W) (x : Tc) (o : Obj) {Ao A3 : Option Addr} {co c3 B : Nat} (ho : Boxed W w.heap.size 23 (.slice Ao pre.length co))
    (hown : Own W w.heap.size 49 4 Ao pre.length co (evs (outs zs pre.length))) (hown3 : Own w3 w.heap.size 49 4 A3 (pre.length + 1) c3 (evs (outs zs pre.length) ++ (entAt zs pre.length).cells)) (hg : (W.alloc o).grownBy w3 (blk Ao co)) (hB : w.heap.size < B) :
    KeepsFrom B W (w3.setCell ⟨w.heap.size, 0, none⟩ (.slice A3 (pre.length + 1) c3)) ∧ Keeps2 w.heap.size (w.heap.size + 1) W (w3.setCell ⟨w.heap.size, 0, none⟩ (.slice A3 (pre.length + 1) c3)) ∧
      TlI w zs (pre ++ [x]) (w3.setCell ⟨w.heap.size, 0, none⟩ (.slice A3 (pre.length + 1) c3)) := by
  have hob : ∀ (B : Nat) (t : TypeId) (v : Value), Boxed (W.alloc o) B t v → t ≠ 49 → Boxed w3 B t v := fun B t v hb ht => hb.kept hg (not_blk (hown.alloc o) hb ht)
  have b5 := hob _ _ _ (ho.alloc o) (by decide)
  obtain ⟨v, hv⟩ := h.bx
  have bx := hob _ _ _ (hv.alloc o) (by decide)
  obtain ⟨v2, hvb⟩ := h.bx2
  have bx2 := hob _ _ _ (hvb.alloc o) (by decide)
  have hbl : ∀ k, blk Ao co = some k → w.heap.size ≤ k := fun k hk => (hown.lt k hk).1
  have hs := h.bel.size
  have hW : Below w.heap.size W (w3.setCell ⟨w.heap.size, 0, none⟩ (.slice A3 (pre.length + 1) c3)) :=
    (((Below.refl w.heap.size W).alloc hs o).grown hg (by simp; omega) hbl).setCell (p := ⟨w.heap.size, 0, none⟩) (by simp only; omega) _
  have hl : (pre ++ [x]).length = pre.length + 1 := by simp
  refine ⟨((KeepsFrom.of_grownBy (World.grownBy_alloc W o none) (by simp)).trans (own_keepsFrom B (hown.alloc o) hg)).trans (KeepsFrom.of_grownBy (grownBy_setCell' _ _ _) (by rintro j ⟨⟩; exact hB)), ⟨hW, (show _ = _ from (bx.other (by omega) _).trans hv.symm), (show _ = _ from (bx2.other (by omega) _).trans hvb.symm)⟩,
    ⟨A3, c3, by rw [hl]; exact b5.set _, ?_⟩, ⟨v, bx.other (by omega) _⟩, ⟨v2, bx2.other (by omega) _⟩, h.bel.trans hW⟩
  rw [hl, outs_succ, evs_append, show evs [entAt zs pre.length] = (entAt zs pre.length).cells by simp [evs]]
  exact own_box' hown3 b5 (by decide) _

set_option maxHeartbeats 1000000 in
theorem told22_bad (A : Option Addr) (len cap : Nat) (zs : List UInt8) (w : World) (hr : Row w w.heap.size 1 A len (bv zs)) (hlc : len ≤ cap) (hcm : cap ≤ maxLen) (hmax : len ≤ 1000000000) (hbad : (getG zs).2 ≠ 0) :
    Calls Tryd.prog 30 #[.slice A len cap] w fun e w' => e = .returned (.tuple #[.slice none 0 0, .int .i64 (getG zs).2]) ∧ Below w.heap.size w w' := by
  have HG := Lib.hid (get22_any A len cap zs w hr hlc hcm hmax)
  obtain ⟨q, hq⟩ : ∃ q, (getG zs).2 = q := ⟨_, rfl⟩
  rw [hq] at HG hbad ⊢
  have hb' : (q != 0) = true := by simpa using hbad
  have hb2 : (q == 0) = false := by simpa using hbad
  clear hr hq hbad
  go_enter Tryd.func30, Tryd.ntmps30
  go_wp2_with fail
  refine HG.out.mono ?_
  rintro e w1 ⟨l, A', c', rfl, _, _, _, hb⟩
  have HB := Lib.hid hb
  clear hb
  go_wp2_with fail
  go_ret2
  exact ⟨rfl, HB.out⟩

set_option maxHeartbeats 1000000 in
theorem told22_none (A : Option Addr) (len cap : Nat) (zs : List UInt8) (w : World) (hr : Row w w.heap.size 1 A len (bv zs)) (hlc : len ≤ cap) (hcm : cap ≤ maxLen) (hmax : len ≤ 1000000000) (hok : (getG zs).2 = 0) (hno : (getG zs).1.find? Ob.lab = none) :
    Calls Tryd.prog 30 #[.slice A len cap] w fun e w' => e = .returned (.tuple #[.slice none 0 0, .int .i64 31]) ∧ Below w.heap.size w w' := by
  have hz : zs.length = len := by have := hr.1; rw [bv_length] at this; omega
  have HG := Lib.hid (get22_any A len cap zs w hr hlc hcm hmax)
  rw [hok] at HG
  have HN := Lib.hid hno
  have HZ := Lib.hid hz
  clear hr hok hno hz
  go_enter Tryd.func30, Tryd.ntmps30
  go_wp2_with fail
  refine HG.out.mono ?_
  rintro e w1 ⟨l, A', c', rfl, hl, hown, hx, hb⟩
  have hno : ∀ (k : Nat) (x : Xo), k < l.length → l[k]? = some x → x.ob.lab = false := fun k x _ h => by
    rcases find_lab l with ⟨m, y, h1, h2, h3, h4⟩ | ⟨h1, h2⟩
    · rw [hl, HN.out] at h4; cases h4
    · exact h1 k x h
  have HB := Lib.hid hb
  have HI := Lib.hid (fun (h : l.length ≤ 1000000000) => index_no A' l.length c' l w1 hown.row h hno)
  have hln : l.length ≤ 1000000000 := by
    have h1 := getG_len zs
    rw [← hl, List.length_map, HZ.out] at h1
    omega
  clear hb hx hl hown hno
  go_wp2_with fail
  refine (HI.out hln).mono ?_
  rintro e w2 ⟨rfl, hb2⟩
  have HB2 := Lib.hid hb2
  clear hb2
  go_wp2_with fail
  go_ret2
  exact ⟨rfl, bthen HB.out HB2.out⟩

theorem row_newE (W : World) (x : Ent) : Row (W.alloc (.cells #[.int .i64 x.label, .int .u8 x.cls, .bool x.bot, .int .u8 x.ttl] 49)) (W.heap.size + 1) 4 (some ⟨W.heap.size, 0, none⟩) 1 x.cells :=
  Row.new (n := 1) (sz := 4) W _ rfl
set_option maxRecDepth 100000 in
set_option maxHeartbeats 4000000 in
theorem told22_in (A : Option Addr) (len cap : Nat) (zs : List UInt8) (w : World) (hr : Row w w.heap.size 1 A len (bv zs)) (hlc : len ≤ cap) (hcm : cap ≤ maxLen) (hmax : len ≤ 1000000000) (hok : (getG zs).2 = 0) (ob : Ob) (hno : (getG zs).1.find? Ob.lab = some ob) :
    CallsIn Fence.wide 3 Tryd.prog 30 #[.slice A len cap] w fun e w' => ∃ (A' : Option Addr) (c' : Nat), e = .returned (.tuple #[.slice A' (toldG zs).1.length c', .int .i64 (toldG zs).2]) ∧ Own w' w.heap.size 49 4 A' (toldG zs).1.length c' (evs (toldG zs).1) ∧ Below w.heap.size w w' := by
  have hz : zs.length = len := by have := hr.1; rw [bv_length] at this; omega
  have HT : Hid (toldG zs = if 64 < ob.body.length then ([], 51) else (outs ob.body (ob.body.length / 4), 0)) := Lib.hid (by unfold toldG; rw [if_neg (fun h => h hok), hno])
  have hmd := getG_mod zs ob (List.mem_of_find?_eq_some hno)
  have HMD := Lib.hid hmd
  have HG := Lib.hid (get22_any A len cap zs w hr hlc hcm hmax)
  rw [hok] at HG
  have HN := Lib.hid hno
  have HZ := Lib.hid hz
  clear hr hok hno hz hmd
  refine callsIn_of_wp_marks Tryd.func30 rfl trivial ?_ rfl
  simp only [Tryd.ntmps30, List.size_toArray, List.length_cons, List.length_nil, Nat.reduceAdd, Nat.reduceSub, Array.replicate_succ, Array.replicate_zero, List.push_toArray, List.append_toArray, List.nil_append, List.cons_append]
  gi_wp2_with fail
  refine ⟨trivial, (callsIn_wide.2 HG.out).mono ?_⟩
  rintro e w1 ⟨l, A', c', rfl, hl, hown, hxo, hb⟩
  have hln : l.length ≤ 1000000000 := by
    have h1 := getG_len zs
    rw [← hl, List.length_map, HZ.out] at h1
    omega
  obtain ⟨m, x, hm, hy, hbef, hfd⟩ : ∃ (m : Nat) (x : Xo), l[m]? = some x ∧ x.ob.lab = true ∧ (∀ (k : Nat) (y : Xo), k < m → l[k]? = some y → y.ob.lab = false) ∧ (l.map Xo.ob).find? Ob.lab = some x.ob := by
    rcases find_lab l with h | ⟨h1, h2⟩
    · exact h
    · rw [hl, HN.out] at h2
      cases h2
  have hobx : ob = x.ob := by
    rw [hl, HN.out] at hfd
    injection hfd
  have hml : m < l.length := (List.getElem?_eq_some_iff.1 hm).1
  have HI := Lib.hid (index_yes A' l.length c' l w1 hown.row hln m x hm hy hbef)
  have HXO := Lib.hid (hxo x (List.mem_of_getElem? hm))
  have HB := Lib.hid hb
  have HOW := Lib.hid hown.row
  have HM := Lib.hid hm
  subst hobx
  clear hb hxo hl hown hbef hy hm hfd
  gi_wp2_with fail
  refine ⟨trivial, (callsIn_wide.2 HI.out).mono ?_⟩
  rintro e w2 ⟨rfl, hb2⟩
  obtain ⟨b, o, hA, hbb, a0, a1, a2⟩ := xo_row (HOW.out.below hb2) m x HM.out
  subst hA
  have HB2 := Lib.hid hb2
  have hm0 : ¬ (m : Int) < 0 := by omega
  have hmi : (m : Int) < (l.length : Int) := by omega
  have HXW := Lib.hid (show Own w2 w.heap.size 5 1 x.A x.n x.c (bv x.body) from HXO.out.own.below hb2)
  have hbw : b < w2.heap.size := Nat.lt_of_lt_of_le hbb hb2.size
  clear hb2 hbb
  gi_wp2_with (refine ⟨trivial, ?_⟩; gi_at_call 56; refine (callsIn_wide.2 (chunk_any x.A x.n x.c _)).mono ?_; rintro e w' ⟨rfl, rfl⟩)
  have hxn : x.n ≤ x.c := HXW.out.le
  have hxc : x.c ≤ maxLen := HXW.out.cap
  have hxl : x.body.length = x.n := by have := HXW.out.len; rw [bv_length] at this; omega
  have hxm : x.n % 4 = 0 ∧ x.n ≤ 65536 := by
    have := HMD.out
    rw [← hxl]
    exact this
  have HXL := Lib.hid hxl
  have b4 := Boxed.new w2 23 (.slice none 0 0)
  have b5 := Boxed.new (w2.alloc (.cells #[.slice none 0 0] 23)) 22 (.slice x.A x.n x.c)
  have b6 := Boxed.new ((w2.alloc (.cells #[.slice none 0 0] 23)).alloc (.cells #[.slice x.A x.n x.c] 22)) 3 (.int .i64 4)
  simp only [World.size_alloc] at b5 b6
  have hI0 : TlI w2 x.body [] (((w2.alloc (.cells #[.slice none 0 0] 23)).alloc (.cells #[.slice x.A x.n x.c] 22)).alloc (.cells #[.int .i64 4] 3)) :=
    ⟨⟨none, 0, (b4.alloc _).alloc _, Own.nil _ _ _ _ _⟩, ⟨_, b5.alloc _⟩, ⟨_, b6⟩, (((Below.refl _ w2).alloc (Nat.le_refl _) _).alloc (by simp) _).alloc (by simp; omega) _⟩
  have hr0 := HXW.out.row.below hI0.bel
  have hx5 := b5.alloc (.cells #[.int .i64 4] 3)
  have hxm1 := hxm.1
  have hxm2 := hxm.2
  have HM1 := Lib.hid hxm1
  clear b4 b5 hxl a0 a1 a2 hxm
  refine rangeD (Bx := w2.heap.size + 1) (Kp := Keeps2 w2.heap.size (w2.heap.size + 1)) (ok := fun _ => True) rfl (by omega) (gf := 71) (lb := #[.pointer (some ⟨w2.heap.size + 1, 0, none⟩), .pointer (some ⟨w2.heap.size + 1 + 1, 0, none⟩)]) rfl trivial (enters_of Tryd.func71 (by kernel_rfl) rfl)
    (chunk1_ends (w2.heap.size + 1) w2.heap.size x.A x.n x.c x.body (by omega) hxn hxc hxm1 (3 - 1) (by omega) _ (by simp) hx5 b6 (by omega) hr0) (by simp) Keeps2.trans (keeps2_b (by simp; omega) (by simp)) (Below.refl _ _) (fun _ => rfl)
    (fun pre W => TlI w2 x.body pre W) (fun _ _ _ => False) ?hI (fun c => ownFrom_pure _ _) (TlI.lets w2 x.body) (fun _ _ _ _ _ => trivial) hI0
    (fun pre y a' W => w2.heap.size ≤ W.heap.size ∧ Row W w2.heap.size 1 y.1 4 (bv y.2) ∧ y.2 = (x.body.drop (4 * pre.length)).take 4 ∧ 4 * pre.length + 4 ≤ x.n ∧
      a' = { tmps := #[.slice A len cap, undef, .slice none 0 0, .int .i64 0, .slice (some ⟨b, o, none⟩) l.length c', .int .i64 0, .int .i64 (m : Int), .pointer (some ⟨w2.heap.size, 0, none⟩), .slice y.1 4 4, undef, undef, .tuple #[.slice (some ⟨b, o, none⟩) l.length c', .int .i64 0], .slice A len cap, .tuple #[.slice (some ⟨b, o, none⟩) l.length c', .int .i64 0], .slice (some ⟨b, o, none⟩) l.length c', .int .i64 0, .int .i64 0, .bool false, undef, .slice (some ⟨b, o, none⟩) l.length c', .int .i64 (m : Int), .int .i64 (m : Int), .bool (decide ((m : Int) < 0)), .slice (some ⟨b, o, none⟩) l.length c', .int .i64 (m : Int), .pointer (some ⟨b, o + m * 3, none⟩), .pointer (some ⟨b, o + m * 3 + 2, none⟩), .slice x.A x.n x.c, .func (.func 71) #[] #[.pointer (some ⟨w2.heap.size + 1, 0, none⟩), .pointer (some ⟨w2.heap.size + 1 + 1, 0, none⟩)], .slice y.1 4 4, undef, undef, undef, undef, undef, undef, undef, undef, undef, undef, undef, undef, undef], defers := [] }) ?hA ?assign ?body ?done ?stop
  case hI => exact TlI.ownFrom w2 x.body _ (by simp; omega)
  case hA =>
    rintro pre y a' _ X Y row ⟨h0, h1, h2, h3, h4⟩ hg hr
    exact ⟨Nat.le_trans h0 hg.size, h1.below ((Below.refl _ X).grown hg h0 (fun k e => by have := (hr k e).1; simp at this; omega)), h2, h3, h4⟩
  case assign =>
    intro l' pre y W K hI hy hK
    have HK := Lib.hid hK
    clear hK hI0 hr0 hx5 b6
    obtain ⟨hy0, hy1, hy2⟩ := hy
    have HY1 := Lib.hid hy1
    clear hy1
    dsimp only [tellsC]
    gi_wp2
    exact HK.out _ _ (KeepsFrom.of_grownBy (grown_refl W none) (by simp)) ⟨Below.refl _ _, rfl, rfl⟩ hI ⟨hI.bel.size, hy2, HY1.out, hy0, rfl⟩
  case body =>
    intro l' pre y a' W hl hrec hI hAx
    obtain ⟨hws, hrow, hy2, hpl, rfl⟩ := hAx
    have hE := unpE_take (x.body.drop (4 * pre.length)) (by rw [List.length_drop, HXL.out]; omega)
    have UP := unpack_any y.1 4 4 y.2 W (hrow.more hws) (by omega) (by simp only [maxLen]; omega) (by omega)
    rw [hy2, hE.1, hE.2] at UP
    obtain ⟨E, hEE⟩ : ∃ E, entAt x.body pre.length = E := ⟨_, rfl⟩
    rw [show unpE (x.body.drop (4 * pre.length)) = E from hEE] at UP
    have HEE := Lib.hid hEE
    obtain ⟨lb, cl, bt, tt⟩ := E
    dsimp only at UP
    have HUP := Lib.hid UP
    have HI := Lib.hid hI
    have hs2 : w2.heap.size ≤ W.heap.size := hws
    clear hI0 hr0 hx5 b6 UP hE hEE hy2 hrow hI
    gi_wp2_with (first
      | (refine ⟨trivial, ?_⟩; gi_at_call 57; refine (CallsIn.inRound l' (callsIn_wide.2 HUP.out)).mono ?_; rintro e W1 ⟨rfl, hb1⟩; obtain ⟨Ao, co, ho, hown⟩ := ((HI.out.below hb1).below (alloc_below W1 (.cells #[.int .i64 lb, .int .u8 cl, .bool bt, .int .u8 tt] 49))).out; have HOO := Lib.hid hown; have HBB := Lib.hid ho; have c7 := ho.cell; have f7 := ho.frozen; have hlt1 : w2.heap.size < W1.heap.size := (HI.out.below hb1).out.elim (fun _ h => h.elim (fun _ h => h.1.lt)); clear hown ho)
      | (gi_at_builtin; refine wpListIn_append_Own rfl _ _ 23 rfl w2.heap.size 49 _ 4 16 Tryd.underlying23 infoEntry rfl (by decide) _ _ _ _ rfl (HOO.out.alloc _) _ _ 1 1 (Ent.cells ⟨lb, cl, bt, tt⟩) rfl (by have h9 := row_newE (W1.alloc (.cells #[.int .i64 lb, .int .u8 cl, .bool bt, .int .u8 tt] 49)) ⟨lb, cl, bt, tt⟩; rw [World.size_alloc] at h9; exact h9) (by simp [Ent.cells, Value.oneCell']) (by simp only [maxLen]; omega) (by omega) (by simp; omega) ?_; intro A3 c3 w3 hown3 hg3 _; have b5 := (HBB.out.alloc (.cells #[.int .i64 lb, .int .u8 cl, .bool bt, .int .u8 tt] 49)).kept hg3 (not_blk (HOO.out.alloc (.cells #[.int .i64 lb, .int .u8 cl, .bool bt, .int .u8 tt] 49)) (HBB.out.alloc (.cells #[.int .i64 lb, .int .u8 cl, .bool bt, .int .u8 tt] 49)) (by decide)); have c5' := b5.cell; have f5' := b5.frozen))
    obtain ⟨k1, k2, k3⟩ := ((HI.out.below hb1).below (alloc_below W1 (.cells #[.int .i64 lb, .int .u8 cl, .bool bt, .int .u8 tt] 49))).pushed y _ HBB.out HOO.out (by rw [HEE.out]; exact hown3) hg3 (B := w2.heap.size + 1 + 1 + 1) (by omega)
    have hbb : Below W.heap.size W (W1.alloc (.cells #[.int .i64 lb, .int .u8 cl, .bool bt, .int .u8 tt] 49)) := bthen hb1 (alloc_below _ _)
    obtain ⟨v5, hv5⟩ := HI.out.bx
    obtain ⟨v6, hv6⟩ := HI.out.bx2
    exact ⟨by simpa using (KeepsFrom.of_grownBy (below_grow hbb none) (by simp)).trans k1, Keeps2.trans ⟨hbb.mono hs2, hbb.block _ hv5.lt, hbb.block _ hv6.lt⟩ k2, k3⟩
  case done =>
    intro D xs W hD hS hI hdef
    have hgD := grownBy_putObj' W D (.deferred none)
    have hD' : w2.heap.size ≤ D := by simp at hD; omega
    obtain ⟨A3, c3, ho, hown⟩ := hI.out
    have HOO := Lib.hid hown
    have HBL := Lib.hid hI.bel
    have hnc : ∀ r, some D = some r → ∀ cs t, W.heap[r]? = some (.cells cs t (0, 0)) → False := fun r e cs t hx => by
      cases e
      rw [hdef] at hx
      cases hx
    have hbel : Below w.heap.size w W := bthen (HB.out) (bthen HB2.out (hI.bel)) 
    have hb' := hbel.grown hgD hbel.size (fun k e => by cases e; have h1 := HB.out.size; have h2 := HB2.out.size; omega)
    have ho4 := (own_turn hown hgD hnc).mono (show w.heap.size ≤ w2.heap.size from Nat.le_trans HB.out.size HB2.out.size)
    have c7 := ho.cell
    have HT2 := Lib.hid (show x.ob.body.length = 4 * xs.length by show x.body.length = _; rw [HXL.out]; exact hS.symm)
    have HO4 := Lib.hid ho4
    have HB4 := Lib.hid hb'
    clear hI0 hr0 hx5 b6 hI ho hown hbel hS hnc ho4 hb' hgD
    by_cases h16 : 16 < xs.length
    · have h16i : (16 : Int) < (xs.length : Int) := by omega
      gi_wp2
      refine ⟨by simp, .inl ⟨_, _, rfl, run_takeDeferred hdef, ?_⟩⟩
      refine ⟨.tuple #[.slice none 0 0, .int .i64 51], by simp [results, Tryd.f30, go_sem], none, 0, ?_, ?_, HB4.out⟩
      · rw [HT.out, if_pos (by rw [HT2.out]; omega)]; rfl
      · rw [HT.out, if_pos (by rw [HT2.out]; omega)]; exact Own.nil _ _ _ _ _
    · have h16i : ¬ (16 : Int) < (xs.length : Int) := by omega
      gi_wp2
      refine ⟨by simp, .inl ⟨_, _, rfl, run_takeDeferred hdef, ?_⟩⟩
      refine ⟨.tuple #[.slice A3 xs.length c3, .int .i64 0], by simp [results, Tryd.f30, go_sem], A3, c3, ?_, ?_, HB4.out⟩
      · rw [HT.out, if_neg (by rw [HT2.out]; omega), HT2.out, show 4 * xs.length / 4 = xs.length by omega]
        simp [outs_length]
      · rw [HT.out, if_neg (by rw [HT2.out]; omega), HT2.out, show 4 * xs.length / 4 = xs.length by omega]
        simp only [outs_length]
        exact HO4.out
  case stop =>
    intro D c pre W hD hS hI hdef
    exact hI.elim

theorem told22_any (A : Option Addr) (len cap : Nat) (zs : List UInt8) (w : World) (hr : Row w w.heap.size 1 A len (bv zs)) (hlc : len ≤ cap) (hcm : cap ≤ maxLen) (hmax : len ≤ 1000000000) :
    Calls Tryd.prog 30 #[.slice A len cap] w fun e w' => ∃ (A' : Option Addr) (c' : Nat), e = .returned (.tuple #[.slice A' (toldG zs).1.length c', .int .i64 (toldG zs).2]) ∧ Own w' w.heap.size 49 4 A' (toldG zs).1.length c' (evs (toldG zs).1) ∧ Below w.heap.size w w' := by
  by_cases h0 : (getG zs).2 = 0
  · cases hf : (getG zs).1.find? Ob.lab with
    | none =>
      have hT : toldG zs = ([], 31) := by unfold toldG; rw [if_neg (fun h => h h0), hf]
      refine (told22_none A len cap zs w hr hlc hcm hmax h0 hf).mono ?_
      rintro e w' ⟨rfl, hb⟩
      exact ⟨none, 0, by rw [hT]; rfl, by rw [hT]; exact Own.nil _ _ _ _ _, hb⟩
    | some ob => exact callsIn_wide.1 (told22_in A len cap zs w hr hlc hcm hmax h0 ob hf)
  · have hT : toldG zs = ([], (getG zs).2) := by unfold toldG; rw [if_pos h0]
    refine (told22_bad A len cap zs w hr hlc hcm hmax h0).mono ?_
    rintro e w' ⟨rfl, hb⟩
    exact ⟨none, 0, by rw [hT]; rfl, by rw [hT]; exact Own.nil _ _ _ _ _, hb⟩
end Go.Proofs.YtckbleiikldloaaDoor

/- What the reference's Get (layer 22) computes. No condition but sizes. -/
namespace Go.Proofs.YtckbleiikldloaaDoor
open Go.RowKit
set_option linter.unusedVariables false
set_option maxRecDepth 20000
set_option linter.unusedSimpArgs false

theorem infoOb : (Tryd.prog.info? 93).map (fun i => (i.zero, i.size, i.bytes)) = some (some (.agg #[.int .u8 0, .int .u8 0, .string ⟨#[]⟩]), 3, 24) := by kernel_rfl
section
variable {P : Program} {w : World} {o : Oper} {a : Act} {Q : Exit → Act → World → Prop} {K : Act → World → Prop}
theorem wp_append_Own (s x : Operand) (t : TypeId) (ho : o.op = .call { callee := .builtin .append, args := #[s, x], argTypes := #[t, t] })
    (base : Nat) (e : TypeId) (z : Value) (sz bytes : Nat) (ht : P.underlying t = some (.slice e)) (hinfo : (P.info? e).map (fun i => (i.zero, i.size, i.bytes)) = some (some z, sz, bytes))
    (hzs : z.cells.size = sz) (hsz : 0 < sz)
    (A : Option Addr) (n c : Nat) (xs : List Value) (hs : a.eval s = .slice A n c) (hown : Own w base e sz A n c xs)
    (B : Nat) (X : Option Addr) (m cx : Nat) (news : List Value) (hx : a.eval x = .slice X m cx) (hr : Row w B sz X m news) (h1 : ∀ u ∈ news, u.oneCell' = true)
    (h63 : n + m ≤ maxLen) (hbytes : (n + m) * bytes ≤ 140737488355328) (hbase : base ≤ w.heap.size)
    (h : ∀ A' c' w', Own w' base e sz A' (n + m) c' (xs ++ news) → w.grownBy w' (blk A c) → K (a.put o.dst (.slice A' (n + m) c')) w') : o.wp P a w K Q := by
  obtain ⟨A', c', w', hrun, h2, h3, h4⟩ := run_append_Own (P := P) w base t o.type e z sz bytes ht hinfo hzs hsz A n c xs hown B X m cx news hr h1 h63 hbytes hbase
  refine wp_value ?_ (h A' c' w' h2 h3)
  unfold execOp
  simp [ho, resolve, invoke, builtin, hs, hx, hrun, Result.andThen]
end
def strN (v : Value) : Nat := match v with | .string b => b.size | _ => 0
theorem goG_zero (acc : List Ob) (zs : List UInt8) (h : zs.length = 0) (f : Nat) : goG f acc zs = (acc, 0) := by
  cases f with
  | zero => rfl
  | succ f => unfold goG; rw [if_pos h]
set_option maxHeartbeats 4000000 in
theorem rget22_any (zs : List UInt8) (w : World) (hmax : zs.length ≤ 1000000000) :
    Calls Tryd.prog 62 #[str zs] w fun e w' => ∃ (A' : Option Addr) (c' : Nat), e = .returned (.tuple #[.slice A' (getG zs).1.length c', .int .i64 (getG zs).2]) ∧ Own w' w.heap.size 93 3 A' (getG zs).1.length c' (obs (getG zs).1) ∧ Below w.heap.size w w' := by
  by_cases h4 : zs.length < 4
  · have hG : Hid (getG zs = ([], 10)) := Lib.hid (by unfold getG; rw [if_pos h4])
    have h4i : (zs.length : Int) < 4 := by omega
    clear h4
    go_enter Tryd.func62, Tryd.ntmps62
    go_wp2_with fail
    go_ret2
    exact ⟨none, 0, by rw [hG.out]; rfl, by rw [hG.out]; exact Own.nil _ _ _ _ _, Below.refl _ _⟩
  · have h4i : ¬ (zs.length : Int) < 4 := by omega
    obtain ⟨y, hy, hyb⟩ := u8_bd0 zs 0
    have hyb2 : (y : Int) ≤ 255 := by omega
    have hx0 : ∀ h', (((ByteArray.mk zs.toArray)[0]'h').toNat : Int) = (y : Int) := fun h' => by rw [ba_get zs 0 (zs.getD 0 0) (by rw [List.getD_eq_getElem?_getD, List.getElem?_eq_getElem (by omega)]; rfl), hy]
    by_cases hv : y / 16 = 2
    · have hvi : ((y : Int) / 16 != 2) = false := by simp; omega
      by_cases hs : rawN zs = 65535
      · have hsi : (((rawN zs : Nat) : Int) != 65535) = false := by simp; omega
        have hG : Hid (getG zs = goG (zs.length - 4) [] (zs.drop 4)) := Lib.hid (by unfold getG; rw [if_neg h4, if_neg (by rw [hy]; exact fun h => h hv), if_neg (fun h => h hs)])
        have hd4 : Value.string ((ByteArray.mk zs.toArray).extract 4 zs.length) = str (zs.drop 4) := str_drop zs 4
        have h4j : (4 : Int) ≤ (zs.length : Int) := by omega
        have hzl : 4 ≤ zs.length := by omega
        clear h4 hv hs hy
        go_enter Tryd.func62, Tryd.ntmps62
        go_wp2_with (go_at_call 33; refine (rraw_any zs _ (by omega)).mono ?_; rintro e w' ⟨rfl, rfl⟩)
        clear hd4 hx0
        go_loopw [4, 5] (fun v s wr => ∃ (acc : List Ob) (f : Nat) (rs : List UInt8) (q : Nat) (A2 : Option Addr) (c2 : Nat), v = .slice A2 q c2 ∧ s = str rs ∧ goG (zs.length - 4) [] (zs.drop 4) = goG f acc rs ∧ acc.length = q ∧ rs.length ≤ f ∧ 4 * q + rs.length ≤ zs.length ∧ Own wr w.heap.size 93 3 A2 q c2 (obs acc) ∧ Below w.heap.size w wr) (fun _ s _ => strN s)
        case atStart => exact ⟨[], zs.length - 4, zs.drop 4, 0, none, 0, rfl, rfl, rfl, rfl, by simp, by simp, Own.nil _ _ _ _ _, Below.refl _ _⟩
        case round =>
          obtain ⟨acc, f, rs, q, A2, c2, rfl, rfl, hgo, hq, hrf, hle, hob, hbe⟩ := hrel
          have HGO := Lib.hid hgo
          have HQ := Lib.hid hq
          have HOB := Lib.hid hob
          have HBE := Lib.hid hbe
          clear hgo hq hob hbe
          by_cases hz0 : rs.length = 0
          · obtain rfl := List.eq_nil_of_length_eq_zero hz0
            have HGG := Lib.hid (goG_zero acc [] rfl f)
            clear hz0 hrf hle
            go_wp2_with fail
            go_ret2
            exact ⟨A2, c2, by rw [hG.out, HGO.out, HGG.out]; simp only [HQ.out]; rfl, by rw [hG.out, HGO.out, HGG.out]; simp only [HQ.out]; exact HOB.out, HBE.out⟩
          · have hne : (!rs.isEmpty) = true := by cases rs with | nil => exact absurd rfl hz0 | cons => rfl
            obtain ⟨f, rfl⟩ : ∃ q, f = q + 1 := ⟨f - 1, by omega⟩
            have hstep : goG (f + 1) acc rs = if rs.length < 4 then ([], 10) else if badG rs then ([], 13) else goG f (acc ++ [obG rs]) (rs.drop (be (rs.take 2))) := by
              show (if rs.length = 0 then _ else _) = _
              rw [if_neg hz0]
            by_cases h4 : rs.length < 4
            · rw [if_pos h4] at hstep
              have HST := Lib.hid hstep
              have h4i : (rs.length : Int) < 4 := by omega
              clear hstep h4
              go_wp2_with fail
              go_ret2
              exact ⟨none, 0, by rw [hG.out, HGO.out, HST.out]; rfl, by rw [hG.out, HGO.out, HST.out]; exact Own.nil _ _ _ _ _, HBE.out⟩
            · rw [if_neg h4] at hstep
              have h4i : ¬ (rs.length : Int) < 4 := by omega
              obtain ⟨k, hk⟩ : ∃ k, be (rs.take 2) = k := ⟨_, rfl⟩
              have hk16 : k < 65536 := by rw [← hk]; exact be_bd (rs.take 2) 2 (by rw [List.length_take]; omega)
              have GET := Lib.hid (fun W => (show Calls Tryd.prog 34 #[str rs, .int .i64 0, .int .i64 2] W fun e w' => e = .returned (.tuple #[.int .u64 (k : Nat), .bool true]) ∧ W = w' by
                have := rget_yes rs 0 2 W (by omega) (by omega) (by omega) (by omega) (by omega)
                rw [show be ((rs.drop (0 : Int).toNat).take (2 : Int).toNat) = k from hk] at this
                exact this))
              have hbad : badG rs = (decide (k < 4) || decide (rs.length < k) || decide (k % 4 ≠ 0)) := by unfold badG; rw [hk]
              rw [hk] at hstep
              have HK := Lib.hid hk
              have hsz : rs.length ≤ 1000000000 := by omega
              clear hk
              by_cases hgood : 4 ≤ k ∧ k ≤ rs.length ∧ k % 4 = 0
              · obtain ⟨g1, g2, g3⟩ := hgood
                have i1 : ¬ (k : Int) < 4 := by omega
                have i2 : ¬ (rs.length : Int) < (k : Int) := by omega
                have i3 : ¬ (0 : Int) < (k : Int) % 4 := by omega
                have i4 : decide ((0 : Int) < (k : Int) % 4) = false := by simp; omega
                rw [if_neg (by rw [hbad]; simp; omega)] at hstep
                clear hbad
                obtain ⟨y2, hy2, hyb2'⟩ := u8_bd0 rs 2
                obtain ⟨y3, hy3, hyb3⟩ := u8_bd0 rs 3
                have hx2 : ∀ h', (((ByteArray.mk rs.toArray)[2]'h').toNat : Int) = (y2 : Int) := fun h' => by rw [ba_get rs 2 (rs.getD 2 0) (by rw [List.getD_eq_getElem?_getD, List.getElem?_eq_getElem (by omega)]; rfl), hy2]
                have hx3 : ∀ h', (((ByteArray.mk rs.toArray)[3]'h').toNat : Int) = (y3 : Int) := fun h' => by rw [ba_get rs 3 (rs.getD 3 0) (by rw [List.getD_eq_getElem?_getD, List.getElem?_eq_getElem (by omega)]; rfl), hy3]
                have HOG : Hid (obG rs = ⟨(y2 : Int), (y3 : Int), (rs.take k).drop 4⟩) := Lib.hid (by unfold obG; rw [HK.out, hy2, hy3])
                obtain ⟨body, hbody⟩ : ∃ q, (rs.take k).drop 4 = q := ⟨_, rfl⟩
                rw [hbody] at HOG
                have HBS : Hid (Value.string ((ByteArray.mk rs.toArray).extract 4 k) = str body) := Lib.hid (by rw [str_ex, hbody])
                have HBL := Lib.hid (show body.length ≤ 65536 by rw [← hbody]; simp; omega)
                have HSD := Lib.hid (str_drop rs k)
                have HST := Lib.hid hstep
                have j1 : (4 : Int) ≤ (k : Int) := by omega
                have j2 : (k : Int) ≤ (rs.length : Int) := by omega
                have j3 : (2 : Int) < (rs.length : Int) := by omega
                have j4 : (3 : Int) < (rs.length : Int) := by omega
                have HMS : Hid (strN (str (rs.drop k)) < strN (str rs)) := Lib.hid (by simp [strN, ByteArray.size]; omega)
                clear hstep hy2 hy3 hbody
                go_wp2_with (go_at_call 34; refine (GET.out _).mono ?_; rintro e w' ⟨rfl, rfl⟩)
                refine (wpIn_wide (n := 3)).1 ?_
                refine wpIn_region_last2 10 (fun A B => A.grownBy B none) (fun A => grown_refl A _) (fun A B C h k => grown_trans h k) (relAt (List.cons (fun v _ => v = .slice A2 q c2) (List.cons (fun v _ => v = str rs) (List.cons (fun v _ => v = .int .u8 (y2 : Int)) (List.cons (fun v _ => v = str rs) (List.cons (fun v _ => v = .int .u8 (y3 : Int)) (List.cons (fun v _ => v = str rs) (List.cons (fun v _ => v = .int .i64 (k : Int)) (List.cons (fun v _ => v = str body) (List.cons (fun v _ => v = .agg (Ob.cells ⟨(y2 : Int), (y3 : Int), body⟩).toArray) (List.cons (fun v W => ∃ g, v = .slice (some ⟨g, 0, none⟩) 1 1 ∧ Row W W.heap.size 3 (some ⟨g, 0, none⟩) 1 (Ob.cells ⟨(y2 : Int), (y3 : Int), body⟩)) ([])))))))))))) (MonoL.at_ (.cons (mono_val _) (.cons (mono_val _) (.cons (mono_val _) (.cons (mono_val _) (.cons (mono_val _) (.cons (mono_val _) (.cons (mono_val _) (.cons (mono_val _) (.cons (mono_val _) (.cons (fun _ _ _ ⟨g, h1, h2⟩ k => ⟨g, h1, (h2.below (grow_below k)).more k.size⟩) .nil))))))))))) (by kernel_rfl) (by kernel_rfl) rfl (by kernel_rfl) _ rfl rfl _ rfl rfl ⟨?_, ?_, ?_, ?_, ?_, ?_, ?_, ?_, ?_, ?_, trivial⟩ ?_
                · intro a vs W hX hR he hf K hK
                  rw [if_pos (wanted_none rfl)]
                  have e4 : a.eval (.tmp 4) = .slice A2 q c2 := hf 4 (by kernel_rfl)
                  refine wp_value (v := .slice A2 q c2) ?_ (hK _ _ rfl (grown_refl W _))
                  simp only [execOp, e4]
                  try go_simp
                  try (first | rfl | omega | (simp only [IntKind.wrap_i64, IntKind.wrap_u8, IntKind.wrap_u64, IntKind.wrap_u16, IntKind.wrap_u32]; omega) | (rw [Int.tmod_eq_emod_of_nonneg (by omega)]) | (rw [Int.tmod_eq_emod_of_nonneg (by omega)]; omega))
                · intro a vs W hX hR he hf K hK
                  rw [if_pos (wanted_none rfl)]
                  have e5 : a.eval (.tmp 5) = str rs := hf 5 (by kernel_rfl)
                  refine wp_value (v := str rs) ?_ (hK _ _ rfl (grown_refl W _))
                  simp only [execOp, e5]
                  try go_simp
                  try (first | rfl | omega | (simp only [IntKind.wrap_i64, IntKind.wrap_u8, IntKind.wrap_u64, IntKind.wrap_u16, IntKind.wrap_u32]; omega) | (rw [Int.tmod_eq_emod_of_nonneg (by omega)]) | (rw [Int.tmod_eq_emod_of_nonneg (by omega)]; omega))
                · intro a vs W hX hR he hf K hK
                  rw [if_pos (wanted_none rfl)]
                  have e47 : a.eval (.tmp 47) = str rs := (he 1 47 (by kernel_rfl) rfl).trans (hR 1 (by kernel_rfl))
                  refine wp_value (v := .int .u8 (y2 : Int)) ?_ (hK _ _ rfl (grown_refl W _))
                  simp only [execOp, e47]
                  go_simp
                · intro a vs W hX hR he hf K hK
                  rw [if_pos (wanted_none rfl)]
                  have e5 : a.eval (.tmp 5) = str rs := hf 5 (by kernel_rfl)
                  refine wp_value (v := str rs) ?_ (hK _ _ rfl (grown_refl W _))
                  simp only [execOp, e5]
                  try go_simp
                  try (first | rfl | omega | (simp only [IntKind.wrap_i64, IntKind.wrap_u8, IntKind.wrap_u64, IntKind.wrap_u16, IntKind.wrap_u32]; omega) | (rw [Int.tmod_eq_emod_of_nonneg (by omega)]) | (rw [Int.tmod_eq_emod_of_nonneg (by omega)]; omega))
                · intro a vs W hX hR he hf K hK
                  rw [if_pos (wanted_none rfl)]
                  have e49 : a.eval (.tmp 49) = str rs := (he 3 49 (by kernel_rfl) rfl).trans (hR 3 (by kernel_rfl))
                  refine wp_value (v := .int .u8 (y3 : Int)) ?_ (hK _ _ rfl (grown_refl W _))
                  simp only [execOp, e49]
                  go_simp
                · intro a vs W hX hR he hf K hK
                  rw [if_pos (wanted_none rfl)]
                  have e5 : a.eval (.tmp 5) = str rs := hf 5 (by kernel_rfl)
                  refine wp_value (v := str rs) ?_ (hK _ _ rfl (grown_refl W _))
                  simp only [execOp, e5]
                  try go_simp
                  try (first | rfl | omega | (simp only [IntKind.wrap_i64, IntKind.wrap_u8, IntKind.wrap_u64, IntKind.wrap_u16, IntKind.wrap_u32]; omega) | (rw [Int.tmod_eq_emod_of_nonneg (by omega)]) | (rw [Int.tmod_eq_emod_of_nonneg (by omega)]; omega))
                · intro a vs W hX hR he hf K hK
                  rw [if_pos (wanted_none rfl)]
                  have e8 : a.eval (.tmp 8) = .int .i64 (k : Int) := hf 8 (by kernel_rfl)
                  refine wp_value (v := .int .i64 (k : Int)) ?_ (hK _ _ rfl (grown_refl W _))
                  simp only [execOp, e8]
                  try go_simp
                  try (first | rfl | omega | (simp only [IntKind.wrap_i64, IntKind.wrap_u8, IntKind.wrap_u64, IntKind.wrap_u16, IntKind.wrap_u32]; omega) | (rw [Int.tmod_eq_emod_of_nonneg (by omega)]) | (rw [Int.tmod_eq_emod_of_nonneg (by omega)]; omega))
                · intro a vs W hX hR he hf K hK
                  rw [if_pos (wanted_none rfl)]
                  have e51 : a.eval (.tmp 51) = str rs := (he 5 51 (by kernel_rfl) rfl).trans (hR 5 (by kernel_rfl))
                  have e52 : a.eval (.tmp 52) = .int .i64 (k : Int) := (he 6 52 (by kernel_rfl) rfl).trans (hR 6 (by kernel_rfl))
                  have f51 := e51
                  simp only [Act.eval, Array.getD_eq_getD_getElem?] at f51
                  have f52 := e52
                  simp only [Act.eval, Array.getD_eq_getD_getElem?] at f52
                  refine wp_value (v := str body) ?_ (hK _ _ rfl (grown_refl W _))
                  simp only [execOp, e51, e52]
                  have hq := HBS.out
                  go_simp
                · intro a vs W hX hR he hf K hK
                  rw [if_pos (wanted_none rfl)]
                  have e48 : a.eval (.tmp 48) = .int .u8 (y2 : Int) := (he 2 48 (by kernel_rfl) rfl).trans (hR 2 (by kernel_rfl))
                  have e50 : a.eval (.tmp 50) = .int .u8 (y3 : Int) := (he 4 50 (by kernel_rfl) rfl).trans (hR 4 (by kernel_rfl))
                  have e53 : a.eval (.tmp 53) = str body := (he 7 53 (by kernel_rfl) rfl).trans (hR 7 (by kernel_rfl))
                  have f48 := e48
                  simp only [Act.eval, Array.getD_eq_getD_getElem?] at f48
                  have f50 := e50
                  simp only [Act.eval, Array.getD_eq_getD_getElem?] at f50
                  have f53 := e53
                  simp only [Act.eval, Array.getD_eq_getD_getElem?] at f53
                  refine wp_value (v := .agg (Ob.cells ⟨(y2 : Int), (y3 : Int), body⟩).toArray) ?_ (hK _ _ rfl (grown_refl W _))
                  simp only [execOp, f48, f50, f53, e48, e50, e53, Ob.cells]
                  go_simp
                · intro a vs W hX hR he hf K hK
                  rw [if_pos (wanted_none rfl)]
                  have e54 : a.eval (.tmp 54) = .agg (Ob.cells ⟨(y2 : Int), (y3 : Int), body⟩).toArray := (he 8 54 (by kernel_rfl) rfl).trans (hR 8 (by kernel_rfl))
                  have f54 := e54
                  simp only [Act.eval, Array.getD_eq_getD_getElem?] at f54
                  simp only [Ob.cells] at e54 f54
                  refine wp_value (v := .slice (some ⟨W.heap.size, 0, none⟩) 1 1) (w' := W.alloc (.cells (Ob.cells ⟨(y2 : Int), (y3 : Int), body⟩).toArray 93)) ?_ (hK _ _ ⟨_, rfl, by rw [World.size_alloc]; exact Row.new (n := 1) (sz := 3) W _ rfl⟩ (World.grownBy_alloc _ _ _))
                  simp only [execOp, e54, f54, Ob.cells]
                  go_simp
                · intro vs W2 hX2 hR
                  have q0 := hR 0 (by decide)
                  have q1 := hR 1 (by decide)
                  have q2 := hR 2 (by decide)
                  have q3 := hR 3 (by decide)
                  have q4 := hR 4 (by decide)
                  have q5 := hR 5 (by decide)
                  have q6 := hR 6 (by decide)
                  have q7 := hR 7 (by decide)
                  have q8 := hR 8 (by decide)
                  have q9 := hR 9 (by decide)
                  change vs 0 = .slice A2 q c2 at q0
                  change vs 1 = str rs at q1
                  change vs 2 = .int .u8 (y2 : Int) at q2
                  change vs 3 = str rs at q3
                  change vs 4 = .int .u8 (y3 : Int) at q4
                  change vs 5 = str rs at q5
                  change vs 6 = .int .i64 (k : Int) at q6
                  change vs 7 = str body at q7
                  change vs 8 = .agg (Ob.cells ⟨(y2 : Int), (y3 : Int), body⟩).toArray at q8
                  change (fun v W => ∃ g, v = .slice (some ⟨g, 0, none⟩) 1 1 ∧ Row W W.heap.size 3 (some ⟨g, 0, none⟩) 1 (Ob.cells ⟨(y2 : Int), (y3 : Int), body⟩)) (vs 9) W2 at q9
                  simp only [putAll, Act.put, List.setIfInBounds_toArray, List.set_cons_zero, List.set_cons_succ, List.take_succ_cons, List.take_zero, q0, q1, q2, q3, q4, q5, q6, q7, q8]
                  clear q0 q1 q2 q3 q4 q5 q6 q7 q8
                  clear hR
                  obtain ⟨g2, hv2, hrow2⟩ := q9
                  rw [hv2]
                  have hbW := bthen (below_drew _) (grow_below hX2)
                  refine wpIn_of_wp (wp_append_Own _ _ 94 rfl w.heap.size 93 _ 3 24 Tryd.underlying94 infoOb rfl (by decide) A2 q c2 _ rfl (HOB.out.below hbW) _ _ 1 1 _ rfl hrow2 (by intro u hu; simp [Ob.cells] at hu; rcases hu with rfl | rfl | rfl <;> rfl) (by simp only [maxLen]; omega) (by omega) (by have h1 := hbW.size; have h2 := HBE.out.size; omega) ?_)
                  intro A5 c5 w5 hown5 hg5
                  refine wpIn_of_wp (wp_value (v := .slice A5 (q + 1) c5) (w' := w5) (by simp only [execOp]; go_simp) ?_)
                  try simp only [List.getElem_toArray, List.getElem_cons_succ, List.getElem_cons_zero, Act.put, List.setIfInBounds_toArray, List.set_cons_zero, List.set_cons_succ]
                  go_wp2_with fail
                  go_roundw
                  case rel =>
                    refine ⟨acc ++ [⟨(y2 : Int), (y3 : Int), body⟩], f, rs.drop k, q + 1, A5, c5, rfl, HSD.out, ?_, by simp [HQ.out], by rw [List.length_drop]; omega, by rw [List.length_drop]; omega, ?_, ?_⟩
                    · rw [HGO.out, HST.out, HOG.out]
                    · rw [show obs (acc ++ [⟨(y2 : Int), (y3 : Int), body⟩]) = obs acc ++ Ob.cells ⟨(y2 : Int), (y3 : Int), body⟩ by simp [obs]]
                      exact hown5
                    · exact bgrown' (HBE.out.trans (hbW.mono HBE.out.size)) hg5 (by have h1 := hbW.size; have h2 := HBE.out.size; omega) (fun g hg => (HOB.out.lt g hg).1)
                  case measure =>
                    rw [HSD.out]
                    exact HMS.out
              · have hbt : badG rs = true := by rw [hbad]; simp; omega
                rw [if_pos hbt] at hstep
                have HST := Lib.hid hstep
                clear hstep hbt hbad
                have hcase : k < 4 ∨ (4 ≤ k ∧ rs.length < k) ∨ (4 ≤ k ∧ k ≤ rs.length ∧ k % 4 ≠ 0) := by omega
                rcases hcase with h1 | ⟨h1, h2⟩ | ⟨h1, h2, h3⟩
                · have i1 : (k : Int) < 4 := by omega
                  go_wp2_with (go_at_call 34; refine (GET.out _).mono ?_; rintro e w' ⟨rfl, rfl⟩)
                  go_ret2
                  exact ⟨none, 0, by rw [hG.out, HGO.out, HST.out]; rfl, by rw [hG.out, HGO.out, HST.out]; exact Own.nil _ _ _ _ _, HBE.out⟩
                · have i1 : ¬ (k : Int) < 4 := by omega
                  have i2 : (rs.length : Int) < (k : Int) := by omega
                  go_wp2_with (go_at_call 34; refine (GET.out _).mono ?_; rintro e w' ⟨rfl, rfl⟩)
                  go_ret2
                  exact ⟨none, 0, by rw [hG.out, HGO.out, HST.out]; rfl, by rw [hG.out, HGO.out, HST.out]; exact Own.nil _ _ _ _ _, HBE.out⟩
                · have i1 : ¬ (k : Int) < 4 := by omega
                  have i2 : ¬ (rs.length : Int) < (k : Int) := by omega
                  have i3 : (0 : Int) < (k : Int) % 4 := by omega
                  go_wp2_with (go_at_call 34; refine (GET.out _).mono ?_; rintro e w' ⟨rfl, rfl⟩)
                  go_ret2
                  exact ⟨none, 0, by rw [hG.out, HGO.out, HST.out]; rfl, by rw [hG.out, HGO.out, HST.out]; exact Own.nil _ _ _ _ _, HBE.out⟩
      · have hsi : (((rawN zs : Nat) : Int) != 65535) = true := by simp; omega
        have hG : Hid (getG zs = ([], 14)) := Lib.hid (by unfold getG; rw [if_neg h4, if_neg (by rw [hy]; exact fun h => h hv), if_pos hs])
        clear h4 hv hs hy
        go_enter Tryd.func62, Tryd.ntmps62
        go_wp2_with (go_at_call 33; refine (rraw_any zs _ (by omega)).mono ?_; rintro e w' ⟨rfl, rfl⟩)
        go_ret2
        exact ⟨none, 0, by rw [hG.out]; rfl, by rw [hG.out]; exact Own.nil _ _ _ _ _, Below.refl _ _⟩
    · have hvi : ((y : Int) / 16 != 2) = true := by simp; omega
      have hG : Hid (getG zs = ([], 12)) := Lib.hid (by unfold getG; rw [if_neg h4, if_pos (by rw [hy]; exact hv)])
      clear h4 hv hy
      go_enter Tryd.func62, Tryd.ntmps62
      go_wp2_with fail
      go_ret2
      exact ⟨none, 0, by rw [hG.out]; rfl, by rw [hG.out]; exact Own.nil _ _ _ _ _, Below.refl _ _⟩
end Go.Proofs.YtckbleiikldloaaDoor

/- What the reference's Told (layer 22) computes. No condition but sizes. -/
namespace Go.Proofs.YtckbleiikldloaaDoor
open Go.RowKit
set_option linter.unusedVariables false
set_option maxRecDepth 20000
set_option linter.unusedSimpArgs false

theorem find_first (l : List Ob) : ∀ (j : Nat) (x : Ob), l[j]? = some x → x.lab = true → (∀ (k : Nat) (y : Ob), k < j → l[k]? = some y → y.lab = false) → l.find? Ob.lab = some x := by
  induction l with
  | nil => intro j x h; simp at h
  | cons a l ih =>
    intro j x hx hl hb
    cases j with
    | zero =>
      simp at hx
      subst hx
      simp [hl]
    | succ j =>
      have ha := hb 0 a (by omega) rfl
      rw [List.find?_cons, ha]
      exact ih j x (by simpa using hx) hl (fun k y hk hy => hb (k + 1) y (by omega) (by simpa using hy))
theorem find_none (l : List Ob) (h : ∀ (k : Nat) (y : Ob), k < l.length → l[k]? = some y → y.lab = false) : l.find? Ob.lab = none := by
  rw [List.find?_eq_none]
  intro x hx
  obtain ⟨k, hk, he⟩ := List.mem_iff_getElem.1 hx
  have := h k x hk (by rw [List.getElem?_eq_getElem hk, he])
  simp [this]

set_option maxRecDepth 100000 in
set_option maxHeartbeats 4000000 in
theorem rtold22_any (zs : List UInt8) (w : World) (hmax : zs.length ≤ 1000000000) :
    Calls Tryd.prog 35 #[str zs] w fun e w' => ∃ (A' : Option Addr) (c' : Nat), e = .returned (.tuple #[.slice A' (toldG zs).1.length c', .int .i64 (toldG zs).2]) ∧ Own w' w.heap.size 49 4 A' (toldG zs).1.length c' (evs (toldG zs).1) ∧ Below w.heap.size w w' := by
  have HG := Lib.hid (rget22_any zs w hmax)
  have HLN := Lib.hid (getG_len zs)
  have HMO := Lib.hid (getG_mod zs)
  by_cases h0 : (getG zs).2 = 0
  · rw [h0] at HG
    obtain ⟨L, hL⟩ : ∃ L, (getG zs).1 = L := ⟨_, rfl⟩
    have HT : Hid (toldG zs = match L.find? Ob.lab with | none => ([], 31) | some x => if 64 < x.body.length then ([], 51) else (outs x.body (x.body.length / 4), 0)) := Lib.hid (by unfold toldG; rw [if_neg (fun h => h h0), hL] <;> (cases L.find? Ob.lab <;> rfl))
    rw [hL] at HG HLN HMO
    obtain ⟨n, hn⟩ : ∃ n, L.length = n := ⟨_, rfl⟩
    have hnm : n ≤ 1000000000 := by have := HLN.out; omega
    have HNN := Lib.hid hn
    rw [hn] at HG
    clear h0 hL hn
    go_enter Tryd.func35, Tryd.ntmps35
    go_wp2_with fail
    refine HG.out.mono ?_
    rintro e w1 ⟨A1, c1, rfl, hown, hb⟩
    have HR := Lib.hid hown.row
    have HB := Lib.hid hb
    clear hown hb
    go_wp2_with fail
    go_loopw [6] (fun i wr => ∃ j : Nat, j ≤ n ∧ i = .int .i64 (j : Nat) ∧ (∀ (k : Nat) (y : Ob), k < j → L[k]? = some y → y.lab = false) ∧ Below w1.heap.size w1 wr) (fun i _ => n - (intOf i).toNat)
    case atStart => exact ⟨0, by omega, rfl, fun k y h => by omega, Below.refl _ _⟩
    case round =>
      obtain ⟨j, hj, rfl, hbf, hBe⟩ := hrel
      have HBF := Lib.hid hbf
      have HBE := Lib.hid hBe
      clear hbf hBe
      by_cases hlt : j < n
      · obtain ⟨x, hx⟩ : ∃ x, L[j]? = some x := ⟨_, List.getElem?_eq_getElem (by rw [HNN.out]; omega)⟩
        obtain ⟨b, o, rfl, hbb, a0, a1, a2⟩ := ob_row (HR.out.below HBE.out) j x hx
        have hbw : b < wr.heap.size := Nat.lt_of_lt_of_le hbb HBE.out.size
        have hxm := HMO.out x (List.mem_of_getElem? hx)
        have hxm2 := hxm.2
        have HXM := Lib.hid hxm.1
        have HX := Lib.hid hx
        have hji : (j : Int) < (n : Int) := by omega
        obtain ⟨cl, kd, bd⟩ := x
        dsimp only at a0 a1 a2 hxm2
        clear hx hxm
        by_cases h1 : cl = 1
        · subst h1
          have g1 : ((1 : Int) != 1) = false := by decide
          by_cases h2 : kd = 1
          · subst h2
            have HF := Lib.hid (find_first L j ⟨1, 1, bd⟩ HX.out rfl HBF.out)
            by_cases h64 : 64 < bd.length
            · have h64i : (64 : Int) < (bd.length : Int) := by omega
              go_wp2_with fail
              go_ret2
              refine ⟨none, 0, ?_, ?_, bthen HB.out HBE.out⟩
              · rw [HT.out, HF.out]; simp only [if_pos h64]; rfl
              · rw [HT.out, HF.out]; simp only [if_pos h64]; exact Own.nil _ _ _ _ _
            · have h64i : ¬ (64 : Int) < (bd.length : Int) := by omega
              obtain ⟨g, hg⟩ : ∃ g, wr.heap.size = g := ⟨_, rfl⟩
              have HGG := Lib.hid hg
              have hwr : w1.heap.size ≤ g := by rw [← hg]; exact HBE.out.size
              rw [hg] at hbw
              obtain ⟨w5, hw5⟩ : ∃ q, q = wr := ⟨_, rfl⟩
              subst hw5
              clear hg
              go_wp2_with fail
              go_loopw [7, 8] (fun v k ws => ∃ (q : Nat) (A2 : Option Addr) (c2 : Nat), 4 * q ≤ bd.length ∧ k = .int .i64 ((4 * q : Nat) : Int) ∧ v = .slice A2 q c2 ∧ Own ws g 49 4 A2 q c2 (evs (outs bd q)) ∧ Below g w5 ws) (fun _ k _ => bd.length - (intOf k).toNat)
              case atStart => exact ⟨0, none, 0, by omega, rfl, rfl, Own.nil _ _ _ _ _, Below.refl _ _⟩
              case round =>
                obtain ⟨q, A2, c2, hq, rfl, rfl, hown2, hb2⟩ := hrel
                have HO2 := Lib.hid hown2
                have HB2 := Lib.hid hb2
                have c0 := (hb2.cell (p := ⟨b, o + j * 3, none⟩) hbw).trans a0
                have c1' := (hb2.cell (p := ⟨b, o + j * 3 + 1, none⟩) hbw).trans a1
                have c2' := (hb2.cell (p := ⟨b, o + j * 3 + 2, none⟩) hbw).trans a2
                have hgs : g ≤ wr.heap.size := by have := hb2.size; have := HGG.out; omega
                clear hown2 hb2
                by_cases hql : 4 * q < bd.length
                · have hqi : (((4 * q : Nat) : Int)) < (bd.length : Int) := by omega
                  have hqi2 : ((4 * q : Nat) : Int) ≤ (bd.length : Int) := by omega
                  have hxm1 := HXM.out
                  try dsimp only at hxm1
                  have hq4 : 4 * q + 4 ≤ bd.length := by omega
                  obtain ⟨K, hK⟩ : ∃ K, 4 * q = K := ⟨_, rfl⟩
                  have UP := runpack_any (bd.drop (4 * q))
                  have HN : Hid (unpN (bd.drop (4 * q)) = 0) := Lib.hid (by unfold unpN; rw [if_neg (by rw [List.length_drop]; omega)])
                  obtain ⟨E, hEE⟩ : ∃ E, entAt bd q = E := ⟨_, rfl⟩
                  rw [HN.out, show unpE (bd.drop (4 * q)) = E from hEE] at UP
                  have HEE := Lib.hid hEE
                  have HSD := Lib.hid (str_drop bd (4 * q))
                  rw [hK] at HSD UP hqi hqi2 ⊢
                  obtain ⟨lb, cl, bt, tt⟩ := E
                  dsimp only at UP
                  have HUP := Lib.hid UP
                  have HK := Lib.hid hK
                  clear UP hEE hxm1 hK
                  go_wp2_with fail
                  rw [HSD.out]
                  refine (HUP.out _ (by rw [List.length_drop]; omega)).mono ?_
                  rintro e w6 ⟨rfl, hb6⟩
                  have ho6 := HO2.out.below hb6
                  have HO6 := Lib.hid ho6
                  have HB6 := Lib.hid (HB2.out.trans (hb6.mono hgs))
                  have hg6 : g ≤ w6.heap.size := Nat.le_trans hgs hb6.size
                  clear c0 c1' c2' ho6 hb6
                  go_wp2_with (at_builtin; refine wpList_append_Own _ rfl _ _ 23 rfl g 49 _ 4 16 Tryd.underlying23 infoEntry rfl (by decide) A2 q c2 _ rfl ((HO6.out.alloc _).alloc _) _ _ 1 1 (Ent.cells ⟨lb, cl, bt, tt⟩) rfl (by have h9 := row_newE (w6.alloc (.cells #[.int .i64 lb, .int .u8 cl, .bool bt, .int .u8 tt] 49)) ⟨lb, cl, bt, tt⟩; rw [World.size_alloc] at h9; exact h9) (by simp [Ent.cells, Value.oneCell']) (by simp only [maxLen]; omega) (by omega) (by simp; omega) ?_; intro A5 c5 w7 hown7 hg7 _)
                  go_roundw
                  case rel =>
                    refine ⟨q + 1, A5, c5, by omega, by rw [← HK.out]; congr 1, rfl, ?_, ?_⟩
                    · rw [outs_succ, evs_append, HEE.out, show evs [(⟨lb, cl, bt, tt⟩ : Ent)] = Ent.cells ⟨lb, cl, bt, tt⟩ by simp [evs]]
                      exact hown7
                    · exact bgrown' (((HB6.out).alloc hg6 _).alloc (by simp; omega) _) hg7 (by simp; omega) (fun r hr => (HO6.out.lt r hr).1)
                  case measure =>
                    have := HK.out
                    simp [intOf]
                    omega
                · have hqi : ¬ (((4 * q : Nat) : Int)) < (bd.length : Int) := by omega
                  have hqe : bd.length / 4 = q := by omega
                  have HQE := Lib.hid hqe
                  clear hqe
                  go_wp2_with fail
                  go_ret2
                  refine ⟨A2, c2, ?_, ?_, bthen HB.out (HBE.out.trans ((HB2.out.mono hwr)))⟩
                  · rw [HT.out, HF.out]; simp only [if_neg h64, HQE.out, outs_length]; rfl
                  · rw [HT.out, HF.out]; simp only [if_neg h64, HQE.out, outs_length]; exact HO2.out.mono (by have := HB.out.size; omega)
          · have g2 : (kd != 1) = true := by simpa using h2
            go_wp2_with fail
            go_roundw
            case rel => exact ⟨j + 1, by omega, by simp, fun k y hk hy => by
              rcases Nat.lt_or_ge k j with h | h
              · exact HBF.out k y h hy
              · obtain rfl : k = j := by omega
                rw [HX.out] at hy
                injection hy with hy
                subst hy
                simp [Ob.lab, h2], HBE.out⟩
            case measure => simp [intOf]; omega
        · have g1 : (cl != 1) = true := by simpa using h1
          go_wp2_with fail
          go_roundw
          case rel => exact ⟨j + 1, by omega, by simp, fun k y hk hy => by
            rcases Nat.lt_or_ge k j with h | h
            · exact HBF.out k y h hy
            · obtain rfl : k = j := by omega
              rw [HX.out] at hy
              injection hy with hy
              subst hy
              simp [Ob.lab, h1], HBE.out⟩
          case measure => simp [intOf]; omega
      · have hji : ¬ (j : Int) < (n : Int) := by omega
        obtain rfl : j = n := by omega
        have HF := Lib.hid (find_none L (fun k y hk hy => HBF.out k y (by rw [← HNN.out]; exact hk) hy))
        go_wp2_with fail
        go_ret2
        refine ⟨none, 0, ?_, ?_, bthen HB.out HBE.out⟩
        · rw [HT.out, HF.out]; rfl
        · rw [HT.out, HF.out]; exact Own.nil _ _ _ _ _
  · have HT : Hid (toldG zs = ([], (getG zs).2)) := Lib.hid (by unfold toldG; rw [if_pos h0])
    obtain ⟨q, hq⟩ : ∃ q, (getG zs).2 = q := ⟨_, rfl⟩
    rw [hq] at HG HT h0
    have hb' : (q != 0) = true := by simpa using h0
    clear hq h0
    go_enter Tryd.func35, Tryd.ntmps35
    go_wp2_with fail
    refine HG.out.mono ?_
    rintro e w1 ⟨A1, c1, rfl, _, hb⟩
    have HB := Lib.hid hb
    clear hb
    go_wp2_with fail
    go_ret2
    exact ⟨none, 0, by rw [HT.out]; rfl, by rw [HT.out]; exact Own.nil _ _ _ _ _, HB.out⟩
end Go.Proofs.YtckbleiikldloaaDoor


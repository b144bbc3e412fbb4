/- What ext.Told (layer 22) computes. No condition but sizes. -/
import Derived.Test.YtbabkcdhihmomaaX22h
namespace Go.Proofs.Ytbabkcdhihmomaa
open Go.RowKit Go.Shelf
set_option linter.unusedVariables false
set_option maxRecDepth 20000
set_option linter.unusedSimpArgs false

attribute [local go_sem] Oper.semAt_some

def entAt (l : List UInt8) (k : Nat) : Ent := unpE (l.drop (4 * k))
def outs (l : List UInt8) (k : Nat) : List Ent := (List.range k).map (entAt l)
theorem outs_succ (l : List UInt8) (k : Nat) : outs l (k + 1) = outs l k ++ [entAt l k] := by simp [outs, List.range_succ]
theorem outs_length (l : List UInt8) (k : Nat) : (outs l k).length = k := by simp [outs]
def toldG (zs : List UInt8) : List Ent × Int := if (getG zs).2 ≠ 0 then ([], (getG zs).2) else match (getG zs).1.find? Ob.lab with | none => ([], 31) | some x => if 64 < x.body.length then ([], 51) else (outs x.body (x.body.length / 4), 0)
theorem unpE_take (l : List UInt8) (h : 4 ≤ l.length) : unpE (l.take 4) = unpE l ∧ unpN (l.take 4) = 0 := by
  have h1 : (l.take 4).length = 4 := by rw [List.length_take]; omega
  unfold unpE unpN
  rw [if_neg (by omega), if_neg (by omega), if_neg (by omega), List.take_take]
  exact ⟨rfl, rfl⟩
theorem goG_mod : ∀ (f : Nat) (acc : List Ob) (zs : List UInt8), (∀ x ∈ acc, x.body.length % 4 = 0 ∧ x.body.length ≤ 65536) → ∀ x ∈ (goG f acc zs).1, x.body.length % 4 = 0 ∧ x.body.length ≤ 65536 := by
  intro f
  induction f with
  | zero => exact fun acc zs h => h
  | succ f ih =>
    intro acc zs h
    unfold goG
    split
    · exact h
    · split
      · simp
      · split
        · simp
        · rename_i h0 h4 hb
          refine ih _ _ fun x hx => ?_
          rcases List.mem_append.1 hx with hx | hx
          · exact h x hx
          · obtain rfl := List.mem_singleton.1 hx
            have hk := be_bd (zs.take 2) 2 (by rw [List.length_take]; omega)
            unfold badG at hb
            simp at hb
            unfold obG
            simp only [List.length_drop, List.length_take]
            omega
theorem getG_mod (zs : List UInt8) : ∀ x ∈ (getG zs).1, x.body.length % 4 = 0 ∧ x.body.length ≤ 65536 := by
  unfold getG
  split
  · simp
  · split
    · simp
    · split
      · simp
      · exact goG_mod _ _ _ (by simp)
theorem goG_len : ∀ (f : Nat) (acc : List Ob) (zs : List UInt8), (goG f acc zs).1.length ≤ acc.length + zs.length := by
  intro f
  induction f with
  | zero => intro acc zs; simp [goG]
  | succ f ih =>
    intro acc zs
    unfold goG
    split
    · simp
    · split
      · simp
      · split
        · simp
        · rename_i h0 h4 hb
          refine Nat.le_trans (ih _ _) ?_
          unfold badG at hb
          simp at hb
          simp only [List.length_append, List.length_drop, List.length_cons, List.length_nil]
          omega
theorem getG_len (zs : List UInt8) : (getG zs).1.length ≤ zs.length := by
  unfold getG
  split
  · simp
  · split
    · simp
    · split
      · simp
      · refine Nat.le_trans (goG_len _ _ _) ?_
        simp
theorem find_lab (l : List Xo) : (∃ (m : Nat) (x : Xo), l[m]? = some x ∧ x.ob.lab = true ∧ (∀ (k : Nat) (y : Xo), k < m → l[k]? = some y → y.ob.lab = false) ∧ (l.map Xo.ob).find? Ob.lab = some x.ob) ∨ ((∀ (k : Nat) (y : Xo), l[k]? = some y → y.ob.lab = false) ∧ (l.map Xo.ob).find? Ob.lab = none) := by
  induction l with
  | nil => exact .inr ⟨by simp, rfl⟩
  | cons a l ih =>
    by_cases ha : a.ob.lab = true
    · exact .inl ⟨0, a, rfl, ha, (fun k y h => by omega), by simp [ha]⟩
    · have ha' : a.ob.lab = false := by simpa using ha
      rcases ih with ⟨m, x, h1, h2, h3, h4⟩ | ⟨h1, h2⟩
      · refine .inl ⟨m + 1, x, by simpa using h1, h2, fun k y hk hy => ?_, by simp [ha', h4]⟩
        cases k with
        | zero => simp at hy; subst hy; exact ha'
        | succ k => exact h3 k y (by omega) (by simpa using hy)
      · refine .inr ⟨fun k y hy => ?_, by simp [ha', h2]⟩
        cases k with
        | zero => simp at hy; subst hy; exact ha'
        | succ k => exact h1 k y (by simpa using hy)

structure TlI (w : World) (zs : List UInt8) (pre : List Tc) (W : World) : Prop where
  out : ∃ A c, Boxed W w.heap.size 23 (.slice A pre.length c) ∧ Own W w.heap.size 54 4 A pre.length c (evs (outs zs pre.length))
  bx : ∃ v, Boxed W (w.heap.size + 1) 26 v
  bx2 : ∃ v, Boxed W (w.heap.size + 1 + 1) 3 v
  bel : Below w.heap.size w W
theorem TlI.turn {w : World} {zs : List UInt8} {pre : List Tc} {W W' : World} {row : Option Nat} (h : TlI w zs pre W) (hg : W.grownBy W' row) (hr : ∀ r, row = some r → w.heap.size ≤ r ∧ ∀ cs t, W.heap[r]? = some (.cells cs t (0, 0)) → False) : TlI w zs pre W' := by
  have hb : ∀ {B : Nat} {t : TypeId} {v : Value}, Boxed W B t v → Boxed W' B t v := fun hb => hb.kept hg (fun e => (hr _ e.symm).2 _ _ hb)
  obtain ⟨A, c, ho, hown⟩ := h.out
  obtain ⟨v, hv⟩ := h.bx
  obtain ⟨v2, hv2⟩ := h.bx2
  exact ⟨⟨A, c, hb ho, own_turn hown hg (fun r e => (hr r e).2)⟩, ⟨v, hb hv⟩, ⟨v2, hb hv2⟩, h.bel.grown hg h.bel.size (fun k e => (hr k e).1)⟩
theorem TlI.ownFrom (w : World) (zs : List UInt8) (B : Nat) (hB : w.heap.size ≤ B) : OwnFrom B (TlI w zs) := fun s X Y row hs hg hr =>
  hs.turn hg (fun r e => by
    obtain ⟨h1, o, ho, hc⟩ := hr r e
    refine ⟨by omega, fun cs t h2 => ?_⟩
    rw [ho] at h2
    cases h2
    cases hc)
theorem TlI.below {w : World} {zs : List UInt8} {pre : List Tc} {W W' : World} (h : TlI w zs pre W) (hb : Below W.heap.size W W') : TlI w zs pre W' := by
  have hk : ∀ {B : Nat} {t : TypeId} {v : Value}, Boxed W B t v → Boxed W' B t v := fun hx => (hb.block _ hx.lt).trans hx
  obtain ⟨A, c, ho, hown⟩ := h.out
  obtain ⟨v, hv⟩ := h.bx
  obtain ⟨v2, hv2⟩ := h.bx2
  exact ⟨⟨A, c, hk ho, hown.below hb⟩, ⟨v, hk hv⟩, ⟨v2, hk hv2⟩, h.bel.trans (hb.mono h.bel.size)⟩
theorem TlI.lets (w : World) (zs : List UInt8) : Lets (w.heap.size + 1) (TlI w zs) where
  below s W W' h hb := h.below hb
  set s W u h := by
    obtain ⟨A, c, ho, hown⟩ := h.out
    obtain ⟨v, hv⟩ := h.bx
    obtain ⟨v2, hv2⟩ := h.bx2
    exact ⟨⟨A, c, ho.other (by omega) u, own_box' hown hv (by decide) u⟩, ⟨u, hv.set u⟩, ⟨v2, hv2.other (by omega) u⟩, h.bel.setCell (p := ⟨_, 0, none⟩) (by simp only; omega) u⟩
theorem TlI.pushed {w : World} {zs : List UInt8} {pre : List Tc} {W w3 : World} (h : TlI w zs pre W) (x : Tc) (o : Obj) {Ao A3 : Option Addr} {co c3 B : Nat} (ho : Boxed W w.heap.size 23 (.slice Ao pre.length co))
    (hown : Own W w.heap.size 54 4 Ao pre.length co (evs (outs zs pre.length))) (hown3 : Own w3 w.heap.size 54 4 A3 (pre.length + 1) c3 (evs (outs zs pre.length) ++ (entAt zs pre.length).cells)) (hg : (W.alloc o).grownBy w3 (blk Ao co)) (hB : w.heap.size < B) :
    KeepsFrom B W (w3.setCell ⟨w.heap.size, 0, none⟩ (.slice A3 (pre.length + 1) c3)) ∧ Keeps2 w.heap.size (w.heap.size + 1) W (w3.setCell ⟨w.heap.size, 0, none⟩ (.slice A3 (pre.length + 1) c3)) ∧
      TlI w zs (pre ++ [x]) (w3.setCell ⟨w.heap.size, 0, none⟩ (.slice A3 (pre.length + 1) c3)) := by
  have hob : ∀ (B : Nat) (t : TypeId) (v : Value), Boxed (W.alloc o) B t v → t ≠ 54 → Boxed w3 B t v := fun B t v hb ht => hb.kept hg (not_blk (hown.alloc o) hb ht)
  have b5 := hob _ _ _ (ho.alloc o) (by decide)
  obtain ⟨v, hv⟩ := h.bx
  have bx := hob _ _ _ (hv.alloc o) (by decide)
  obtain ⟨v2, hvb⟩ := h.bx2
  have bx2 := hob _ _ _ (hvb.alloc o) (by decide)
  have hbl : ∀ k, blk Ao co = some k → w.heap.size ≤ k := fun k hk => (hown.lt k hk).1
  have hs := h.bel.size
  have hW : Below w.heap.size W (w3.setCell ⟨w.heap.size, 0, none⟩ (.slice A3 (pre.length + 1) c3)) :=
    (((Below.refl w.heap.size W).alloc hs o).grown hg (by simp; omega) hbl).setCell (p := ⟨w.heap.size, 0, none⟩) (by simp only; omega) _
  have hl : (pre ++ [x]).length = pre.length + 1 := by simp
  refine ⟨((KeepsFrom.of_grownBy (World.grownBy_alloc W o none) (by simp)).trans (own_keepsFrom B (hown.alloc o) hg)).trans (KeepsFrom.of_grownBy (grownBy_setCell' _ _ _) (by rintro j ⟨⟩; exact hB)), ⟨hW, (show _ = _ from (bx.other (by omega) _).trans hv.symm), (show _ = _ from (bx2.other (by omega) _).trans hvb.symm)⟩,
    ⟨A3, c3, by rw [hl]; exact b5.set _, ?_⟩, ⟨v, bx.other (by omega) _⟩, ⟨v2, bx2.other (by omega) _⟩, h.bel.trans hW⟩
  rw [hl, outs_succ, evs_append, show evs [entAt zs pre.length] = (entAt zs pre.length).cells by simp [evs]]
  exact own_box' hown3 b5 (by decide) _

set_option maxHeartbeats 1000000 in
theorem told22_bad (A : Option Addr) (len cap : Nat) (zs : List UInt8) (w : World) (hr : Row w w.heap.size 1 A len (bv zs)) (hlc : len ≤ cap) (hcm : cap ≤ maxLen) (hmax : len ≤ 1000000000) (hbad : (getG zs).2 ≠ 0) :
    Calls Try.prog 16 #[.slice A len cap] w fun e w' => e = .returned (.tuple #[.slice none 0 0, .int .i64 (getG zs).2]) ∧ Below w.heap.size w w' := by
  have HG := Lib.hid (get22_any A len cap zs w hr hlc hcm hmax)
  obtain ⟨q, hq⟩ : ∃ q, (getG zs).2 = q := ⟨_, rfl⟩
  rw [hq] at HG hbad ⊢
  have hb' : (q != 0) = true := by simpa using hbad
  have hb2 : (q == 0) = false := by simpa using hbad
  clear hr hq hbad
  go_enter Try.func16, Try.ntmps16
  go_wp2_with fail
  refine HG.out.mono ?_
  rintro e w1 ⟨l, A', c', rfl, _, _, _, hb⟩
  have HB := Lib.hid hb
  clear hb
  go_wp2_with fail
  go_ret2
  exact ⟨rfl, HB.out⟩

set_option maxHeartbeats 1000000 in
theorem told22_none (A : Option Addr) (len cap : Nat) (zs : List UInt8) (w : World) (hr : Row w w.heap.size 1 A len (bv zs)) (hlc : len ≤ cap) (hcm : cap ≤ maxLen) (hmax : len ≤ 1000000000) (hok : (getG zs).2 = 0) (hno : (getG zs).1.find? Ob.lab = none) :
    Calls Try.prog 16 #[.slice A len cap] w fun e w' => e = .returned (.tuple #[.slice none 0 0, .int .i64 31]) ∧ Below w.heap.size w w' := by
  have hz : zs.length = len := by have := hr.1; rw [bv_length] at this; omega
  have HG := Lib.hid (get22_any A len cap zs w hr hlc hcm hmax)
  rw [hok] at HG
  have HN := Lib.hid hno
  have HZ := Lib.hid hz
  clear hr hok hno hz
  go_enter Try.func16, Try.ntmps16
  go_wp2_with fail
  refine HG.out.mono ?_
  rintro e w1 ⟨l, A', c', rfl, hl, hown, hx, hb⟩
  have hno : ∀ (k : Nat) (x : Xo), k < l.length → l[k]? = some x → x.ob.lab = false := fun k x _ h => by
    rcases find_lab l with ⟨m, y, h1, h2, h3, h4⟩ | ⟨h1, h2⟩
    · rw [hl, HN.out] at h4; cases h4
    · exact h1 k x h
  have HB := Lib.hid hb
  have HI := Lib.hid (fun (h : l.length ≤ 1000000000) => index_no A' l.length c' l w1 hown.row h hno)
  have hln : l.length ≤ 1000000000 := by
    have h1 := getG_len zs
    rw [← hl, List.length_map, HZ.out] at h1
    omega
  clear hb hx hl hown hno
  go_wp2_with fail
  refine (HI.out hln).mono ?_
  rintro e w2 ⟨rfl, hb2⟩
  have HB2 := Lib.hid hb2
  clear hb2
  go_wp2_with fail
  go_ret2
  exact ⟨rfl, bthen HB.out HB2.out⟩

theorem row_newE (W : World) (x : Ent) : Row (W.alloc (.cells #[.int .i64 x.label, .int .u8 x.cls, .bool x.bot, .int .u8 x.ttl] 54)) (W.heap.size + 1) 4 (some ⟨W.heap.size, 0, none⟩) 1 x.cells :=
  Row.new (n := 1) (sz := 4) W _ rfl
set_option maxRecDepth 100000 in
set_option maxHeartbeats 4000000 in
theorem told22_in (A : Option Addr) (len cap : Nat) (zs : List UInt8) (w : World) (hr : Row w w.heap.size 1 A len (bv zs)) (hlc : len ≤ cap) (hcm : cap ≤ maxLen) (hmax : len ≤ 1000000000) (hok : (getG zs).2 = 0) (ob : Ob) (hno : (getG zs).1.find? Ob.lab = some ob) :
    CallsIn Fence.wide 3 Try.prog 16 #[.slice A len cap] w fun e w' => ∃ (A' : Option Addr) (c' : Nat), e = .returned (.tuple #[.slice A' (toldG zs).1.length c', .int .i64 (toldG zs).2]) ∧ Own w' w.heap.size 54 4 A' (toldG zs).1.length c' (evs (toldG zs).1) ∧ Below w.heap.size w w' := by
  have hz : zs.length = len := by have := hr.1; rw [bv_length] at this; omega
  have HT : Hid (toldG zs = if 64 < ob.body.length then ([], 51) else (outs ob.body (ob.body.length / 4), 0)) := Lib.hid (by unfold toldG; rw [if_neg (fun h => h hok), hno])
  have hmd := getG_mod zs ob (List.mem_of_find?_eq_some hno)
  have HMD := Lib.hid hmd
  have HG := Lib.hid (get22_any A len cap zs w hr hlc hcm hmax)
  rw [hok] at HG
  have HN := Lib.hid hno
  have HZ := Lib.hid hz
  clear hr hok hno hz hmd
  refine callsIn_of_wp_marks Try.func16 rfl trivial ?_ rfl
  simp only [Try.ntmps16, List.size_toArray, List.length_cons, List.length_nil, Nat.reduceAdd, Nat.reduceSub, Array.replicate_succ, Array.replicate_zero, List.push_toArray, List.append_toArray, List.nil_append, List.cons_append]
  gi_wp2_with fail
  refine ⟨trivial, (callsIn_wide.2 HG.out).mono ?_⟩
  rintro e w1 ⟨l, A', c', rfl, hl, hown, hxo, hb⟩
  have hln : l.length ≤ 1000000000 := by
    have h1 := getG_len zs
    rw [← hl, List.length_map, HZ.out] at h1
    omega
  obtain ⟨m, x, hm, hy, hbef, hfd⟩ : ∃ (m : Nat) (x : Xo), l[m]? = some x ∧ x.ob.lab = true ∧ (∀ (k : Nat) (y : Xo), k < m → l[k]? = some y → y.ob.lab = false) ∧ (l.map Xo.ob).find? Ob.lab = some x.ob := by
    rcases find_lab l with h | ⟨h1, h2⟩
    · exact h
    · rw [hl, HN.out] at h2
      cases h2
  have hobx : ob = x.ob := by
    rw [hl, HN.out] at hfd
    injection hfd
  have hml : m < l.length := (List.getElem?_eq_some_iff.1 hm).1
  have HI := Lib.hid (index_yes A' l.length c' l w1 hown.row hln m x hm hy hbef)
  have HXO := Lib.hid (hxo x (List.mem_of_getElem? hm))
  have HB := Lib.hid hb
  have HOW := Lib.hid hown.row
  have HM := Lib.hid hm
  subst hobx
  clear hb hxo hl hown hbef hy hm hfd
  gi_wp2_with fail
  refine ⟨trivial, (callsIn_wide.2 HI.out).mono ?_⟩
  rintro e w2 ⟨rfl, hb2⟩
  obtain ⟨b, o, hA, hbb, a0, a1, a2⟩ := xo_row (HOW.out.below hb2) m x HM.out
  subst hA
  have HB2 := Lib.hid hb2
  have hm0 : ¬ (m : Int) < 0 := by omega
  have hmi : (m : Int) < (l.length : Int) := by omega
  have HXW := Lib.hid (show Own w2 w.heap.size 5 1 x.A x.n x.c (bv x.body) from HXO.out.own.below hb2)
  have hbw : b < w2.heap.size := Nat.lt_of_lt_of_le hbb hb2.size
  clear hb2 hbb
  gi_wp2_with (refine ⟨trivial, ?_⟩; gi_at_call 33; refine (callsIn_wide.2 (chunk_any x.A x.n x.c _)).mono ?_; rintro e w' ⟨rfl, rfl⟩)
  have hxn : x.n ≤ x.c := HXW.out.le
  have hxc : x.c ≤ maxLen := HXW.out.cap
  have hxl : x.body.length = x.n := by have := HXW.out.len; rw [bv_length] at this; omega
  have hxm : x.n % 4 = 0 ∧ x.n ≤ 65536 := by
    have := HMD.out
    rw [← hxl]
    exact this
  have HXL := Lib.hid hxl
  have b4 := Boxed.new w2 23 (.slice none 0 0)
  have b5 := Boxed.new (w2.alloc (.cells #[.slice none 0 0] 23)) 26 (.slice x.A x.n x.c)
  have b6 := Boxed.new ((w2.alloc (.cells #[.slice none 0 0] 23)).alloc (.cells #[.slice x.A x.n x.c] 26)) 3 (.int .i64 4)
  simp only [World.size_alloc] at b5 b6
  have hI0 : TlI w2 x.body [] (((w2.alloc (.cells #[.slice none 0 0] 23)).alloc (.cells #[.slice x.A x.n x.c] 26)).alloc (.cells #[.int .i64 4] 3)) :=
    ⟨⟨none, 0, (b4.alloc _).alloc _, Own.nil _ _ _ _ _⟩, ⟨_, b5.alloc _⟩, ⟨_, b6⟩, (((Below.refl _ w2).alloc (Nat.le_refl _) _).alloc (by simp) _).alloc (by simp; omega) _⟩
  have hr0 := HXW.out.row.below hI0.bel
  have hx5 := b5.alloc (.cells #[.int .i64 4] 3)
  have hxm1 := hxm.1
  have hxm2 := hxm.2
  have HM1 := Lib.hid hxm1
  clear b4 b5 hxl a0 a1 a2 hxm
  refine rangeD (Bx := w2.heap.size + 1) (Kp := Keeps2 w2.heap.size (w2.heap.size + 1)) (ok := fun _ => True) rfl (by omega) (gf := 43) (lb := #[.pointer (some ⟨w2.heap.size + 1, 0, none⟩), .pointer (some ⟨w2.heap.size + 1 + 1, 0, none⟩)]) rfl trivial (enters_of Try.func43 (by kernel_rfl) rfl)
    (chunk1_ends (w2.heap.size + 1) w2.heap.size x.A x.n x.c x.body (by omega) hxn hxc hxm1 (3 - 1) (by omega) _ (by simp) hx5 b6 (by omega) hr0) (by simp) Keeps2.trans (keeps2_b (by simp; omega) (by simp)) (Below.refl _ _) (fun _ => rfl)
    (fun pre W => TlI w2 x.body pre W) (fun _ _ _ => False) ?hI (fun c => ownFrom_pure _ _) (TlI.lets w2 x.body) (fun _ _ _ _ _ => trivial) hI0
    (fun pre y a' W => w2.heap.size ≤ W.heap.size ∧ Row W w2.heap.size 1 y.1 4 (bv y.2) ∧ y.2 = (x.body.drop (4 * pre.length)).take 4 ∧ 4 * pre.length + 4 ≤ x.n ∧
      a' = { tmps := #[.slice A len cap, undef, .slice none 0 0, .int .i64 0, .slice (some ⟨b, o, none⟩) l.length c', .int .i64 0, .int .i64 (m : Int), .pointer (some ⟨w2.heap.size, 0, none⟩), .slice y.1 4 4, undef, undef, .tuple #[.slice (some ⟨b, o, none⟩) l.length c', .int .i64 0], .slice A len cap, .tuple #[.slice (some ⟨b, o, none⟩) l.length c', .int .i64 0], .slice (some ⟨b, o, none⟩) l.length c', .int .i64 0, .int .i64 0, .bool false, undef, .slice (some ⟨b, o, none⟩) l.length c', .int .i64 (m : Int), .int .i64 (m : Int), .bool (decide ((m : Int) < 0)), .slice (some ⟨b, o, none⟩) l.length c', .int .i64 (m : Int), .pointer (some ⟨b, o + m * 3, none⟩), .pointer (some ⟨b, o + m * 3 + 2, none⟩), .slice x.A x.n x.c, .func (.func 43) #[] #[.pointer (some ⟨w2.heap.size + 1, 0, none⟩), .pointer (some ⟨w2.heap.size + 1 + 1, 0, none⟩)], .slice y.1 4 4, undef, undef, undef, undef, undef, undef, undef, undef, undef, undef, undef, undef, undef], defers := [] }) ?hA ?assign ?body ?done ?stop
  case hI => exact TlI.ownFrom w2 x.body _ (by simp; omega)
  case hA =>
    rintro pre y a' _ X Y row ⟨h0, h1, h2, h3, h4⟩ hg hr
    exact ⟨Nat.le_trans h0 hg.size, h1.below ((Below.refl _ X).grown hg h0 (fun k e => by have := (hr k e).1; simp at this; omega)), h2, h3, h4⟩
  case assign =>
    intro l' pre y W K hI hy hK
    have HK := Lib.hid hK
    clear hK hI0 hr0 hx5 b6
    obtain ⟨hy0, hy1, hy2⟩ := hy
    have HY1 := Lib.hid hy1
    clear hy1
    dsimp only [tellsC]
    gi_wp2
    exact HK.out _ _ (KeepsFrom.of_grownBy (grown_refl W none) (by simp)) ⟨Below.refl _ _, rfl, rfl⟩ hI ⟨hI.bel.size, hy2, HY1.out, hy0, rfl⟩
  case body =>
    intro l' pre y a' W hl hrec hI hAx
    obtain ⟨hws, hrow, hy2, hpl, rfl⟩ := hAx
    have hE := unpE_take (x.body.drop (4 * pre.length)) (by rw [List.length_drop, HXL.out]; omega)
    have UP := unpack_any y.1 4 4 y.2 W (hrow.more hws) (by omega) (by simp only [maxLen]; omega) (by omega)
    rw [hy2, hE.1, hE.2] at UP
    obtain ⟨E, hEE⟩ : ∃ E, entAt x.body pre.length = E := ⟨_, rfl⟩
    rw [show unpE (x.body.drop (4 * pre.length)) = E from hEE] at UP
    have HEE := Lib.hid hEE
    obtain ⟨lb, cl, bt, tt⟩ := E
    dsimp only at UP
    have HUP := Lib.hid UP
    have HI := Lib.hid hI
    have hs2 : w2.heap.size ≤ W.heap.size := hws
    clear hI0 hr0 hx5 b6 UP hE hEE hy2 hrow hI
    gi_wp2_with (first
      | (refine ⟨trivial, ?_⟩; gi_at_call 34; refine (CallsIn.inRound l' (callsIn_wide.2 HUP.out)).mono ?_; rintro e W1 ⟨rfl, hb1⟩; obtain ⟨Ao, co, ho, hown⟩ := ((HI.out.below hb1).below (alloc_below W1 (.cells #[.int .i64 lb, .int .u8 cl, .bool bt, .int .u8 tt] 54))).out; have HOO := Lib.hid hown; have HBB := Lib.hid ho; have c7 := ho.cell; have f7 := ho.frozen; have hlt1 : w2.heap.size < W1.heap.size := (HI.out.below hb1).out.elim (fun _ h => h.elim (fun _ h => h.1.lt)); clear hown ho)
      | (gi_at_builtin; refine wpListIn_append_Own rfl _ _ 23 rfl w2.heap.size 54 _ 4 16 Try.underlying23 infoEntry rfl (by decide) _ _ _ _ rfl (HOO.out.alloc _) _ _ 1 1 (Ent.cells ⟨lb, cl, bt, tt⟩) rfl (by have h9 := row_newE (W1.alloc (.cells #[.int .i64 lb, .int .u8 cl, .bool bt, .int .u8 tt] 54)) ⟨lb, cl, bt, tt⟩; rw [World.size_alloc] at h9; exact h9) (by simp [Ent.cells, Value.oneCell']) (by simp only [maxLen]; omega) (by omega) (by simp; omega) ?_; intro A3 c3 w3 hown3 hg3 _; have b5 := (HBB.out.alloc (.cells #[.int .i64 lb, .int .u8 cl, .bool bt, .int .u8 tt] 54)).kept hg3 (not_blk (HOO.out.alloc (.cells #[.int .i64 lb, .int .u8 cl, .bool bt, .int .u8 tt] 54)) (HBB.out.alloc (.cells #[.int .i64 lb, .int .u8 cl, .bool bt, .int .u8 tt] 54)) (by decide)); have c5' := b5.cell; have f5' := b5.frozen))
    obtain ⟨k1, k2, k3⟩ := ((HI.out.below hb1).below (alloc_below W1 (.cells #[.int .i64 lb, .int .u8 cl, .bool bt, .int .u8 tt] 54))).pushed y _ HBB.out HOO.out (by rw [HEE.out]; exact hown3) hg3 (B := w2.heap.size + 1 + 1 + 1) (by omega)
    have hbb : Below W.heap.size W (W1.alloc (.cells #[.int .i64 lb, .int .u8 cl, .bool bt, .int .u8 tt] 54)) := bthen hb1 (alloc_below _ _)
    obtain ⟨v5, hv5⟩ := HI.out.bx
    obtain ⟨v6, hv6⟩ := HI.out.bx2
    exact ⟨by simpa using (KeepsFrom.of_grownBy (below_grow hbb none) (by simp)).trans k1, Keeps2.trans ⟨hbb.mono hs2, hbb.block _ hv5.lt, hbb.block _ hv6.lt⟩ k2, k3⟩
  case done =>
    intro D xs W hD hS hI hdef
    have hgD := grownBy_putObj' W D (.deferred none)
    have hD' : w2.heap.size ≤ D := by simp at hD; omega
    obtain ⟨A3, c3, ho, hown⟩ := hI.out
    have HOO := Lib.hid hown
    have HBL := Lib.hid hI.bel
    have hnc : ∀ r, some D = some r → ∀ cs t, W.heap[r]? = some (.cells cs t (0, 0)) → False := fun r e cs t hx => by
      cases e
      rw [hdef] at hx
      cases hx
    have hbel : Below w.heap.size w W := bthen (HB.out) (bthen HB2.out (hI.bel)) 
    have hb' := hbel.grown hgD hbel.size (fun k e => by cases e; have h1 := HB.out.size; have h2 := HB2.out.size; omega)
    have ho4 := (own_turn hown hgD hnc).mono (show w.heap.size ≤ w2.heap.size from Nat.le_trans HB.out.size HB2.out.size)
    have c7 := ho.cell
    have HT2 := Lib.hid (show x.ob.body.length = 4 * xs.length by show x.body.length = _; rw [HXL.out]; exact hS.symm)
    have HO4 := Lib.hid ho4
    have HB4 := Lib.hid hb'
    clear hI0 hr0 hx5 b6 hI ho hown hbel hS hnc ho4 hb' hgD
    by_cases h16 : 16 < xs.length
    · have h16i : (16 : Int) < (xs.length : Int) := by omega
      gi_wp2
      refine ⟨by simp, .inl ⟨_, _, rfl, run_takeDeferred hdef, ?_⟩⟩
      refine ⟨.tuple #[.slice none 0 0, .int .i64 51], by simp [results, Try.f16, go_sem], none, 0, ?_, ?_, HB4.out⟩
      · rw [HT.out, if_pos (by rw [HT2.out]; omega)]; rfl
      · rw [HT.out, if_pos (by rw [HT2.out]; omega)]; exact Own.nil _ _ _ _ _
    · have h16i : ¬ (16 : Int) < (xs.length : Int) := by omega
      gi_wp2
      refine ⟨by simp, .inl ⟨_, _, rfl, run_takeDeferred hdef, ?_⟩⟩
      refine ⟨.tuple #[.slice A3 xs.length c3, .int .i64 0], by simp [results, Try.f16, go_sem], A3, c3, ?_, ?_, HB4.out⟩
      · rw [HT.out, if_neg (by rw [HT2.out]; omega), HT2.out, show 4 * xs.length / 4 = xs.length by omega]
        simp [outs_length]
      · rw [HT.out, if_neg (by rw [HT2.out]; omega), HT2.out, show 4 * xs.length / 4 = xs.length by omega]
        simp only [outs_length]
        exact HO4.out
  case stop =>
    intro D c pre W hD hS hI hdef
    exact hI.elim

theorem told22_any (A : Option Addr) (len cap : Nat) (zs : List UInt8) (w : World) (hr : Row w w.heap.size 1 A len (bv zs)) (hlc : len ≤ cap) (hcm : cap ≤ maxLen) (hmax : len ≤ 1000000000) :
    Calls Try.prog 16 #[.slice A len cap] w fun e w' => ∃ (A' : Option Addr) (c' : Nat), e = .returned (.tuple #[.slice A' (toldG zs).1.length c', .int .i64 (toldG zs).2]) ∧ Own w' w.heap.size 54 4 A' (toldG zs).1.length c' (evs (toldG zs).1) ∧ Below w.heap.size w w' := by
  by_cases h0 : (getG zs).2 = 0
  · cases hf : (getG zs).1.find? Ob.lab with
    | none =>
      have hT : toldG zs = ([], 31) := by unfold toldG; rw [if_neg (fun h => h h0), hf]
      refine (told22_none A len cap zs w hr hlc hcm hmax h0 hf).mono ?_
      rintro e w' ⟨rfl, hb⟩
      exact ⟨none, 0, by rw [hT]; rfl, by rw [hT]; exact Own.nil _ _ _ _ _, hb⟩
    | some ob => exact callsIn_wide.1 (told22_in A len cap zs w hr hlc hcm hmax h0 ob hf)
  · have hT : toldG zs = ([], (getG zs).2) := by unfold toldG; rw [if_pos h0]
    refine (told22_bad A len cap zs w hr hlc hcm hmax h0).mono ?_
    rintro e w' ⟨rfl, hb⟩
    exact ⟨none, 0, by rw [hT]; rfl, by rw [hT]; exact Own.nil _ _ _ _ _, hb⟩
end Go.Proofs.Ytbabkcdhihmomaa

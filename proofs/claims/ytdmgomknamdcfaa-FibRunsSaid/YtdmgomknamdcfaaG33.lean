/- Texts of this claim put together, in build order: each one's own remark stands ahead of it. -/
import Derived.Test.YtdmgomknamdcfaaG02
import Derived.Test.YtdmgomknamdcfaaG28
import Derived.Test.YtdmgomknamdcfaaG32
import Derived.Deep.DeepCutAuto
/- What fib.New, All, Above, Below and Uses compute (layer 10). No condition but sizes. -/
namespace Go.Proofs.Ytdmgomknamdcfaa
open Go.RowKit
set_option linter.unusedVariables false
set_option maxRecDepth 20000
set_option linter.unusedSimpArgs false

theorem it_val (x : Itm) (hx : x.1.addr.length = 16) : (itC x)[18]? = some (.int .i64 x.2) := by
 unfold itC
 rw [List.getElem?_append_right (by rw [x.1.cells_length hx]; omega), x.1.cells_length hx]
 rfl
theorem it_blk_px {w : World} {g : Nat} {t : TypeId} {y : Itm} (h : Blk w g t (itC y)) (hy : y.1.addr.length = 16) : w.rangeAt g 0 y.1.cells := by
 have hr := h.range 0 18
 rw [List.drop_zero, show (itC y).take 18 = y.1.cells from List.take_left' (y.1.cells_length hy)] at hr
 exact hr
set_option maxHeartbeats 2000000 in
theorem fnew_any (room : Int) (w : World) :
  Calls Try.prog 7 #[.int .i64 room] w fun e w' => ∃ f, e = .returned (ptV f) ∧ (f = none ↔ (room < 1 ∨ 65536 < room)) ∧ FbO w' (ext (fun _ => False) w w') f f.isSome room (fun _ => []) 1 ∧ Below w.heap.size w w' := by
 go_enter Try.func7, Try.ntmps7
 go_wp2_with fail
 refine (tnew_O false room w).mono ?_
 rintro e w1 ⟨o4, rfl, hn4, hT4, hb1⟩
 have HN4 := Hh hn4
 have HT4 := Hh hT4
 have HB1 := Hh hb1
 clear hn4 hT4 hb1
 go_wp2_with fail
 refine (tnew_O true room w1).mono ?_
 rintro e w2 ⟨o6, rfl, hn6, hT6, hb2⟩
 have HN6 := Hh hn6
 have HT6 := Hh hT6
 have HB2 := Hh hb2
 clear hn6 hT6 hb2
 by_cases hr : room < 1 ∨ 65536 < room
 ·obtain rfl : o4 = none := HN4.out.2 hr
  obtain rfl : o6 = none := HN6.out.2 hr
  have HRM := Hh hr
  clear hr
  simp only [ptV]
  go_upto_region 2 with (refine wpList_box_blk (by rfl) 70 (.tmp 9) rfl [.pointer none, .pointer none] rfl ?_; intro w3 hb3 hB3 hs3)
  have c0 : w3.cell? ⟨w2.heap.size, 0, none⟩ = some (.pointer none) := hb3.cell 0
  have HB3 := Hh (bthen (bthen HB1.out HB2.out) hB3)
  clear hb3 hB3 hs3
  go_wp2_with fail
  go_ret
  exact ⟨none, rfl, ⟨fun _ => HRM.out, fun _ => rfl⟩, ⟨fun _ => none, fun _ _ => False, fun _ _ => rfl, (fun g h => by cases h), fun b => ⟨rfl, rfl⟩, fun k h => h.elim, fun b k h => h.elim⟩, HB3.out⟩
 obtain ⟨g4, rfl⟩ : ∃ g, o4 = some g := by
  cases o4 with
  | none => exact absurd (HN4.out.1 rfl) hr
  | some g => exact ⟨g, rfl⟩
 obtain ⟨g6, rfl⟩ : ∃ g, o6 = some g := by
  cases o6 with
  | none => exact absurd (HN6.out.1 rfl) hr
  | some g => exact ⟨g, rfl⟩
 have HRM := Hh hr
 clear hr
 simp only [ptV]
 go_upto_region 2 with (refine wpList_box_blk (by rfl) 70 (.tmp 9) rfl [.pointer (some ⟨g4, 0, none⟩), .pointer (some ⟨g6, 0, none⟩)] rfl ?_; intro w3 hb3 hB3 hs3)
 have c0 : w3.cell? ⟨w2.heap.size, 0, none⟩ = some (.pointer (some ⟨g4, 0, none⟩)) := hb3.cell 0
 have HB3 := Hh (bthen (bthen HB1.out HB2.out) hB3)
 have H3 := Hh hb3
 have HT4' := Hh (HT4.out.on (bthen HB2.out hB3))
 have HT6' := Hh (HT6.out.on hB3)
 have HS3 := Hh hs3
 clear hb3 hB3 hs3
 go_wp2_with fail
 go_ret
 have s1 := HB1.out.size
 have s2 := HB2.out.size
 have s3 := HS3.out
 refine ⟨some w2.heap.size, rfl, ⟨(fun e => by cases e), fun e => absurd e HRM.out⟩, ⟨fun b => if b then some g6 else some g4, fun b => if b then ext (fun _ => False) w1 w2 else ext (fun _ => False) w w1, (fun e => by cases e), fun g hg => ?_, fun b => ?_, fun k h1 h2 => ?_, fun b k h => ?_⟩, HB3.out⟩
 ·injection hg with hg
  subst hg
  refine ⟨H3.out, .inr ⟨by omega, by omega⟩, fun b hb => ?_⟩
  cases b
  ·rcases hb with hb | hb
   ·exact hb
   have := hb.2; omega
  rcases hb with hb | hb
  ·exact hb
  have := hb.2; omega
 ·cases b
  ·exact HT4'.out
  exact HT6'.out
 ·rcases h1 with h1 | h1
  ·exact h1
  rcases h2 with h2 | h2
  ·exact h2
  have := h1.2; have := h2.1; omega
 cases b
 ·rcases h with h | h
  ·exact h.elim
  exact .inr ⟨h.1, by have := h.2; omega⟩
 rcases h with h | h
 ·exact h.elim
 exact .inr ⟨by have := h.1; omega, by have := h.2; omega⟩
/-! the closures -/
set_option maxHeartbeats 2000000 in
theorem over_pred {T : Nat → Prop} {w0 : World} (p : Px) (hp : p.fit) (g3 : Nat) (hb : Blk w0 g3 30 p.cells) (hT : ¬ T g3) : PredI T w0 (.func (.func 39) #[] #[.pointer (some ⟨g3, 0, none⟩)]) (overB p) := by
 refine ⟨_, _, rfl, fun x W => by kernel_rfl, fun x W hx hK => ?_⟩
 have HP := Hh hp
 have HX := Hh hx
 have HB := Hh (hK.blk hb hT)
 clear hp hx hK hb hT
 show Calls Try.prog 39 #[.agg (itC x).toArray, .pointer (some ⟨g3, 0, none⟩)] W _
 go_enter Try.func39, Try.ntmps39
 go_upto_region 1 with (refine wpList_box_blk (by rfl) 35 (.tmp 0) rfl (itC x) rfl ?_; intro w1 hb1 hB1 hs1; clear hs1)
 obtain ⟨g2, hg2⟩ : ∃ g, W.heap.size = g := ⟨_, rfl⟩
 have HB1 := Hh (HB.out.on hB1)
 have HW := Hh hB1
 rw [hg2] at hb1
 try rw [hg2]
 have H2 := Hh hb1
 clear hb1 hB1 hg2
 go_wp2_with (first
  | (refine wpList_value (by rfl) (exec_load_mid 30 _ rfl g2 0 (by rfl) x.1.cells _ (it_blk_px H2.out HX.out.addr) Try.underlying30 rfl (sizePx _ HX.out.addr)) ?_)
  | (refine wpList_value (by rfl) (exec_load 30 _ rfl g3 (by rfl) 30 p.cells _ HB1.out Try.underlying30 rfl (sizePx _ HP.out.addr)) ?_))
 refine (covers_any x.1 HX.out p HP.out w1).mono ?_
 rintro e w2 ⟨rfl, hb⟩
 have HW2 := Hh (bthen HW.out hb)
 have HB2 := Hh (HB1.out.on hb)
 have H22 := Hh (H2.out.on hb)
 clear hb
 cases hc : covP x.1 p
 ·have HC := Hh hc
  clear hc
  go_wp2_with fail
  go_ret
  exact ⟨by unfold overB; rw [HC.out]; rfl, HW2.out⟩
 have HC := Hh hc
 clear hc
 obtain ⟨r, hr⟩ : ∃ r, decide (x.1 = p) = r := ⟨_, rfl⟩
 have HE := Hh hr
 clear hr
 go_wp2_with (first
  | (refine wpList_value (by rfl) (exec_load_mid 30 _ rfl g2 0 (by rfl) x.1.cells _ (it_blk_px H22.out HX.out.addr) Try.underlying30 rfl (sizePx _ HX.out.addr)) ?_)
  | (refine wpList_value (by rfl) (exec_load 30 _ rfl g3 (by rfl) 30 p.cells _ HB2.out Try.underlying30 rfl (sizePx _ HP.out.addr)) ?_)
  | (refine wpList_value (by rfl) (exec_nePx _ _ _ rfl x.1 p HX.out.addr HP.out.addr r HE.out (by rfl) (by rfl)) ?_))
 go_ret
 exact ⟨by unfold overB; rw [HC.out, HE.out]; rfl, HW2.out⟩
set_option maxHeartbeats 2000000 in
theorem under_pred {T : Nat → Prop} {w0 : World} (p : Px) (hp : p.fit) (g3 : Nat) (hb : Blk w0 g3 30 p.cells) (hT : ¬ T g3) : PredI T w0 (.func (.func 44) #[] #[.pointer (some ⟨g3, 0, none⟩)]) (underB p) := by
 refine ⟨_, _, rfl, fun x W => by kernel_rfl, fun x W hx hK => ?_⟩
 have HP := Hh hp
 have HX := Hh hx
 have HB := Hh (hK.blk hb hT)
 clear hp hx hK hb hT
 show Calls Try.prog 44 #[.agg (itC x).toArray, .pointer (some ⟨g3, 0, none⟩)] W _
 go_enter Try.func44, Try.ntmps44
 go_upto_region 1 with (refine wpList_box_blk (by rfl) 35 (.tmp 0) rfl (itC x) rfl ?_; intro w1 hb1 hB1 hs1; clear hs1)
 obtain ⟨g2, hg2⟩ : ∃ g, W.heap.size = g := ⟨_, rfl⟩
 have HB1 := Hh (HB.out.on hB1)
 have HW := Hh hB1
 rw [hg2] at hb1
 try rw [hg2]
 have H2 := Hh hb1
 clear hb1 hB1 hg2
 go_wp2_with (first
  | (refine wpList_value (by rfl) (exec_load_mid 30 _ rfl g2 0 (by rfl) x.1.cells _ (it_blk_px H2.out HX.out.addr) Try.underlying30 rfl (sizePx _ HX.out.addr)) ?_)
  | (refine wpList_value (by rfl) (exec_load 30 _ rfl g3 (by rfl) 30 p.cells _ HB1.out Try.underlying30 rfl (sizePx _ HP.out.addr)) ?_))
 refine (covers_any p HP.out x.1 HX.out w1).mono ?_
 rintro e w2 ⟨rfl, hb⟩
 have HW2 := Hh (bthen HW.out hb)
 clear hb
 go_wp2_with fail
 go_ret
 exact ⟨rfl, HW2.out⟩
set_option maxHeartbeats 2000000 in
theorem uses_pred {T : Nat → Prop} {w0 : World} (vl : Int) (g3 : Nat) (hb : g3 < w0.heap.size) (hc : w0.cell? ⟨g3, 0, none⟩ = some (.int .i64 vl)) (hT : ¬ T g3) : PredI T w0 (.func (.func 48) #[] #[.pointer (some ⟨g3, 0, none⟩)]) (fun x => decide (x.2 = vl)) := by
 refine ⟨_, _, rfl, fun x W => by kernel_rfl, fun x W hx hK => ?_⟩
 have HX := Hh hx
 have c3 := cell_kept hK hb hT hc
 have HG := Hh (show g3 < W.heap.size from Nat.lt_of_lt_of_le hb hK.size)
 clear hx hK hb hT hc
 show Calls Try.prog 48 #[.agg (itC x).toArray, .pointer (some ⟨g3, 0, none⟩)] W _
 go_enter Try.func48, Try.ntmps48
 go_upto_region 1 with (refine wpList_box_blk (by rfl) 35 (.tmp 0) rfl (itC x) rfl ?_; intro w1 hb1 hB1 hs1; clear hs1)
 obtain ⟨g2, hg2⟩ : ∃ g, W.heap.size = g := ⟨_, rfl⟩
 have HW := Hh hB1
 have c3 : w1.cell? ⟨g3, 0, none⟩ = some (.int .i64 vl) := (hB1.cell (p := ⟨g3, 0, none⟩) HG.out).trans c3
 rw [hg2] at hb1
 try rw [hg2]
 have c2 : w1.cell? ⟨g2, 18, none⟩ = some (.int .i64 x.2) := (hb1.cell 18).trans (it_val x HX.out.addr)
 clear hb1 hB1 hg2
 go_wp2_with fail
 go_ret
 exact ⟨by first | rfl | simp, HW.out⟩
set_option maxHeartbeats 2000000 in
theorem only_any (base : Nat) (A : Option Addr) (n c : Nat) (d : Nat → Itm) (hn : n ≤ 1000000) (w : World) (hR : Rd w base A n c d) (fv : Value) (pr : Itm → Bool) (hfv : fv.cells = #[fv]) (hP : ∀ W, Below w.heap.size w W → PredI (blkS A c) W fv pr) :
  Calls Try.prog 37 #[.slice A n c, fv] w fun e w' => e = .returned (.slice A ((rowD n d).filter pr).length c) ∧ Own w' base 35 19 A ((rowD n d).filter pr).length c (its ((rowD n d).filter pr)) ∧ Kept (blkS A c) w w' := by
 have HR := Hh hR
 have HP := Hh hP
 have HF := Hh hfv
 clear hR hP hfv
 go_enter Try.func37, Try.ntmps37
 go_upto_region 1 with (refine wpList_box1 (by rfl) 77 _ rfl fv (by rfl) HF.out ?_; intro w1 hb1 hB1 hs1)
 obtain ⟨g3, hg3⟩ : ∃ g, w.heap.size = g := ⟨_, rfl⟩
 have HR1 := Hh (HR.out.on hB1)
 have HB1 := Hh hB1
 have HPR := Hh (HP.out w1 hB1)
 have hgs : ¬ blkS A c g3 := fun h => by have := (HR.out.own.lt g3 h).2; omega
 rw [hg3] at hb1
 try rw [hg3]
 have HG := Hh hgs
 have H3 := Hh hb1
 clear hb1 hB1 hs1 hg3 hgs
 go_wp2_with fail
 refine (delete_any base A n c d hn w1 HR1.out g3 pr (fun x W hx hK => not1_any HPR.out g3 H3.out.lt HG.out (H3.out.cell 0) x W hx hK)).mono ?_
 rintro e w2 ⟨rfl, hO, hk⟩
 have HO := Hh hO
 have HK := Hh ((Kept.of_below (S := blkS A c) HB1.out).trans hk (fun _ h _ => h))
 clear hO hk
 go_wp2_with fail
 go_ret
 exact ⟨rfl, HO.out, HK.out⟩
/-! All, Above, Below, Uses -/
theorem rd_of {w : World} {base : Nat} {A : Option Addr} {c : Nat} {L : List Itm} (hO : Own w base 35 19 A L.length c (its L)) (hf : ∀ x ∈ L, x.1.fit) : ∃ d, rowD L.length d = L ∧ Rd w base A L.length c d := by
 obtain ⟨d, hd⟩ := rowD_of L
 refine ⟨d, hd, ⟨by rw [hd]; exact hO, fun k hk => ?_⟩⟩
 refine hf _ ?_
 rw [← hd]
 exact List.mem_map.2 ⟨k, List.mem_range.2 (by simpa using hk), rfl⟩
section
variable {w : World} {S : Nat → Prop} {f : Option Nat} {is : Bool} {room : Int} {L : Bool → List Itm} {K : Nat}
set_option maxHeartbeats 4000000 in
theorem both_any (h : FbO w S f is room L K) (hK : K ≤ 100000) :
  Calls Try.prog 45 #[ptV f, .func (.func 38) #[] #[]] w fun e w' => ∃ A' c', e = .returned (.slice A' (L false ++ L true).length c') ∧ Own w' w.heap.size 35 19 A' (L false ++ L true).length c' (its (L false ++ L true)) ∧ Below w.heap.size w w' := by
 have HL := Hh (show ∀ b, (L b).length ≤ 100000 from fun b => Nat.le_trans (h.len b) hK)
 have HF := Hh (show ∀ b, ∀ x ∈ L b, x.1.fit from fun b x hx => ((h.lok b).good x hx).fit)
 obtain ⟨o, T, h1, h2, h3, h4, h5⟩ := h
 have HK := Hh (show K ≤ 999990 by omega)
 have HN := Hh h1
 have HC := Hh (fun g hg => (h2 g hg).1)
 have HT := Hh h3
 clear h1 h2 h3 h4 h5
 go_enter Try.func45, Try.ntmps45
 go_wp2_with fail
 refine (fof_any w f o HN.out HC.out false).mono ?_
 rintro e w1 ⟨rfl, rfl⟩
 go_wp2_with fail
 refine (tall_O (HT.out false) HK.out).mono ?_
 rintro e w2 ⟨A4, c4, rfl, hO4, hb⟩
 have HW2 := Hh hb
 have HO4 := Hh hO4
 have HT2 := Hh ((HT.out true).on hb)
 have HC2 := Hh (fun g hg => (HC.out g hg).on hb)
 clear hO4 hb
 go_wp2_with fail
 refine (fof_any w2 f o HN.out HC2.out true).mono ?_
 rintro e w3 ⟨rfl, rfl⟩
 go_wp2_with fail
 refine (tall_O HT2.out HK.out).mono ?_
 rintro e w4 ⟨A6, c6, rfl, hO6, hb⟩
 have HW4 := Hh (bthen HW2.out hb)
 have HR4 := Hh (((HO4.out.row.below hb).more hb.size))
 have HR6 := Hh hO6.row
 clear hO6 hb
 obtain ⟨m4, hm4⟩ : ∃ m, (L false).length = m := ⟨_, rfl⟩
 obtain ⟨m6, hm6⟩ : ∃ m, (L true).length = m := ⟨_, rfl⟩
 have HM4 := Hh hm4
 have HM6 := Hh hm6
 rw [hm4, hm6]
 rw [hm4] at HR4
 rw [hm6] at HR6
 clear hm4 hm6
 go_wp2_with fail
 have hb5 : Below w4.heap.size w4 (w4.alloc (.cells #[.slice A4 m4 c4, .slice A6 m6 c6] 40)) := alloc_below _ _
 have hrow := Row.new (e := 40) (n := 2) (sz := 1) w4 #[.slice A4 m4 c4, .slice A6 m6 c6] rfl
 have hcat := concat_items (some ⟨w4.heap.size, 0, none⟩) 2 2 [⟨A4, m4, c4, its (L false)⟩, ⟨A6, m6, c6, its (L true)⟩] (w4.alloc (.cells #[.slice A4 m4 c4, .slice A6 m6 c6] 40)) (by simpa [Sl.v] using hrow) (by
  intro r hr
  simp only [List.mem_cons, List.not_mem_nil, or_false] at hr
  rcases hr with rfl | rfl
  ·exact ⟨(HR4.out.below hb5).more hb5.size, its_one _⟩
  ·exact ⟨(HR6.out.below hb5).more hb5.size, its_one _⟩) (by omega) (by
  have e1 := HL.out false
  have e2 := HL.out true
  rw [HM4.out] at e1
  rw [HM6.out] at e2
  simp [lenV]
  omega)
 rw [show lenV [⟨A4, m4, c4, its (L false)⟩, ⟨A6, m6, c6, its (L true)⟩] = (L false ++ L true).length by simp [lenV, HM4.out, HM6.out], show flatV [⟨A4, m4, c4, its (L false)⟩, ⟨A6, m6, c6, its (L true)⟩] = its (L false ++ L true) by simp [flatV, its_append]] at hcat
 have HCAT := Hh hcat
 have HB5 := Hh (bthen HW4.out hb5)
 clear hcat hrow hb5
 refine HCAT.out.mono ?_
 rintro e w6 ⟨A', c', rfl, hO, hb⟩
 have HO := Hh (hO.mono HB5.out.size)
 have HW6 := Hh (bthen HB5.out hb)
 obtain ⟨m, hm⟩ : ∃ m, (L false ++ L true).length = m := ⟨_, rfl⟩
 have HMM := Hh hm
 rw [hm] at HO
 rw [hm]
 clear hO hb hm
 go_wp2_with fail
 go_ret
 rw [HMM.out]
 exact ⟨A', c', rfl, HO.out, HW6.out⟩
set_option maxHeartbeats 1000000 in
theorem fall_any (h : FbO w S f is room L K) (hK : K ≤ 100000) :
  Calls Try.prog 15 #[ptV f] w fun e w' => ∃ A' c', e = .returned (.slice A' (L false ++ L true).length c') ∧ Own w' w.heap.size 35 19 A' (L false ++ L true).length c' (its (L false ++ L true)) ∧ Below w.heap.size w w' := by
 have HB := Hh (both_any h hK)
 clear h
 obtain ⟨M, hM⟩ : ∃ M, L false ++ L true = M := ⟨_, rfl⟩
 rw [hM] at HB
 rw [hM]
 clear hM
 go_enter Try.func15, Try.ntmps15
 go_wp2_with fail
 refine HB.out.mono ?_
 rintro e w6 ⟨A', c', rfl, hO, hb⟩
 have HO := Hh hO
 have HW6 := Hh hb
 obtain ⟨m, hm⟩ : ∃ m, M.length = m := ⟨_, rfl⟩
 have HMM := Hh hm
 rw [hm] at HO
 rw [hm]
 clear hO hb hm
 go_wp2_with fail
 go_ret
 rw [HMM.out]
 exact ⟨A', c', rfl, HO.out, HW6.out⟩
set_option maxHeartbeats 4000000 in
theorem fuses_any (h : FbO w S f is room L K) (hK : K ≤ 100000) (vl : Int) :
  Calls Try.prog 18 #[ptV f, .int .i64 vl] w fun e w' => e = .returned (.int .i64 (((L false ++ L true).filter fun x => decide (x.2 = vl)).length : Int)) ∧ Below w.heap.size w w' := by
 have HF := Hh (show ∀ x ∈ L false ++ L true, x.1.fit from fun x hx => (List.mem_append.1 hx).elim (fun hx => ((h.lok false).good x hx).fit) (fun hx => ((h.lok true).good x hx).fit))
 have HL := Hh (show (L false ++ L true).length ≤ 200000 by
  have e1 := h.len false
  have e2 := h.len true
  rw [List.length_append]
  omega)
 have HFB := Hh h
 clear h
 go_enter Try.func18, Try.ntmps18
 go_upto_region 1 with (refine wpList_box1 (by rfl) 3 _ rfl (.int .i64 vl) (by rfl) rfl ?_; intro w1 hb1 hB1 hs1)
 obtain ⟨g3, hg3⟩ : ∃ g, w.heap.size = g := ⟨_, rfl⟩
 have hlt := hb1.lt
 have HFB1 := Hh (HFB.out.on hB1)
 have HB1 := Hh hB1
 rw [hg3] at hb1 hlt
 try rw [hg3]
 have H3 := Hh hb1
 have HLT := Hh hlt
 clear hb1 hB1 hs1 hg3 hlt
 go_wp2_with fail
 refine (fall_any HFB1.out hK).mono ?_
 rintro e w2 ⟨A', c', rfl, hO, hb⟩
 obtain ⟨d, hd, hR⟩ := rd_of hO HF.out
 have HW2 := Hh (bthen HB1.out hb)
 have HR := Hh hR
 have HD := Hh hd
 have H32 := Hh (H3.out.on hb)
 have HGB := Hh (show ∀ g, blkS A' c' g → w1.heap.size ≤ g from fun g hg => (hO.lt g hg).1)
 obtain ⟨m, hm⟩ : ∃ m, (L false ++ L true).length = m := ⟨_, rfl⟩
 have HM := Hh hm
 rw [hm] at HR HD
 rw [hm]
 clear hO hb hd hR hm
 go_wp2_with fail
 refine (only_any w1.heap.size A' m c' d (by have := HL.out; have := HM.out; omega) w2 HR.out _ (fun x => decide (x.2 = vl)) rfl (fun W hb => uses_pred vl g3 (Nat.lt_of_lt_of_le H32.out.lt hb.size) ((H32.out.on hb).cell 0) (fun hg => by have := HGB.out g3 hg; have := HLT.out; omega))).mono ?_
 rintro e w3 ⟨rfl, hO, hk⟩
 rw [HD.out] at hO ⊢
 have HW3 := Hh (HW2.out.trans (hk.below HW2.out.size (fun g hg => Nat.le_trans HB1.out.size (HGB.out g hg))))
 clear hO hk
 obtain ⟨r, hr⟩ : ∃ r, ((L false ++ L true).filter fun x => decide (x.2 = vl)).length = r := ⟨_, rfl⟩
 have HRR := Hh hr
 rw [hr]
 clear hr
 go_wp2_with fail
 go_ret
 rw [HRR.out]
 exact ⟨rfl, HW3.out⟩
set_option maxHeartbeats 4000000 in
theorem fbelow_any (h : FbO w S f is room L K) (hK : K ≤ 100000) (p : Px) (hp : p.fit) :
  Calls Try.prog 14 #[ptV f, .agg p.cells.toArray] w fun e w' => ∃ A' n' c', e = .returned (.slice A' n' c') ∧ Row w' w'.heap.size 19 A' n' (its (belowF (L p.six) p)) ∧ Below w.heap.size w w' := by
 have HF := Hh (show ∀ b, ∀ x ∈ L b, x.1.fit from fun b x hx => ((h.lok b).good x hx).fit)
 have HL := Hh (show ∀ b, (L b).length ≤ 100000 from fun b => Nat.le_trans (h.len b) hK)
 obtain ⟨o, T, h1, h2, h3, h4, h5⟩ := h
 have HK := Hh (show K ≤ 999990 by omega)
 have HP := Hh hp
 have HN := Hh h1
 have HC := Hh (fun g hg => (h2 g hg).1)
 have HT := Hh h3
 clear hp h1 h2 h3 h4 h5
 go_enter Try.func14, Try.ntmps14
 go_upto_region 1 with (refine wpList_box_blk (by rfl) 30 (.tmp 1) rfl p.cells rfl ?_; intro w1 hb1 hB1 hs1)
 obtain ⟨g3, hg3⟩ : ∃ g, w.heap.size = g := ⟨_, rfl⟩
 have hlt := hb1.lt
 have HB1 := Hh hB1
 rw [hg3] at hb1 hlt
 try rw [hg3]
 have H3 := Hh hb1
 have HLT := Hh hlt
 clear hb1 hB1 hs1 hg3 hlt
 go_wp2_with (refine wpList_value (by rfl) (exec_load 30 _ rfl g3 (by rfl) 30 p.cells _ H3.out Try.underlying30 rfl (sizePx _ HP.out.addr)) ?_)
 refine (check_any p HP.out w1).mono ?_
 rintro e w2 ⟨rfl, hb⟩
 have HB2 := Hh (bthen HB1.out hb)
 have H32 := Hh (H3.out.on hb)
 have HS2 := Hh hb.size
 clear hb
 by_cases hq : chkP p = 0
 ·rw [hq]
  have c0 : w2.cell? ⟨g3, 0, none⟩ = some (.bool p.six) := H32.out.cell 0
  have HQ := Hh hq
  clear hq
  go_wp2_with fail
  refine (fof_any w2 f o HN.out (fun g hg => (HC.out g hg).on HB2.out) p.six).mono ?_
  rintro e w3 ⟨rfl, rfl⟩
  clear c0
  go_wp2_with fail
  refine (tall_O ((HT.out p.six).on HB2.out) HK.out).mono ?_
  rintro e w4 ⟨A', c', rfl, hO, hb⟩
  obtain ⟨d, hd, hR⟩ := rd_of hO (HF.out p.six)
  have HW4 := Hh (bthen HB2.out hb)
  have HR := Hh hR
  have HD := Hh hd
  have H34 := Hh (H32.out.on hb)
  have HGB := Hh (show ∀ g, blkS A' c' g → w2.heap.size ≤ g from fun g hg => (hO.lt g hg).1)
  obtain ⟨m, hm⟩ : ∃ m, (L p.six).length = m := ⟨_, rfl⟩
  have HM := Hh hm
  rw [hm] at HR HD
  rw [hm]
  clear hO hb hd hR hm
  go_wp2_with fail
  refine (only_any w2.heap.size A' m c' d (by have := HL.out p.six; have := HM.out; omega) w4 HR.out _ (underB p) rfl (fun W hb => under_pred p HP.out g3 (H34.out.on hb) (fun hg => by have := HGB.out g3 hg; have := HLT.out; have := HS2.out; omega))).mono ?_
  rintro e w5 ⟨rfl, hO, hk⟩
  rw [HD.out] at hO ⊢
  have HW5 := Hh (HW4.out.trans (hk.below HW4.out.size (fun g hg => Nat.le_trans HB2.out.size (HGB.out g hg))))
  have HRW := Hh (show Row w5 w5.heap.size 19 A' ((L p.six).filter (underB p)).length (its (belowF (L p.six) p)) by unfold belowF; rw [if_pos HQ.out]; exact hO.row)
  clear hO hk
  go_wp2_with fail
  go_ret
  exact ⟨A', _, c', rfl, HRW.out, HW5.out⟩
 have HQ := Hh hq
 obtain ⟨q, hqq⟩ : ∃ q, chkP p = q := ⟨_, rfl⟩
 rw [hqq] at hq
 rw [hqq]
 clear hqq
 go_wp2_with fail
 go_ret
 exact ⟨none, 0, 0, rfl, by unfold belowF; rw [if_neg HQ.out]; exact Row.nil _ _ _ _, HB2.out⟩
set_option maxHeartbeats 4000000 in
theorem fabove_any (h : FbO w S f is room L K) (hK : K ≤ 100000) (p : Px) (hl : (L p.six).length ≤ 60) (hp : p.fit) :
  Calls Try.prog 12 #[ptV f, .agg p.cells.toArray] w fun e w' => ∃ A' n' c', e = .returned (.slice A' n' c') ∧ Row w' w'.heap.size 19 A' n' (its (aboveF (L p.six) p)) ∧ Below w.heap.size w w' := by
 have HF := Hh (show ∀ b, ∀ x ∈ L b, x.1.fit from fun b x hx => ((h.lok b).good x hx).fit)
 have HL := Hh hl
 clear hl
 have HLO := Hh (h.lok p.six)
 obtain ⟨o, T, h1, h2, h3, h4, h5⟩ := h
 have HK := Hh (show K ≤ 999990 by omega)
 have HP := Hh hp
 have HN := Hh h1
 have HC := Hh (fun g hg => (h2 g hg).1)
 have HT := Hh h3
 clear hp h1 h2 h3 h4 h5
 go_enter Try.func12, Try.ntmps12
 go_upto_region 1 with (refine wpList_box_blk (by rfl) 30 (.tmp 1) rfl p.cells rfl ?_; intro w1 hb1 hB1 hs1)
 obtain ⟨g3, hg3⟩ : ∃ g, w.heap.size = g := ⟨_, rfl⟩
 have hlt := hb1.lt
 have HB1 := Hh hB1
 rw [hg3] at hb1 hlt
 try rw [hg3]
 have H3 := Hh hb1
 have HLT := Hh hlt
 clear hb1 hB1 hs1 hg3 hlt
 go_wp2_with (refine wpList_value (by rfl) (exec_load 30 _ rfl g3 (by rfl) 30 p.cells _ H3.out Try.underlying30 rfl (sizePx _ HP.out.addr)) ?_)
 refine (check_any p HP.out w1).mono ?_
 rintro e w2 ⟨rfl, hb⟩
 have HB2 := Hh (bthen HB1.out hb)
 have H32 := Hh (H3.out.on hb)
 have HS2 := Hh hb.size
 clear hb
 by_cases hq : chkP p = 0
 ·rw [hq]
  have c0 : w2.cell? ⟨g3, 0, none⟩ = some (.bool p.six) := H32.out.cell 0
  have HQ := Hh hq
  clear hq
  go_wp2_with fail
  refine (fof_any w2 f o HN.out (fun g hg => (HC.out g hg).on HB2.out) p.six).mono ?_
  rintro e w3 ⟨rfl, rfl⟩
  clear c0
  go_wp2_with fail
  refine (tall_O ((HT.out p.six).on HB2.out) HK.out).mono ?_
  rintro e w4 ⟨A', c', rfl, hO, hb⟩
  obtain ⟨d, hd, hR⟩ := rd_of hO (HF.out p.six)
  have HW4 := Hh (bthen HB2.out hb)
  have HR := Hh hR
  have HD := Hh hd
  have H34 := Hh (H32.out.on hb)
  have HGB := Hh (show ∀ g, blkS A' c' g → w2.heap.size ≤ g from fun g hg => (hO.lt g hg).1)
  obtain ⟨m, hm⟩ : ∃ m, (L p.six).length = m := ⟨_, rfl⟩
  have HM := Hh hm
  rw [hm] at HR HD
  rw [hm]
  clear hO hb hd hR hm
  go_wp2_with fail
  refine (only_any w2.heap.size A' m c' d (by have := HL.out; have := HM.out; omega) w4 HR.out _ (overB p) rfl (fun W hb => over_pred p HP.out g3 (H34.out.on hb) (fun hg => by have := HGB.out g3 hg; have := HLT.out; have := HS2.out; omega))).mono ?_
  rintro e w5 ⟨rfl, hO, hk⟩
  rw [HD.out] at hO ⊢
  obtain ⟨M, hM⟩ : ∃ M, (L p.six).filter (overB p) = M := ⟨_, rfl⟩
  have hMf : ∀ x ∈ M, x.1.fit := fun x hx => HF.out p.six x (by rw [← hM] at hx; exact (List.mem_filter.1 hx).1)
  have hMl : M.length ≤ 60 := by rw [← hM]; exact Nat.le_trans (List.length_filter_le _ _) HL.out
  have hgood : p.good := (chkP_iff p HP.out.addr).1 HQ.out
  have hrise := over_rise HLO.out hgood
  have HW5 := Hh (HW4.out.trans (hk.below HW4.out.size (fun g hg => Nat.le_trans HB2.out.size (HGB.out g hg))))
  have HABF := Hh (show aboveF (L p.six) p = M.reverse by unfold aboveF; rw [if_pos HQ.out, hM])
  rw [hM] at hO hrise
  rw [hM]
  obtain ⟨e9, he9, hR9⟩ := rd_of hO hMf
  have HR9 := Hh hR9
  have HE9 := Hh he9
  have HRI := Hh (show ∀ i j, i < j → j < M.length → (e9 i).1.len < (e9 j).1.len from fun i j hij hj => by
   have h9 := List.pairwise_iff_getElem.1 hrise i j (by omega) hj hij
   have a1 := rowD_get e9 (show i < M.length by omega)
   have a2 := rowD_get e9 hj
   rw [he9] at a1 a2
   rw [(List.getElem?_eq_some_iff.1 a1).2, (List.getElem?_eq_some_iff.1 a2).2] at h9
   exact h9)
  obtain ⟨m2, hm2⟩ : ∃ m, M.length = m := ⟨_, rfl⟩
  have HM2 := Hh hm2
  rw [hm2] at HR9 HE9 HRI hMl
  rw [hm2]
  have HML := Hh hMl
  clear hO hk hM hMf hMl hgood hrise he9 hR9 hm2
  go_wp2_with fail
  have h9 := sortstable_any w2.heap.size A' m2 c' e9 HML.out HRI.out w5 HR9.out
  unfold cmpV at h9
  refine h9.mono ?_
  clear h9
  rintro e w6 ⟨rfl, hR, hk⟩
  have HW6 := Hh (HW5.out.trans (hk.below HW5.out.size (fun g hg => Nat.le_trans HB2.out.size (HGB.out g hg))))
  have HRW := Hh (show Row w6 w6.heap.size 19 A' m2 (its (aboveF (L p.six) p)) by
   have h8 := hR.own.row
   rw [rowD_rev, HE9.out] at h8
   rw [HABF.out]
   exact h8)
  clear hR hk
  go_wp2_with fail
  go_ret
  exact ⟨A', _, c', rfl, HRW.out, HW6.out⟩
 have HQ := Hh hq
 obtain ⟨q, hqq⟩ : ∃ q, chkP p = q := ⟨_, rfl⟩
 rw [hqq] at hq
 rw [hqq]
 clear hqq
 go_wp2_with fail
 go_ret
 exact ⟨none, 0, 0, rfl, by unfold aboveF; rw [if_neg HQ.out]; exact Row.nil _ _ _ _, HB2.out⟩
end
end Go.Proofs.Ytdmgomknamdcfaa

/- Items compared whole; prefixes that are built. No condition but sizes. -/
namespace Go.Proofs.Ytdmgomknamdcfaa
open Go.RowKit
set_option linter.unusedVariables false
set_option maxRecDepth 20000
set_option linter.unusedSimpArgs false

section
variable {P : Program} {w w' : World} {ops : Array Oper} {rest : List Oper} {o : Oper} {a : Act} {Q : Exit → Act → World → Prop}
end
theorem It.eq_parts (x y : Itm) : (decide (x.1 = y.1) && ((x.2 == y.2) && true)) = decide (x = y) := by
 rw [Bool.eq_iff_iff]
 simp only [Bool.and_eq_true, beq_iff_eq, decide_eq_true_eq, and_true]
 exact ⟨fun h => Prod.ext h.1 h.2, fun h => by rw [h]; exact ⟨rfl, rfl⟩⟩
theorem run_buildPx12 (l : List UInt8) (h : l.length = 16) (n : Int) (w : World) : (Instr.build 30 #[(1, .agg (bv l).toArray), (2, .int .i64 n)]).run Try.prog w = .ok (.agg (Px.cells ⟨false, l, n⟩).toArray) w := by
 obtain ⟨s0, s1, s2, s3, s4, s5, s6, s7, s8, s9, s10, s11, s12, s13, s14, s15, rfl⟩ := list16p l h
 kernel_rfl
theorem exec_buildPx12 {w : World} {o : Oper} {q : Act} (x1 x2 : Operand) (ho : o.op = .build 30 #[(1, x1), (2, x2)]) (l : List UInt8) (h : l.length = 16) (n : Int) (h1 : q.eval x1 = .agg (bv l).toArray) (h2 : q.eval x2 = .int .i64 n) :
  (execOp q.eval o).run Try.prog w = .ok (.value (.agg (Px.cells ⟨false, l, n⟩).toArray)) w := by
 unfold execOp
 simp only [ho, List.map_toArray, List.map_cons, List.map_nil, h1, h2, Sem.run_bind, run_buildPx12 l h n w, Result.andThen_ok]
 rfl
theorem exec_buildPx0 {w : World} {o : Oper} {q : Act} (ho : o.op = .build 30 #[]) : (execOp q.eval o).run Try.prog w = .ok (.value (.agg Px.zero.cells.toArray)) w := by
 unfold execOp
 simp only [ho, List.map_toArray, List.map_nil, Sem.run_bind, show (Instr.build 30 #[]).run Try.prog w = .ok (.agg Px.zero.cells.toArray) w by kernel_rfl, Result.andThen_ok]
 rfl
theorem exec_buildPxT {w : World} {o : Oper} {q : Act} (ho : o.op = .build 30 #[(0, .const (.bool true))]) : (execOp q.eval o).run Try.prog w = .ok (.value (.agg (Px.cells ⟨true, zz16, 0⟩).toArray)) w := by
 unfold execOp
 simp only [ho]
 kernel_rfl
/-- Put, with the blocks said by a predicate that holds of all new ones -/
theorem fput_P {w : World} {P : Nat → Prop} {f : Option Nat} {is : Bool} {room : Int} {L : Bool → List Itm} {K : Nat} (h : FbO w P f is room L K) (hP : ∀ b, w.heap.size ≤ b → P b) (hK : K ≤ 999990) (p : Px) (hp : p.fit) (vl : Int) :
  Calls Try.prog 8 #[ptV f, .agg p.cells.toArray, .int .i64 vl] w fun e w' => e = .returned (.int .i64 (putR is p.six room (L p.six) p vl).2) ∧ FbO w' P f is room (setL L p.six (putR is p.six room (L p.six) p vl).1) (K + 2) ∧ Kept P w w' := by
 refine (fput_any h hK p hp vl).mono ?_
 rintro e w' ⟨rfl, h3, h4⟩
 exact ⟨rfl, h3.mono (fun b hb h9 => h9.elim (fun h => h) (fun h => hP b h.1)) (Nat.le_refl _), h4⟩
end Go.Proofs.Ytdmgomknamdcfaa

/- The document's example of layer 10 holds. No condition but sizes. -/
namespace Go.Proofs.Ytdmgomknamdcfaa
open Go.RowKit
set_option linter.unusedVariables false
set_option maxRecDepth 20000
set_option linter.unusedSimpArgs false

def adA : List UInt8 := [10, 0, 0, 0, 0, 0, 0, 0, 0, 0, 0, 0, 0, 0, 0, 0]
theorem exec_bA {w : World} {o : Oper} {q : Act} (ho : o.op = .build 23 #[(0, .const (.int .u8 10))]) : (execOp q.eval o).run Try.prog w = .ok (.value (.agg (bv adA).toArray)) w := by
 unfold execOp
 simp only [ho]
 kernel_rfl
def adB : List UInt8 := [10, 1, 0, 0, 0, 0, 0, 0, 0, 0, 0, 0, 0, 0, 0, 0]
theorem exec_bB {w : World} {o : Oper} {q : Act} (ho : o.op = .build 23 #[(0, .const (.int .u8 10)), (1, .const (.int .u8 1))]) : (execOp q.eval o).run Try.prog w = .ok (.value (.agg (bv adB).toArray)) w := by
 unfold execOp
 simp only [ho]
 kernel_rfl
def adN : List UInt8 := [9, 0, 0, 0, 0, 0, 0, 0, 0, 0, 0, 0, 0, 0, 0, 0]
theorem exec_bN {w : World} {o : Oper} {q : Act} (ho : o.op = .build 23 #[(0, .const (.int .u8 9))]) : (execOp q.eval o).run Try.prog w = .ok (.value (.agg (bv adN).toArray)) w := by
 unfold execOp
 simp only [ho]
 kernel_rfl
def pxA : Px := ⟨false, adA, 8⟩
def pxB : Px := ⟨false, adB, 16⟩
def pxT : Px := ⟨true, zz16, 0⟩
def fl0 : Bool → List Itm := fun _ => []
def fl1 : Bool → List Itm := fun b => if b then [] else [(pxA, 2)]
def fl2 : Bool → List Itm := fun b => if b then [] else [(pxA, 2), (pxB, 3)]
def fl3 : Bool → List Itm := fun b => if b then [] else [(Px.zero, 1), (pxA, 2), (pxB, 3)]
def fl4 : Bool → List Itm := fun b => if b then [(pxT, 1)] else [(Px.zero, 1), (pxA, 2), (pxB, 3)]
theorem fx1 : putR true pxA.six 5 (fl0 pxA.six) pxA 2 = ([(pxA, 2)], 0) := by decide +kernel
theorem fx2 : putR true pxB.six 5 (fl1 pxB.six) pxB 3 = ([(pxA, 2), (pxB, 3)], 0) := by decide +kernel
theorem fx3 : putR true Px.zero.six 5 (fl2 Px.zero.six) Px.zero 1 = ([(Px.zero, 1), (pxA, 2), (pxB, 3)], 0) := by decide +kernel
theorem fx4 : putR true pxT.six 5 (fl3 pxT.six) pxT 1 = ([(pxT, 1)], 0) := by decide +kernel
theorem fs1 : setL fl0 pxA.six [(pxA, 2)] = fl1 := by funext b; cases b <;> rfl
theorem fs2 : setL fl1 pxB.six [(pxA, 2), (pxB, 3)] = fl2 := by funext b; cases b <;> rfl
theorem fs3 : setL fl2 Px.zero.six [(Px.zero, 1), (pxA, 2), (pxB, 3)] = fl3 := by funext b; cases b <;> rfl
theorem fs4 : setL fl3 pxT.six [(pxT, 1)] = fl4 := by funext b; cases b <;> rfl
theorem fx5 : aboveF (fl4 pxB.six) pxB = [(pxA, 2), (Px.zero, 1)] := by decide +kernel
theorem fx6 : belowF (fl4 pxA.six) pxA = [(pxA, 2), (pxB, 3)] := by decide +kernel
theorem fx7 : ((fl4 false ++ fl4 true).filter fun x => decide (x.2 = 1)).length = 2 := by decide +kernel
theorem fx8 : ansL' (fl4 true) adN = ((pxT, 1), true) := by decide +kernel
theorem fx9 : (fl4 false ++ fl4 true).length = 4 := by decide +kernel
theorem pxA_fit : pxA.fit := ⟨rfl, by decide⟩
theorem pxB_fit : pxB.fit := ⟨rfl, by decide⟩
theorem pxT_fit : pxT.fit := ⟨rfl, by decide⟩
theorem pxZ_fit : Px.zero.fit := ⟨rfl, by decide⟩
set_option maxHeartbeats 4000000 in
theorem awake_any (w : World) : Calls Try.prog 6 #[] w fun e w' => e = .returned (.bool true) ∧ Below w.heap.size w w' := by
 go_enter Try.func6, Try.ntmps6
 go_wp2_with fail
 refine (fnew_any 5 w).mono ?_
 rintro e w1 ⟨f, rfl, ho, hT, hb⟩
 have hi : f.isSome = true := by
  cases f with
  | none => exact absurd (ho.1 rfl) (by decide)
  | some g => rfl
 rw [hi] at hT
 have HT1 := Hh hT
 have HB1 := Hh hb
 clear hT hb ho hi
 go_upto_region 3 with (first
  | (refine wpList_value (by rfl) (exec_bA rfl) ?_)
  | (refine wpList_value (by rfl) (exec_buildPx12 _ _ rfl adA rfl 8 rfl rfl) ?_)
  | (refine wpList_alloc_blk (by rfl) 30 rfl Px.zero.cells zeroPx ?_; intro wa hba hBa hsa)
  | (refine wpList_store_all (by rfl) 30 _ _ rfl w1.heap.size pxA.cells rfl rfl 30 _ hba (sizePx _ pxA_fit.addr) (Px.cells_same _ _ pxA_fit.addr rfl) (onePx _) ?_; intro w2 hb2 hg2 hs2))
 have HB2 := Hh (bgrown hBa hg2 hBa.size (Nat.le_refl _))
 obtain ⟨gA, hgA⟩ : ∃ g, w1.heap.size = g := ⟨_, rfl⟩
 have HGA := Hh hgA
 have HA2 := hb2
 rw [hgA] at HA2
 try rw [hgA]
 have HAA := Hh HA2
 have HT2 := Hh (HT1.out.on HB2.out)
 have HW2 := Hh (bthen HB1.out HB2.out)
 clear hba hBa hsa hb2 hg2 hs2 hgA HA2
 go_upto_region 4 with (first
  | (refine wpList_value (by rfl) (exec_bB rfl) ?_)
  | (refine wpList_value (by rfl) (exec_buildPx12 _ _ rfl adB rfl 16 rfl rfl) ?_)
  | (refine wpList_alloc_blk (by rfl) 30 rfl Px.zero.cells zeroPx ?_; intro wa hba hBa hsa)
  | (refine wpList_store_all (by rfl) 30 _ _ rfl w2.heap.size pxB.cells rfl rfl 30 _ hba (sizePx _ pxB_fit.addr) (Px.cells_same _ _ pxB_fit.addr rfl) (onePx _) ?_; intro w3 hb3 hg3 hs3))
 have HB3 := Hh (bgrown hBa hg3 hBa.size (Nat.le_refl _))
 obtain ⟨gB, hgB⟩ : ∃ g, w2.heap.size = g := ⟨_, rfl⟩
 have HGB := Hh hgB
 have HA3 := hb3
 rw [hgB] at HA3
 try rw [hgB]
 have HXB := Hh HA3
 have HA := Hh (HAA.out.on HB3.out)
 have HW := Hh (bthen HW2.out HB3.out)
 have hT3 : FbO w3 (fun b => w.heap.size ≤ b ∧ b ≠ gA ∧ b ≠ gB) f true 5 fl0 1 := (HT2.out.on HB3.out).mono (fun b hb h => by
  rcases h with h | h
  ·exact h.elim
  have e1 := HGA.out
  have e2 := HGB.out
  have e3 := HB2.out.size
  exact ⟨h.1, by omega, by omega⟩) (Nat.le_refl _)
 have HT := Hh hT3
 clear hba hBa hsa hb3 hg3 hs3 hgB HA3 hT3
 go_wp2_with (refine wpList_value (by rfl) (exec_load 30 _ rfl gA (by rfl) 30 pxA.cells _ HA.out Try.underlying30 rfl (sizePx _ pxA_fit.addr)) ?_)
 have hcl := fput_P HT.out (fun b hb => ⟨Nat.le_trans HW.out.size hb, (fun e => by have := HA.out.lt; omega), (fun e => by have := HXB.out.lt; omega)⟩) (by omega) pxA pxA_fit 2
 rw [fx1, fs1] at hcl
 refine hcl.mono ?_
 clear hcl
 rintro e w4 ⟨rfl, hT, hk⟩
 replace HA := Hh (hk.blk HA.out (fun h => h.2.1 rfl))
 replace HXB := Hh (hk.blk HXB.out (fun h => h.2.2 rfl))
 replace HW := Hh (HW.out.trans (hk.below HW.out.size (fun b h => h.1)))
 replace HT := Hh hT
 clear hT hk
 go_wp2_with (refine wpList_value (by rfl) (exec_load 30 _ rfl gB (by rfl) 30 pxB.cells _ HXB.out Try.underlying30 rfl (sizePx _ pxB_fit.addr)) ?_)
 have hcl := fput_P HT.out (fun b hb => ⟨Nat.le_trans HW.out.size hb, (fun e => by have := HA.out.lt; omega), (fun e => by have := HXB.out.lt; omega)⟩) (by omega) pxB pxB_fit 3
 rw [fx2, fs2] at hcl
 refine hcl.mono ?_
 clear hcl
 rintro e w5 ⟨rfl, hT, hk⟩
 replace HA := Hh (hk.blk HA.out (fun h => h.2.1 rfl))
 replace HXB := Hh (hk.blk HXB.out (fun h => h.2.2 rfl))
 replace HW := Hh (HW.out.trans (hk.below HW.out.size (fun b h => h.1)))
 replace HT := Hh hT
 clear hT hk
 go_wp2_with (refine wpList_value (by rfl) (exec_buildPx0 rfl) ?_)
 have hcl := fput_P HT.out (fun b hb => ⟨Nat.le_trans HW.out.size hb, (fun e => by have := HA.out.lt; omega), (fun e => by have := HXB.out.lt; omega)⟩) (by omega) Px.zero pxZ_fit 1
 rw [fx3, fs3] at hcl
 refine hcl.mono ?_
 clear hcl
 rintro e w6 ⟨rfl, hT, hk⟩
 replace HA := Hh (hk.blk HA.out (fun h => h.2.1 rfl))
 replace HXB := Hh (hk.blk HXB.out (fun h => h.2.2 rfl))
 replace HW := Hh (HW.out.trans (hk.below HW.out.size (fun b h => h.1)))
 replace HT := Hh hT
 clear hT hk
 go_wp2_with (refine wpList_value (by rfl) (exec_buildPxT rfl) ?_)
 have hcl := fput_P HT.out (fun b hb => ⟨Nat.le_trans HW.out.size hb, (fun e => by have := HA.out.lt; omega), (fun e => by have := HXB.out.lt; omega)⟩) (by omega) pxT pxT_fit 1
 rw [fx4, fs4] at hcl
 refine hcl.mono ?_
 clear hcl
 rintro e w7 ⟨rfl, hT, hk⟩
 replace HA := Hh (hk.blk HA.out (fun h => h.2.1 rfl))
 replace HXB := Hh (hk.blk HXB.out (fun h => h.2.2 rfl))
 replace HW := Hh (HW.out.trans (hk.below HW.out.size (fun b h => h.1)))
 replace HT := Hh hT
 clear hT hk
 go_wp2_with (refine wpList_value (by rfl) (exec_load 30 _ rfl gB (by rfl) 30 pxB.cells _ HXB.out Try.underlying30 rfl (sizePx _ pxB_fit.addr)) ?_)
 have hcl := fabove_any HT.out (by omega) pxB (by decide +kernel) pxB_fit
 rw [fx5] at hcl
 refine hcl.mono ?_
 clear hcl
 rintro e w8 ⟨A8, n8, c8, rfl, hr, hb⟩
 have hfit : ∀ x ∈ ([(pxA, 2), (Px.zero, 1)] : List Itm), x.1.fit := by
  intro x hx
  simp only [List.mem_cons, List.not_mem_nil, or_false] at hx
  rcases hx with rfl | rfl
  ·exact pxA_fit
  exact pxZ_fit
 obtain rfl : 2 = n8 := its_row hr hfit
 obtain ⟨b8, o8, rfl, hb8, k0⟩ := its_at2 hr hfit 0 (pxA, 2) rfl
 obtain ⟨b9, o9, he9, _, k1⟩ := its_at2 hr hfit 1 (Px.zero, 1) rfl
 injection he9 with he9
 injection he9 with h1 h2
 subst h1
 subst h2
 have HR0 := Hh k0
 have HR1 := Hh k1
 have HLB := Hh hb8
 replace HA := Hh (HA.out.on hb)
 replace HXB := Hh (HXB.out.on hb)
 replace HT := Hh (HT.out.on hb)
 replace HW := Hh (bthen HW.out hb)
 clear hr hb hfit k0 k1 hb8
 go_wp2_with (refine wpList_value (by rfl) (exec_bN rfl) ?_)
 have hcl := flook_any HT.out true adN rfl
 rw [fx8] at hcl
 refine hcl.mono ?_
 clear hcl
 rintro e w9 ⟨rfl, hb⟩
 replace HR0 := Hh (range_below hb HLB.out HR0.out)
 replace HR1 := Hh (range_below hb HLB.out HR1.out)
 replace HLB := Hh (Nat.lt_of_lt_of_le HLB.out hb.size)
 replace HA := Hh (HA.out.on hb)
 replace HXB := Hh (HXB.out.on hb)
 replace HT := Hh (HT.out.on hb)
 replace HW := Hh (bthen HW.out hb)
 clear hb
 go_upto_region 10 with (first
  | (refine wpList_alloc_blk (by rfl) 35 rfl (itC (Px.zero, 0)) zeroIt ?_; intro wa hba hBa hsa)
  | (refine wpList_store_all (by rfl) 35 _ _ rfl w9.heap.size (itC (pxT, 1)) rfl rfl 35 _ hba (sizeIt _ pxT_fit.addr) (by rw [itC_length _ pxT_fit.addr]; rfl) (oneIt _) ?_; intro w10 hb9 hg9 hs9))
 have hbb := (bgrown hBa hg9 hBa.size (Nat.le_refl _))
 obtain ⟨g9, hgg⟩ : ∃ g, w9.heap.size = g := ⟨_, rfl⟩
 rw [hgg] at hb9
 try rw [hgg]
 have H9 := Hh hb9
 replace HR0 := Hh (range_below hbb HLB.out HR0.out)
 replace HR1 := Hh (range_below hbb HLB.out HR1.out)
 replace HA := Hh (HA.out.on hbb)
 replace HT := Hh (HT.out.on hbb)
 replace HW := Hh (bthen HW.out hbb)
 clear hba hBa hsa hb9 hg9 hs9 hbb hgg HXB HLB
 have c0 : w10.cell? ⟨b8, o8 + 18, none⟩ = some (.int .i64 2) := HR0.out 18 _ rfl
 have c1 : w10.cell? ⟨b8, o8 + 19 + 18, none⟩ = some (.int .i64 1) := HR1.out 18 _ rfl
 go_wp2_with (refine wpList_value (by rfl) (exec_load 30 _ rfl gA (by rfl) 30 pxA.cells _ HA.out Try.underlying30 rfl (sizePx _ pxA_fit.addr)) ?_)
 have hcl := fbelow_any HT.out (by omega) pxA pxA_fit
 rw [fx6] at hcl
 refine hcl.mono ?_
 clear hcl c0 c1
 rintro e w11 ⟨A11, n11, c11, rfl, hr, hb⟩
 obtain rfl : 2 = n11 := its_row hr (by
  intro x hx
  simp only [List.mem_cons, List.not_mem_nil, or_false] at hx
  rcases hx with rfl | rfl
  ·exact pxA_fit
  exact pxB_fit)
 replace HT := Hh (HT.out.on hb)
 replace HW := Hh (bthen HW.out hb)
 replace H9 := Hh (H9.out.on hb)
 clear hr hb
 go_wp2_with fail
 have hcl := fuses_any HT.out (by omega) 1
 rw [fx7] at hcl
 refine hcl.mono ?_
 clear hcl
 rintro e w12 ⟨rfl, hb⟩
 replace HT := Hh (HT.out.on hb)
 replace HW := Hh (bthen HW.out hb)
 replace H9 := Hh (H9.out.on hb)
 clear hb
 have c9 : w12.cell? ⟨g9, 18, none⟩ = some (.int .i64 1) := H9.out.cell 18
 go_wp2_with fail
 have hcl := fall_any HT.out (by omega)
 rw [fx9] at hcl
 refine hcl.mono ?_
 clear hcl c9
 rintro e w13 ⟨A13, c13, rfl, hO, hb⟩
 replace HW := Hh (bthen HW.out hb)
 clear hb hO
 go_wp2_with fail
 refine (fnew_any 0 w13).mono ?_
 rintro e w14 ⟨f9, rfl, hf9, hT, hb⟩
 obtain rfl : f9 = none := hf9.2 (by decide)
 replace HW := Hh (bthen HW.out hb)
 clear hb hT hf9
 rw [show ptV none = .pointer none from rfl]
 go_wp2_with fail
 go_ret
 exact ⟨rfl, HW.out⟩
end Go.Proofs.Ytdmgomknamdcfaa

/- Plain laws of the longest prefix that covers, and of what is above and below (layer 10). No condition. -/
namespace Go.Proofs.Ytdmgomknamdcfaa
set_option linter.unusedVariables false
set_option linter.unusedSimpArgs false

/-- a row grows by one at most -/
theorem putR_len (is six : Bool) (room : Int) (L : List Itm) (p : Px) (vl : Int) : (putR is six room L p vl).1.length ≤ L.length + 1 := by
 unfold putR
 split
 ·split
  ·simp
  unfold putC
  simp only [List.length_append, List.length_cons, List.length_take, List.length_drop]
  split <;> omega
 simp
theorem delR_len (is six : Bool) (L : List Itm) (p : Px) : (delR is six L p).1.length ≤ L.length := by
 unfold delR
 split
 ·split
  ·unfold delC
   simp only [List.length_append, List.length_take, List.length_drop]
   omega
  simp
 simp
end Go.Proofs.Ytdmgomknamdcfaa


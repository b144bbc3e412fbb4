/- Texts of this claim put together, in build order: each one's own remark stands ahead of it. -/
import Derived.Test.YtckbleiikldloaaDoorG06
import Derived.Test.YtckbleiikldloaaDoorG05
import Derived.Test.YtckbleiikldloaaDoorG01
import Derived.RangeFuncNested
import Derived.RangeFuncBound
import Derived.RangeFuncCalls
import Derived.RangeFuncLeaves
import Derived.RangeFuncBox
import Derived.Shelf.Abstract
import Derived.Shelf.RegionOpen
import Derived.OwnWalkIn
import Derived.TacticsInMore
import Derived.LoopNIn
import Derived.LoopIn
import Derived.Maps.AppendAt
/- What ext.Put (layer 22) computes. No condition but sizes. -/
namespace Go.Proofs.YtckbleiikldloaaDoor
open Go.RowKit
set_option linter.unusedVariables false
set_option maxRecDepth 20000
set_option linter.unusedSimpArgs false

theorem bthenB {B : Nat} {a b c : World} (h : Below B a b) (k : Below b.heap.size b c) (hB : B ≤ b.heap.size) : Below B a c := h.trans (k.mono hB)
def xos (l : List Xo) : List Value := l.flatMap Xo.cells
theorem xos_length (l : List Xo) : (xos l).length = l.length * 3 := by
  induction l with
  | nil => rfl
  | cons e l ih =>
    have h : xos (e :: l) = e.cells ++ xos l := rfl
    rw [h, List.length_append, ih, List.length_cons, Nat.succ_mul]
    simp [Xo.cells]
    omega
theorem xos_cell (l : List Xo) (i : Nat) (x : Xo) (h : l[i]? = some x) (j : Nat) (hj : j < 3) : (xos l)[i * 3 + j]? = x.cells[j]? := by
  induction l generalizing i with
  | nil => simp at h
  | cons y l ih =>
    have e : xos (y :: l) = y.cells ++ xos l := rfl
    have hl : y.cells.length = 3 := rfl
    rw [e]
    cases i with
    | zero =>
      simp at h
      subst h
      rw [List.getElem?_append_left (by omega)]
      congr 1
      omega
    | succ i =>
      simp at h
      rw [List.getElem?_append_right (by omega), ← ih i h]
      congr 1
      omega
theorem xo_len {w : World} {B n : Nat} {A : Option Addr} {l : List Xo} (h : Row w B 3 A n (xos l)) : l.length = n := by have := h.1; rw [xos_length] at this; omega
theorem xo_row {w : World} {B n : Nat} {A : Option Addr} {l : List Xo} (h : Row w B 3 A n (xos l)) (i : Nat) (x : Xo) (hi : l[i]? = some x) :
    ∃ b o, A = some ⟨b, o, none⟩ ∧ b < B ∧ w.cell? ⟨b, o + i * 3, none⟩ = some (.int .u8 x.cls) ∧ w.cell? ⟨b, o + i * 3 + 1, none⟩ = some (.int .u8 x.kind) ∧ w.cell? ⟨b, o + i * 3 + 2, none⟩ = some (.slice x.A x.n x.c) := by
  have hl := xo_len h
  have hn : 0 < n := by
    obtain ⟨hi', _⟩ := List.getElem?_eq_some_iff.1 hi
    omega
  obtain ⟨b, o, rfl, hb, hc⟩ := h.2 hn
  refine ⟨b, o, rfl, hb, ?_, ?_, ?_⟩
  · exact hc (i * 3) _ (xos_cell l i x hi 0 (by omega))
  · exact hc (i * 3 + 1) _ (xos_cell l i x hi 1 (by omega))
  · exact hc (i * 3 + 2) _ (xos_cell l i x hi 2 (by omega))
theorem zeroXo (w : World) : (zeroValue 80).run Tryd.prog w = .ok (.agg (Xo.cells ⟨0, 0, none, 0, 0, []⟩).toArray) w := by kernel_rfl
def obL (l : List Xo) : List UInt8 := obsB (l.map Xo.ob)
theorem obL_snoc (l : List Xo) (k : Nat) (x : Xo) (h : l[k]? = some x) : obL (l.take (k + 1)) = obL (l.take k) ++ obB x.ob := by
  unfold obL
  rw [List.map_take, List.map_take]
  exact obsB_snoc _ k _ (by simp [h])
def goodK (l : List Xo) (k : Nat) : Prop := ∀ j x, j < k → l[j]? = some x → x.ob.good = true
theorem goodK_succ {l : List Xo} {k : Nat} {x : Xo} (h : goodK l k) (hx : l[k]? = some x) (hg : x.ob.good = true) : goodK l (k + 1) := fun j y hj hy => by
  rcases Nat.lt_or_ge j k with h' | h'
  · exact h j y h' hy
  · obtain rfl : j = k := by omega
    rw [hx] at hy
    injection hy with hy
    subst hy
    exact hg
theorem good_all {l : List Xo} (h : goodK l l.length) : (l.map Xo.ob).all Ob.good = true := by
  rw [List.all_eq_true]
  intro y hy
  obtain ⟨x, hx, rfl⟩ := List.mem_map.1 hy
  obtain ⟨j, hj, he⟩ := List.mem_iff_getElem.1 hx
  exact h j x hj (by rw [List.getElem?_eq_getElem hj, he])
theorem bad_all {l : List Xo} {k : Nat} {x : Xo} (hx : l[k]? = some x) (hg : x.ob.good = false) : (l.map Xo.ob).all Ob.good = false := by
  rw [Bool.eq_false_iff]
  intro h
  rw [List.all_eq_true] at h
  have := h x.ob (List.mem_map.2 ⟨x, List.mem_of_getElem? hx, rfl⟩)
  rw [hg] at this
  cases this
theorem obL_len {l : List Xo} {k : Nat} (h : goodK l k) (hk : k ≤ l.length) : (obL (l.take k)).length ≤ 1004 * k := by
  unfold obL
  have := obsB_length ((l.take k).map Xo.ob) (by
    intro y hy
    obtain ⟨x, hx, rfl⟩ := List.mem_map.1 hy
    obtain ⟨j, hj, he⟩ := List.mem_iff_getElem.1 hx
    rw [List.length_take] at hj
    rw [List.getElem_take] at he
    exact h j x (by omega) (by rw [List.getElem?_eq_getElem (by omega), he]))
  rw [List.length_map, List.length_take] at this
  omega
theorem hd22_put (s : List UInt8) (m : Nat) : ([32, 0, 0, 0] ++ s).take 2 ++ toBe 2 m ++ ([32, 0, 0, 0] ++ s).drop 4 = [32, 0] ++ toBe 2 m ++ s := rfl

set_option maxHeartbeats 4000000 in
theorem put22_any (A : Option Addr) (n c : Nat) (l : List Xo) (w : World) (hr : Row w w.heap.size 3 A n (xos l)) (hok : ∀ x ∈ l, x.ok w) (hn : n ≤ 1000000) :
    Calls Tryd.prog 41 #[.slice A n c] w fun e w' => ∃ A' c', e = .returned (.tuple #[.slice A' (ext22 (l.map Xo.ob)).1.length c', .int .i64 (ext22 (l.map Xo.ob)).2]) ∧ Own w' w.heap.size 5 1 A' (ext22 (l.map Xo.ob)).1.length c' (bv (ext22 (l.map Xo.ob)).1) ∧ Below w.heap.size w w' := by
  have hlen := xo_len hr
  have HR := Lib.hid hr
  have HOK := Lib.hid hok
  have HLN := Lib.hid hlen
  clear hr hok hlen
  have ho0 := Own.made (base := w.heap.size) (e := 5) (n := 4) (sz := 1) w #[.int .u8 32, .int .u8 0, .int .u8 0, .int .u8 0] (Nat.le_refl _) (by simp only [maxLen]; omega) rfl
  have hal := alloc_below w (.cells #[.int .u8 32, .int .u8 0, .int .u8 0, .int .u8 0] 5)
  have hs0 : (w.alloc (.cells #[.int .u8 32, .int .u8 0, .int .u8 0, .int .u8 0] 5)).heap.size = w.heap.size + 1 := by simp
  have HO0 := Lib.hid ho0
  have HAL := Lib.hid hal
  have HS0 := Lib.hid hs0
  clear ho0 hal hs0
  obtain ⟨g0, hg0⟩ : ∃ g, w.heap.size = g := ⟨_, rfl⟩
  have HG0 := Lib.hid hg0
  go_enter Tryd.func41, Tryd.ntmps41
  go_upto_region 2 with (refine wpList_box_blk (by rfl) 121 _ rfl [.slice (some ⟨g0, 0, none⟩) 4 4] rfl ?_; intro w1 hb1 hB1 hs1)
  have hs0 := HS0.out
  have hal := HAL.out
  have ho1 := HO0.out.below hB1
  rw [hs0] at hb1
  rw [hg0] at hb1 ho1 hs0
  obtain ⟨gw, hgw⟩ : ∃ g, g0 + 1 = g := ⟨_, rfl⟩
  rw [hgw] at hb1 ⊢
  have HGW := Lib.hid hgw
  have HW1 := Lib.hid hb1
  have HO1 := Lib.hid (show Own w1 g0 5 1 (some ⟨g0, 0, none⟩) 4 4 (bv ([32, 0, 0, 0] ++ obL (l.take 0))) from ho1)
  have HB1 := Lib.hid (show Below w.heap.size w w1 from hal.trans (hB1.mono (by omega)))
  have HBG := Lib.hid (show Below g0 w w1 by rw [← hg0]; exact hal.trans (hB1.mono (by omega)))
  clear hb1 ho1 hs0 hal hB1 hs1 hgw hg0
  go_wp2_with fail
  go_loopw [15] (fun i wr => ∃ (k q : Nat) (A2 : Option Addr) (c2 : Nat), k ≤ n ∧ i = .int .i64 (k : Nat) ∧ goodK l k ∧ q = 4 + (obL (l.take k)).length ∧ Blk wr gw 121 [.slice A2 q c2] ∧ Own wr g0 5 1 A2 q c2 (bv ([32, 0, 0, 0] ++ obL (l.take k))) ∧ Below g0 w wr) (fun i _ => n - (intOf i).toNat)
  case atStart => exact ⟨0, 4, some ⟨g0, 0, none⟩, 4, by omega, rfl, fun j x h => by omega, rfl, HW1.out, HO1.out, HBG.out⟩
  case round =>
    obtain ⟨k, q, A2, c2, hk, rfl, hgd, hq, hwb, hob, hbe⟩ := hrel
    have HGD := Lib.hid hgd
    have HQ := Lib.hid hq
    have HWB := Lib.hid hwb
    have HOB := Lib.hid hob
    have HBE := Lib.hid hbe
    have hqn : q ≤ 4 + 1004 * k := by
      have := obL_len hgd (by have := HLN.out; omega)
      omega
    clear hgd hq hwb hob hbe
    by_cases hlt : k < n
    · obtain ⟨x, hx⟩ : ∃ x, l[k]? = some x := ⟨_, List.getElem?_eq_getElem (by have := HLN.out; omega)⟩
      have hxo := HOK.out x (List.mem_of_getElem? hx)
      have HXO := Lib.hid hxo
      have HX := Lib.hid hx
      obtain ⟨b, o, hA, hb, a0, a1, a2⟩ := xo_row (HR.out.below (show Below w.heap.size w wr by have := HBE.out; rw [← HG0.out] at this; exact this)) k x hx
      subst hA
      have hkn : (k : Int) < (n : Int) := by omega
      clear hx hxo
      go_upto_region 5 with (first
        | (refine wpList_alloc_blk (by rfl) 80 rfl (Xo.cells ⟨0, 0, none, 0, 0, []⟩) zeroXo ?_; intro w2 hb2 hB2 hs2)
        | (refine wpList_store_all (by rfl) 80 _ _ rfl wr.heap.size x.cells rfl rfl 80 _ hb2 (sizeXo _) rfl (oneXo _) ?_; intro w3 hb3 hg3 hs3))
      have hwr0 : g0 ≤ wr.heap.size := by have := HBE.out.size; have := HG0.out; omega
      have hB3 : Below wr.heap.size wr w3 := bgrown hB2 hg3 hB2.size (Nat.le_refl _)
      replace HWB := Lib.hid (HWB.out.on hB3)
      replace HOB := Lib.hid (HOB.out.below hB3)
      replace HBE := Lib.hid (bthenB HBE.out hB3 (by have := HBE.out.size; have := HG0.out; omega))
      have HXO3 := Lib.hid (HXO.out.on (show Below w.heap.size w w3 by have := HBE.out; rw [← HG0.out] at this; exact this))
      obtain ⟨gx, hgx⟩ : ∃ g, wr.heap.size = g := ⟨_, rfl⟩
      rw [hgx] at hb3
      try rw [hgx]
      have HBX := Lib.hid hb3
      have hgx2 : g0 ≤ gx := by rw [← hgx]; exact hwr0
      clear hb2 hB2 hs2 hb3 hg3 hs3 hB3 hgx a0 a1 a2 hwr0
      have d2 : w3.cell? ⟨gx, 2, none⟩ = some (.slice x.A x.n x.c) := HBX.out.cell 2
      by_cases hbig : 1000 < x.n
      · have hbi : (1000 : Int) < (x.n : Int) := by omega
        have HV : Hid (ext22 (l.map Xo.ob) = ([], 1)) := Lib.hid (by unfold ext22; rw [if_neg (by rw [bad_all HX.out (show x.ob.good = false by unfold Ob.good Xo.ob; simp; intro h; have := HXO.out.len; omega)]; decide)])
        go_wp2_with fail
        go_ret2
        exact ⟨none, 0, by rw [HV.out]; rfl, by rw [HV.out]; exact Own.nil _ _ _ _ _, by rw [HG0.out]; exact HBE.out⟩
      · have hbi : ¬ (1000 : Int) < (x.n : Int) := by omega
        by_cases h4 : x.n % 4 = 0
        · have h4i : ((x.n : Int) % 4 != 0) = false := by simp; omega
          have HGO : Hid (x.ob.good = true) := Lib.hid (by unfold Ob.good Xo.ob; simp; have := HXO.out.len; omega)
          clear h4
          have hbx := HBX.out
          go_wp2_with (refine wpList_load_blk (by rfl) 80 _ rfl gx rfl 80 _ _ hbx Tryd.underlying80 rfl (sizeXo _) ?_)
          refine (object_any g0 g0 gw A2 q c2 ([32, 0, 0, 0] ++ obL (l.take k)) x w3 HWB.out HOB.out (Nat.le_refl _) (by have := HGW.out; omega) (by have := HBX.out.lt; omega) (by omega) HXO3.out (by have := HXO.out.row.below (show Below w.heap.size w w3 by have := HBE.out; rw [← HG0.out] at this; exact this); rw [HG0.out] at this; exact this) (by omega)).mono ?_
          rintro e w4 ⟨rfl, A4, c4, hw4, ho4, hb4, hk4⟩
          clear hbx d2
          go_wp2_with fail
          go_roundw
          case rel =>
            refine ⟨k + 1, q + (x.n + 4), A4, c4, by omega, by simp, goodK_succ HGD.out HX.out HGO.out, ?_, hw4, ?_, HBE.out.trans hb4⟩
            · rw [obL_snoc l k x HX.out, List.length_append, obB_length, HQ.out]
              have := HXO.out.len
              show _ = 4 + (_ + (x.body.length + 4))
              omega
            · rw [obL_snoc l k x HX.out, ← List.append_assoc]
              exact ho4
          case measure => simp [intOf]; omega
        · have h4i : ((x.n : Int) % 4 != 0) = true := by simp; omega
          have HV : Hid (ext22 (l.map Xo.ob) = ([], 1)) := Lib.hid (by unfold ext22; rw [if_neg (by rw [bad_all HX.out (show x.ob.good = false by unfold Ob.good Xo.ob; simp; intro h; have := HXO.out.len; omega)]; decide)])
          clear h4
          go_wp2_with fail
          go_ret2
          exact ⟨none, 0, by rw [HV.out]; rfl, by rw [HV.out]; exact Own.nil _ _ _ _ _, by rw [HG0.out]; exact HBE.out⟩
    · have hke : k = n := by omega
      subst hke
      have hall := good_all (by have := HGD.out; rw [← HLN.out] at this; exact this)
      obtain ⟨s, hs⟩ : ∃ s, obL (l.take k) = s := ⟨_, rfl⟩
      have hs2 : obsB (l.map Xo.ob) = s := by
        rw [← hs, ← HLN.out, List.take_length]
        rfl
      have HV : Hid (ext22 (l.map Xo.ob) = (hd22 s, 0)) := Lib.hid (by unfold ext22; rw [if_pos hall, hs2])
      rw [hs] at HOB HQ
      have HHL := Lib.hid (show (hd22 s).length = q by rw [hd22_length, HQ.out])
      obtain ⟨S, hS⟩ : ∃ S, [32, 0, 0, 0] ++ s = S := ⟨_, rfl⟩
      have HSS := Lib.hid hS
      rw [hS] at HOB
      have HSL := Lib.hid (show S.length = q by rw [← hS, HQ.out]; simp; omega)
      obtain ⟨m, hm⟩ : ∃ m, 65535 - rawN S = m := ⟨_, rfl⟩
      have hm2 : m ≤ 65535 := by omega
      have HM := Lib.hid hm
      have HHD := Lib.hid (show S.take 2 ++ toBe 2 m ++ S.drop 4 = hd22 s by rw [← hS, ← hm, ← hS]; rfl)
      have HG0W := Lib.hid (show g0 ≤ wr.heap.size by have := HWB.out.lt; have := HGW.out; omega)
      clear hs hs2 hall hS hm
      go_wp2_with fail
      refine wp_region_rel (fun A B => A.grownBy B none) (fun A => grown_refl A _) (fun A B C h k => grown_trans h k) (relAt (List.cons (fun v _ => v = .pointer (some ⟨gw, 0, none⟩)) (List.cons (fun v _ => v = .pointer (some ⟨gw, 0, none⟩)) (List.cons (fun v _ => v = .pointer (some ⟨gw, 0, none⟩)) (List.cons (fun v _ => v = .pointer (some ⟨gw, 0, none⟩)) (List.cons (fun v _ => v = .slice A2 q c2) (List.cons (fun v _ => v = .pointer (some ⟨gw, 0, none⟩)) (List.cons (fun v _ => v = .pointer (some ⟨gw, 0, none⟩)) (List.cons (fun v _ => v = .pointer (some ⟨gw, 0, none⟩)) (List.cons (fun v _ => v = .pointer (some ⟨gw, 0, none⟩)) (List.cons (fun v _ => v = .slice A2 q c2) (List.cons (fun v W => ∃ g, v = .slice (some ⟨g, 0, none⟩) 1 1 ∧ Row W W.heap.size 1 (some ⟨g, 0, none⟩) 1 [.slice A2 q c2]) (List.cons (fun v _ => v = .int .u16 (m : Nat)) (List.cons (fun v _ => v = .int .u64 (m : Nat)) (List.cons (fun v W => ∃ A' c', v = .tuple #[.slice A' q c', .bool true] ∧ Own W wr.heap.size 5 1 A' q c' (bv (hd22 s))) (List.cons (fun v W => ∃ A' c', v = .tuple #[.slice A' q c', .bool true] ∧ Own W wr.heap.size 5 1 A' q c' (bv (hd22 s))) (List.cons (fun v W => ∃ A' c', v = .slice A' q c' ∧ Own W wr.heap.size 5 1 A' q c' (bv (hd22 s))) (List.cons (fun v _ => v = .bool true) (List.cons (fun v W => ∃ A' c', v = .slice A' q c' ∧ Own W wr.heap.size 5 1 A' q c' (bv (hd22 s))) (List.cons (fun v _ => v = .bool true) ([]))))))))))))))))))))) (MonoL.at_ (.cons (mono_val _) (.cons (mono_val _) (.cons (mono_val _) (.cons (mono_val _) (.cons (mono_val _) (.cons (mono_val _) (.cons (mono_val _) (.cons (mono_val _) (.cons (mono_val _) (.cons (mono_val _) (.cons (fun _ _ _ ⟨g, h1, h2⟩ k => ⟨g, h1, (h2.below (grow_below k)).more k.size⟩) (.cons (mono_val _) (.cons (mono_val _) (.cons (fun _ _ _ ⟨X, c, hv, h⟩ hg => ⟨X, c, hv, h.below (grow_below hg)⟩) (.cons (fun _ _ _ ⟨X, c, hv, h⟩ hg => ⟨X, c, hv, h.below (grow_below hg)⟩) (.cons (fun _ _ _ ⟨X, c, hv, h⟩ hg => ⟨X, c, hv, h.below (grow_below hg)⟩) (.cons (mono_val _) (.cons (fun _ _ _ ⟨X, c, hv, h⟩ hg => ⟨X, c, hv, h.below (grow_below hg)⟩) (.cons (mono_val _) .nil)))))))))))))))))))) (by kernel_rfl) (by kernel_rfl) ⟨?_, ?_, ?_, ?_, ?_, ?_, ?_, ?_, ?_, ?_, ?_, ?_, ?_, ?_, ?_, ?_, ?_, ?_, ?_, trivial⟩ ?_
      · intro a vs W hX hR he hf K hK
        rw [if_pos (wanted_none rfl)]
        have e4 : a.eval (.tmp 4) = .pointer (some ⟨gw, 0, none⟩) := hf 4 (by kernel_rfl)
        refine wp_value (v := .pointer (some ⟨gw, 0, none⟩)) ?_ (hK _ _ rfl (grown_refl W _))
        simp only [execOp, e4]
        try go_simp
        try (first | rfl | omega | (simp only [IntKind.wrap_i64, IntKind.wrap_u8, IntKind.wrap_u64, IntKind.wrap_u16, IntKind.wrap_u32]; omega) | (rw [Int.tmod_eq_emod_of_nonneg (by omega)]) | (rw [Int.tmod_eq_emod_of_nonneg (by omega)]; omega))
      · intro a vs W hX hR he hf K hK
        rw [if_pos (wanted_none rfl)]
        have e35 : a.eval (.tmp 35) = .pointer (some ⟨gw, 0, none⟩) := (he 0 35 (by kernel_rfl) rfl).trans (hR 0 (by kernel_rfl))
        refine wp_value (v := .pointer (some ⟨gw, 0, none⟩)) ?_ (hK _ _ rfl (grown_refl W _))
        simp only [execOp, e35]
        try go_simp
        try (first | rfl | omega | (simp only [IntKind.wrap_i64, IntKind.wrap_u8, IntKind.wrap_u64, IntKind.wrap_u16, IntKind.wrap_u32]; omega) | (rw [Int.tmod_eq_emod_of_nonneg (by omega)]) | (rw [Int.tmod_eq_emod_of_nonneg (by omega)]; omega))
      · intro a vs W hX hR he hf K hK
        rw [if_pos (wanted_none rfl)]
        have e36 : a.eval (.tmp 36) = .pointer (some ⟨gw, 0, none⟩) := (he 1 36 (by kernel_rfl) rfl).trans (hR 1 (by kernel_rfl))
        refine wp_value (v := .pointer (some ⟨gw, 0, none⟩)) ?_ (hK _ _ rfl (grown_refl W _))
        simp only [execOp, e36]
        try go_simp
        try (first | rfl | omega | (simp only [IntKind.wrap_i64, IntKind.wrap_u8, IntKind.wrap_u64, IntKind.wrap_u16, IntKind.wrap_u32]; omega) | (rw [Int.tmod_eq_emod_of_nonneg (by omega)]) | (rw [Int.tmod_eq_emod_of_nonneg (by omega)]; omega))
      · intro a vs W hX hR he hf K hK
        rw [if_pos (wanted_none rfl)]
        have e37 : a.eval (.tmp 37) = .pointer (some ⟨gw, 0, none⟩) := (he 2 37 (by kernel_rfl) rfl).trans (hR 2 (by kernel_rfl))
        refine wp_value (v := .pointer (some ⟨gw, 0, none⟩)) ?_ (hK _ _ rfl (grown_refl W _))
        simp only [execOp, e37]
        try go_simp
        try (first | rfl | omega | (simp only [IntKind.wrap_i64, IntKind.wrap_u8, IntKind.wrap_u64, IntKind.wrap_u16, IntKind.wrap_u32]; omega) | (rw [Int.tmod_eq_emod_of_nonneg (by omega)]) | (rw [Int.tmod_eq_emod_of_nonneg (by omega)]; omega))
      · intro a vs W hX hR he hf K hK
        rw [if_pos (wanted_none rfl)]
        have e38 : a.eval (.tmp 38) = .pointer (some ⟨gw, 0, none⟩) := (he 3 38 (by kernel_rfl) rfl).trans (hR 3 (by kernel_rfl))
        have hbW := bthen (below_drew _) (grow_below hX)
        have hc : W.cell? ⟨gw, 0, none⟩ = some (.slice A2 q c2) := ((HWB.out.on hbW).cell 0).trans (rfl : [Value.slice A2 q c2][0]? = some (.slice A2 q c2))
        refine wp_value (v := _) ?_ (hK _ _ rfl (grown_refl W _))
        simp only [execOp, e38]
        try go_simp
      · intro a vs W hX hR he hf K hK
        rw [if_pos (wanted_none rfl)]
        have e4 : a.eval (.tmp 4) = .pointer (some ⟨gw, 0, none⟩) := hf 4 (by kernel_rfl)
        refine wp_value (v := .pointer (some ⟨gw, 0, none⟩)) ?_ (hK _ _ rfl (grown_refl W _))
        simp only [execOp, e4]
        try go_simp
        try (first | rfl | omega | (simp only [IntKind.wrap_i64, IntKind.wrap_u8, IntKind.wrap_u64, IntKind.wrap_u16, IntKind.wrap_u32]; omega) | (rw [Int.tmod_eq_emod_of_nonneg (by omega)]) | (rw [Int.tmod_eq_emod_of_nonneg (by omega)]; omega))
      · intro a vs W hX hR he hf K hK
        rw [if_pos (wanted_none rfl)]
        have e40 : a.eval (.tmp 40) = .pointer (some ⟨gw, 0, none⟩) := (he 5 40 (by kernel_rfl) rfl).trans (hR 5 (by kernel_rfl))
        refine wp_value (v := .pointer (some ⟨gw, 0, none⟩)) ?_ (hK _ _ rfl (grown_refl W _))
        simp only [execOp, e40]
        try go_simp
        try (first | rfl | omega | (simp only [IntKind.wrap_i64, IntKind.wrap_u8, IntKind.wrap_u64, IntKind.wrap_u16, IntKind.wrap_u32]; omega) | (rw [Int.tmod_eq_emod_of_nonneg (by omega)]) | (rw [Int.tmod_eq_emod_of_nonneg (by omega)]; omega))
      · intro a vs W hX hR he hf K hK
        rw [if_pos (wanted_none rfl)]
        have e41 : a.eval (.tmp 41) = .pointer (some ⟨gw, 0, none⟩) := (he 6 41 (by kernel_rfl) rfl).trans (hR 6 (by kernel_rfl))
        refine wp_value (v := .pointer (some ⟨gw, 0, none⟩)) ?_ (hK _ _ rfl (grown_refl W _))
        simp only [execOp, e41]
        try go_simp
        try (first | rfl | omega | (simp only [IntKind.wrap_i64, IntKind.wrap_u8, IntKind.wrap_u64, IntKind.wrap_u16, IntKind.wrap_u32]; omega) | (rw [Int.tmod_eq_emod_of_nonneg (by omega)]) | (rw [Int.tmod_eq_emod_of_nonneg (by omega)]; omega))
      · intro a vs W hX hR he hf K hK
        rw [if_pos (wanted_none rfl)]
        have e42 : a.eval (.tmp 42) = .pointer (some ⟨gw, 0, none⟩) := (he 7 42 (by kernel_rfl) rfl).trans (hR 7 (by kernel_rfl))
        refine wp_value (v := .pointer (some ⟨gw, 0, none⟩)) ?_ (hK _ _ rfl (grown_refl W _))
        simp only [execOp, e42]
        try go_simp
        try (first | rfl | omega | (simp only [IntKind.wrap_i64, IntKind.wrap_u8, IntKind.wrap_u64, IntKind.wrap_u16, IntKind.wrap_u32]; omega) | (rw [Int.tmod_eq_emod_of_nonneg (by omega)]) | (rw [Int.tmod_eq_emod_of_nonneg (by omega)]; omega))
      · intro a vs W hX hR he hf K hK
        rw [if_pos (wanted_none rfl)]
        have e43 : a.eval (.tmp 43) = .pointer (some ⟨gw, 0, none⟩) := (he 8 43 (by kernel_rfl) rfl).trans (hR 8 (by kernel_rfl))
        have hbW := bthen (below_drew _) (grow_below hX)
        have hc : W.cell? ⟨gw, 0, none⟩ = some (.slice A2 q c2) := ((HWB.out.on hbW).cell 0).trans (rfl : [Value.slice A2 q c2][0]? = some (.slice A2 q c2))
        refine wp_value (v := _) ?_ (hK _ _ rfl (grown_refl W _))
        simp only [execOp, e43]
        try go_simp
      · intro a vs W hX hR he hf K hK
        rw [if_pos (wanted_none rfl)]
        have e44 : a.eval (.tmp 44) = .slice A2 q c2 := (he 9 44 (by kernel_rfl) rfl).trans (hR 9 (by kernel_rfl))
        have f44 := e44
        simp only [Act.eval, Array.getD_eq_getD_getElem?] at f44
        refine wp_value (v := .slice (some ⟨W.heap.size, 0, none⟩) 1 1) (w' := W.alloc (.cells #[.slice A2 q c2] 22)) ?_ (hK _ _ ⟨_, rfl, row_vals22 W #[.slice A2 q c2] 1 _ rfl rfl⟩ (World.grownBy_alloc _ _ _))
        simp only [execOp, f44]
        go_simp
      · intro a vs W hX hR he hf K hK
        rw [if_pos (wanted_none rfl)]
        have e45 := he 10 45 (by kernel_rfl) rfl
        have p45 := hR 10 (by kernel_rfl)
        change (fun v W => ∃ g, v = .slice (some ⟨g, 0, none⟩) 1 1 ∧ Row W W.heap.size 1 (some ⟨g, 0, none⟩) 1 [.slice A2 q c2]) (vs 10) W at p45
        have hbW := bthen (below_drew _) (grow_below hX)
        obtain ⟨g, hv, hrw⟩ := p45
        rw [hv] at e45
        refine wp_enter (f := 45) (args := #[.slice (some ⟨g, 0, none⟩) 1 1]) (by simp only [execOp, e45]; go_simp; simpa [Act.eval] using e45) ((of_any (some ⟨g, 0, none⟩) 1 1 [⟨A2, q, c2, S⟩] W hrw (by intro z hz; obtain rfl := List.mem_singleton.1 hz; exact (HOB.out.below hbW).ok) (by omega) (by show (flat [_]).length ≤ _; have := HSL.out; simp [flat]; omega)).mono ?_)
        rintro q' w' ⟨rfl, hb⟩
        rw [show flat [(⟨A2, q, c2, S⟩ : Bs)] = S by simp [flat], HM.out]
        exact ⟨_, rfl, hK _ _ rfl (below_grow hb _)⟩
      · intro a vs W hX hR he hf K hK
        rw [if_pos (wanted_none rfl)]
        have e46 : a.eval (.tmp 46) = .int .u16 (m : Nat) := (he 11 46 (by kernel_rfl) rfl).trans (hR 11 (by kernel_rfl))
        refine wp_value (v := .int .u64 (m : Nat)) ?_ (hK _ _ rfl (grown_refl W _))
        simp only [execOp, e46]
        try go_simp
        try (first | rfl | omega | (simp only [IntKind.wrap_i64, IntKind.wrap_u8, IntKind.wrap_u64, IntKind.wrap_u16, IntKind.wrap_u32]; omega) | (rw [Int.tmod_eq_emod_of_nonneg (by omega)]) | (rw [Int.tmod_eq_emod_of_nonneg (by omega)]; omega))
      · intro a vs W hX hR he hf K hK
        rw [if_pos (wanted_none rfl)]
        have e39 : a.eval (.tmp 39) = .slice A2 q c2 := (he 4 39 (by kernel_rfl) rfl).trans (hR 4 (by kernel_rfl))
        have e47 : a.eval (.tmp 47) = .int .u64 (m : Nat) := (he 12 47 (by kernel_rfl) rfl).trans (hR 12 (by kernel_rfl))
        have hbW := bthen (below_drew _) (grow_below hX)
        have hob := HOB.out.below hbW
        refine wp_enter (f := 46) (args := #[.slice A2 q c2, .int .i64 2, .int .i64 2, .int .u64 (m : Nat)]) (by simp only [execOp, e39, e47]; go_simp; exact ⟨by simpa [Act.eval] using e39, by simpa [Act.eval] using e47⟩) ((put_yes A2 q c2 S 2 2 (m : Nat) W hob.row hob.le hob.cap (by omega) (by omega) (by omega) (by omega) (by have := HQ.out; omega) (by omega) (by show (m : Int) < 256 ^ 2; omega)).mono ?_)
        rintro q' w' ⟨A3, c3, rfl, hown, hb⟩
        rw [show ((m : Nat) : Int).toNat = m from rfl] at hown
        rw [show S.take (2 : Int).toNat ++ toBe (2 : Int).toNat m ++ S.drop ((2 : Int).toNat + (2 : Int).toNat) = hd22 s from HHD.out] at hown
        exact ⟨_, rfl, hK _ _ ⟨A3, c3, rfl, hown.mono hbW.size⟩ (below_grow hb _)⟩
      · intro a vs W hX hR he hf K hK
        rw [if_pos (wanted_none rfl)]
        have e48 := he 13 48 (by kernel_rfl) rfl
        have p48 := hR 13 (by kernel_rfl)
        change (fun v W => ∃ A' c', v = .tuple #[.slice A' q c', .bool true] ∧ Own W wr.heap.size 5 1 A' q c' (bv (hd22 s))) (vs 13) W at p48
        refine wp_value (v := _) ?_ (hK _ _ p48 (grown_refl W _))
        simp only [execOp, e48]
        try go_simp
      · intro a vs W hX hR he hf K hK
        rw [if_pos (wanted_none rfl)]
        have e34 := he 14 34 (by kernel_rfl) rfl
        have p34 := hR 14 (by kernel_rfl)
        change (fun v W => ∃ A' c', v = .tuple #[.slice A' q c', .bool true] ∧ Own W wr.heap.size 5 1 A' q c' (bv (hd22 s))) (vs 14) W at p34
        obtain ⟨A3, c3, hv, ho⟩ := p34
        rw [hv] at e34
        refine wp_value (v := .slice A3 q c3) ?_ (hK _ _ ⟨A3, c3, rfl, ho⟩ (grown_refl W _))
        simp only [execOp, e34]
        try go_simp
      · intro a vs W hX hR he hf K hK
        rw [if_pos (wanted_none rfl)]
        have e34 := he 14 34 (by kernel_rfl) rfl
        have p34 := hR 14 (by kernel_rfl)
        change (fun v W => ∃ A' c', v = .tuple #[.slice A' q c', .bool true] ∧ Own W wr.heap.size 5 1 A' q c' (bv (hd22 s))) (vs 14) W at p34
        obtain ⟨A3, c3, hv, ho⟩ := p34
        rw [hv] at e34
        refine wp_value (v := .bool true) ?_ (hK _ _ rfl (grown_refl W _))
        simp only [execOp, e34]
        try go_simp
      · intro a vs W hX hR he hf K hK
        rw [if_pos (wanted_none rfl)]
        have e49 := he 15 49 (by kernel_rfl) rfl
        have p49 := hR 15 (by kernel_rfl)
        change (fun v W => ∃ A' c', v = .slice A' q c' ∧ Own W wr.heap.size 5 1 A' q c' (bv (hd22 s))) (vs 15) W at p49
        refine wp_value (v := _) ?_ (hK _ _ p49 (grown_refl W _))
        simp only [execOp, e49]
        try go_simp
      · intro a vs W hX hR he hf K hK
        rw [if_pos (wanted_none rfl)]
        have e50 : a.eval (.tmp 50) = .bool true := (he 16 50 (by kernel_rfl) rfl).trans (hR 16 (by kernel_rfl))
        refine wp_value (v := .bool true) ?_ (hK _ _ rfl (grown_refl W _))
        simp only [execOp, e50]
        try go_simp
        try (first | rfl | omega | (simp only [IntKind.wrap_i64, IntKind.wrap_u8, IntKind.wrap_u64, IntKind.wrap_u16, IntKind.wrap_u32]; omega) | (rw [Int.tmod_eq_emod_of_nonneg (by omega)]) | (rw [Int.tmod_eq_emod_of_nonneg (by omega)]; omega))
      · intro vs w2 hX2 hR
        have q0 := hR 0 (by decide)
        have q1 := hR 1 (by decide)
        have q2 := hR 2 (by decide)
        have q3 := hR 3 (by decide)
        have q4 := hR 4 (by decide)
        have q5 := hR 5 (by decide)
        have q6 := hR 6 (by decide)
        have q7 := hR 7 (by decide)
        have q8 := hR 8 (by decide)
        have q9 := hR 9 (by decide)
        have q10 := hR 10 (by decide)
        have q11 := hR 11 (by decide)
        have q12 := hR 12 (by decide)
        have q13 := hR 13 (by decide)
        have q14 := hR 14 (by decide)
        have q15 := hR 15 (by decide)
        have q16 := hR 16 (by decide)
        have q17 := hR 17 (by decide)
        have q18 := hR 18 (by decide)
        change vs 0 = .pointer (some ⟨gw, 0, none⟩) at q0
        change vs 1 = .pointer (some ⟨gw, 0, none⟩) at q1
        change vs 2 = .pointer (some ⟨gw, 0, none⟩) at q2
        change vs 3 = .pointer (some ⟨gw, 0, none⟩) at q3
        change vs 4 = .slice A2 q c2 at q4
        change vs 5 = .pointer (some ⟨gw, 0, none⟩) at q5
        change vs 6 = .pointer (some ⟨gw, 0, none⟩) at q6
        change vs 7 = .pointer (some ⟨gw, 0, none⟩) at q7
        change vs 8 = .pointer (some ⟨gw, 0, none⟩) at q8
        change vs 9 = .slice A2 q c2 at q9
        change (fun v W => ∃ g, v = .slice (some ⟨g, 0, none⟩) 1 1 ∧ Row W W.heap.size 1 (some ⟨g, 0, none⟩) 1 [.slice A2 q c2]) (vs 10) w2 at q10
        change vs 11 = .int .u16 (m : Nat) at q11
        change vs 12 = .int .u64 (m : Nat) at q12
        change (fun v W => ∃ A' c', v = .tuple #[.slice A' q c', .bool true] ∧ Own W wr.heap.size 5 1 A' q c' (bv (hd22 s))) (vs 13) w2 at q13
        change (fun v W => ∃ A' c', v = .tuple #[.slice A' q c', .bool true] ∧ Own W wr.heap.size 5 1 A' q c' (bv (hd22 s))) (vs 14) w2 at q14
        change (fun v W => ∃ A' c', v = .slice A' q c' ∧ Own W wr.heap.size 5 1 A' q c' (bv (hd22 s))) (vs 15) w2 at q15
        change vs 16 = .bool true at q16
        change (fun v W => ∃ A' c', v = .slice A' q c' ∧ Own W wr.heap.size 5 1 A' q c' (bv (hd22 s))) (vs 17) w2 at q17
        change vs 18 = .bool true at q18
        simp only [putAll, Act.put, List.setIfInBounds_toArray, List.set_cons_zero, List.set_cons_succ, q0, q1, q2, q3, q4, q5, q6, q7, q8, q9, q11, q12, q16, q18]
        clear q0 q1 q2 q3 q4 q5 q6 q7 q8 q9 q11 q12 q16 q18
        clear hR
        obtain ⟨A5, c5, hv5, ho5⟩ := q17
        rw [hv5]
        go_wp2_with fail
        go_ret2
        exact ⟨A5, c5, by rw [HV.out]; simp only [HHL.out]; rfl, by rw [HV.out]; simp only [HHL.out]; exact ho5.mono (by rw [HG0.out]; exact HG0W.out), by rw [HG0.out]; exact bthenB HBE.out (bthen (below_drew _) (grow_below hX2)) HG0W.out⟩
end Go.Proofs.YtckbleiikldloaaDoor

/- What ext.Stack (layer 22) computes. No condition but sizes. -/
namespace Go.Proofs.YtckbleiikldloaaDoor
open Go.RowKit
set_option linter.unusedVariables false
set_option maxRecDepth 20000
set_option linter.unusedSimpArgs false

theorem ent_agg (w : World) (g : Nat) (x : Ent) (h : Blk w g 49 x.cells) : True := trivial
set_option maxHeartbeats 4000000 in
theorem stack22p_any (A : Option Addr) (n c : Nat) (l : List Ent) (w : World) (hr : Row w w.heap.size 4 A n (evs l)) (hf : ∀ x ∈ l, x.fit) (hn : n ≤ 1099511627776) :
    Calls Tryd.prog 19 #[.slice A n c] w fun e w' => ∃ A' c', e = .returned (.tuple #[.slice A' (stack22 l).1.length c', .int .i64 (stack22 l).2]) ∧ Own w' w.heap.size 5 1 A' (stack22 l).1.length c' (bv (stack22 l).1) ∧ Below w.heap.size w w' := by
  have hlen := ent_len hr
  by_cases h16 : 16 < n
  · have h16' : (16 : Int) < (n : Int) := by omega
    have hx : Hid (stack22 l = ([], 51)) := Lib.hid (by unfold stack22; rw [if_pos (by omega)])
    clear hr hf
    go_enter Tryd.func19, Tryd.ntmps19
    go_wp2_with fail
    go_ret2
    exact ⟨none, 0, by rw [hx.out]; rfl, by rw [hx.out]; exact Own.nil _ _ _ _ _, Below.refl _ _⟩
  · have h16' : ¬ (16 : Int) < (n : Int) := by omega
    have HR := Lib.hid hr
    have HF := Lib.hid hf
    have HL := Lib.hid hlen
    clear hr hf hlen
    go_enter Tryd.func19, Tryd.ntmps19
    go_upto_region 4 with (first
      | (refine wpList_alloc_blk (by rfl) 80 rfl (Xo.cells ⟨0, 0, none, 0, 0, []⟩) zeroXo ?_; intro w2 hb2 hB2 hs2)
      | (refine wpList_store_all (by rfl) 80 _ _ rfl w.heap.size (Xo.cells ⟨1, 1, none, 0, 0, []⟩) rfl rfl 80 _ hb2 (sizeXo _) rfl (oneXo _) ?_; intro w3 hb3 hg3 hs3))
    have hB3 : Below w.heap.size w w3 := bgrown hB2 hg3 hB2.size (Nat.le_refl _)
    obtain ⟨gx, hgx⟩ : ∃ g, w.heap.size = g := ⟨_, rfl⟩
    rw [hgx] at hb3
    try rw [hgx]
    have HGX := Lib.hid hgx
    have HB3 := Lib.hid (show Below gx w w3 by rw [← hgx]; exact hB3)
    have HBX := Lib.hid (show Blk w3 gx 80 [.int .u8 1, .int .u8 1, .slice none 0 0] from hb3)
    clear hb2 hB2 hs2 hb3 hg3 hs3 hB3 hgx
    go_wp2_with fail
    go_loopw [15] (fun i wr => ∃ (k q : Nat) (A2 : Option Addr) (c2 : Nat), k ≤ n ∧ i = .int .i64 (k : Nat) ∧ (∀ x ∈ l.take k, x.good) ∧ q = 4 * k ∧ Blk wr gx 80 [.int .u8 1, .int .u8 1, .slice A2 q c2] ∧ Own wr gx 5 1 A2 q c2 (bv ((l.take k).flatMap packL)) ∧ Below gx w wr) (fun i _ => n - (intOf i).toNat)
    case atStart => exact ⟨0, 0, none, 0, by omega, rfl, by simp, rfl, HBX.out, Own.nil _ _ _ _ _, HB3.out⟩
    case round =>
      obtain ⟨k, q, A2, c2, hk, rfl, hgd, hq, hwb, hob, hbe⟩ := hrel
      have HGD := Lib.hid hgd
      have HWB := Lib.hid hwb
      have HOB := Lib.hid hob
      have HBE := Lib.hid hbe
      have HQ := Lib.hid hq
      have hq16 : q ≤ 64 := by omega
      clear hgd hwb hob hbe hq
      by_cases hlt : k < n
      · obtain ⟨x, hx⟩ := get_ex l (k := k) (by rw [HL.out]; omega)
        have hxf := HF.out x (List.mem_of_getElem? hx)
        obtain ⟨b, o, rfl, hb, a0, a1, a2, a3⟩ := ent_row (HR.out.below (show Below w.heap.size w wr by have := HBE.out; rw [← HGX.out] at this; exact this)) k x hx
        have HS := Lib.hid (packs_snoc l k x hx)
        have HX := Lib.hid hx
        have HTK := Lib.hid (take_snoc l k x hx)
        have PK := fun W => pack_any x hxf W
        have hgl := HWB.out.lt
        obtain ⟨lb, cl, bt, tt⟩ := x
        dsimp only at a0 a1 a2 a3 PK
        by_cases hgo : (⟨lb, cl, bt, tt⟩ : Ent).good
        · have he : packE ⟨lb, cl, bt, tt⟩ = 0 := by unfold packE; rw [if_pos hgo]
          rw [he] at PK
          have HP := Lib.hid PK
          have HGO := Lib.hid hgo
          clear hx hxf PK he hgo
          go_wp2_with fail
          refine (HP.out _).mono ?_
          rintro e w2 ⟨⟨RA, rn, rc, rl⟩, rfl, hrok, hrl, hb2⟩
          obtain ⟨w1, hw1⟩ : ∃ q, (wr.alloc (.cells #[.int .i64 lb, .int .u8 cl, .bool bt, .int .u8 tt] 49)) = q := ⟨_, rfl⟩
          have hb1 : Below wr.heap.size wr w1 := by rw [← hw1]; exact alloc_below _ _
          try rw [hw1] at hb2
          dsimp only at hrl
          subst hrl
          have hrn : rn = 4 := by have := hrok.len; rw [packL_four HGO.out] at this; exact this.symm
          subst hrn
          have hb12 : Below wr.heap.size wr w2 := bthen hb1 hb2
          have HRK := Lib.hid hrok
          have hwb2 := HWB.out.on hb12
          have hob2 := HOB.out.below hb12
          have HWB2 := Lib.hid hwb2
          have HOB2 := Lib.hid hob2
          have HB12 := Lib.hid hb12
          have d2 : w2.cell? ⟨gx, 2, none⟩ = some (.slice A2 q c2) := hwb2.cell 2
          clear hrok hb1 hb2 hw1 hb12 hwb2 hob2 a0 a1 a2 a3
          dsimp only [Bs.v]
          go_wp2_with (first
            | (refine wpList_append2 (by rfl) _ _ rfl gx A2 q c2 _ rfl HOB2.out _ _ 4 rc (bv (packL ⟨lb, cl, bt, tt⟩)) rfl HRK.out.row (one_bv _) (by omega) (by have := HWB2.out.lt; omega) ?_; intro A5 c5 w5 hown5 hg5; have hw5 := HWB2.out.grown hg5 (row_ne2 HOB2.out HWB2.out (by decide)))
            | (refine wpList_store_sl (by rfl) _ _ rfl gx 2 A5 (q + 4) c5 rfl rfl 80 _ _ hw5 rfl ?_; intro w6 hb6 hg6 hs6))
          go_roundw
          case rel =>
            have hwr0 : gx ≤ wr.heap.size := by have := HWB.out.lt; omega
            refine ⟨k + 1, q + 4, A5, c5, by omega, by simp, ?_, by have := HQ.out; omega, hb6, ?_, ?_⟩
            · intro y hy
              rw [HTK.out] at hy
              rcases List.mem_append.1 hy with h | h
              · exact HGD.out y h
              · simp only [List.mem_singleton] at h
                subst h
                exact HGO.out
            · rw [HS.out, bv_append]
              exact own_other hown5 hw5 (by decide) hg6
            · exact bgrown (bgrown' (HBE.out.trans (HB12.out.mono hwr0)) hg5 (by have := HWB2.out.lt; omega) (fun g hg => (HOB2.out.lt g hg).1)) hg6 (by have := hw5.lt; omega) (Nat.le_refl _)
          case measure => simp [intOf]; omega
        · have he : packE ⟨lb, cl, bt, tt⟩ = 1 := by unfold packE; rw [if_neg hgo]
          rw [he] at PK
          have HP := Lib.hid PK
          have hno : stack22 l = ([], 1) := by
            unfold stack22
            rw [if_neg (by rw [HL.out]; omega), if_neg]
            intro hall
            have := List.all_eq_true.1 hall _ (List.mem_of_getElem? hx)
            exact hgo (by simpa using this)
          have HNO := Lib.hid hno
          clear hx hxf PK he hgo hno
          go_wp2_with fail
          refine (HP.out _).mono ?_
          rintro e w2 ⟨⟨RA, rn, rc, rl⟩, rfl, hrok, hrl, hb2⟩
          have HB2 := Lib.hid (bthen (alloc_below wr _) hb2)
          clear a0 a1 a2 a3 hrl hrok hb2
          dsimp only [Bs.v]
          go_wp2_with fail
          go_ret2
          exact ⟨none, 0, by rw [HNO.out]; rfl, by rw [HNO.out]; exact Own.nil _ _ _ _ _, by rw [HGX.out]; exact HBE.out.trans (HB2.out.mono (by have := HWB.out.lt; omega))⟩
      · obtain rfl : k = n := by omega
        have hta : l.take k = l := List.take_of_length_le (by rw [HL.out]; omega)
        rw [hta] at HGD HOB
        have hx : stack22 l = (hd22 (obB ⟨1, 1, l.flatMap packL⟩), 0) := by
          unfold stack22
          rw [if_neg (by rw [HL.out]; omega), if_pos]
          exact List.all_eq_true.2 fun y hy => by simpa using HGD.out y hy
        have hsl : (l.flatMap packL).length = q := by rw [packs_len _ HGD.out, HL.out, HQ.out]
        obtain ⟨S, hS⟩ : ∃ S, l.flatMap packL = S := ⟨_, rfl⟩
        rw [hS] at hsl hx HOB
        have HSX := Lib.hid hx
        have hq4 := HQ.out
        have hext : ext22 [⟨1, 1, S⟩] = (hd22 (obB ⟨1, 1, S⟩), 0) := by
          unfold ext22
          rw [if_pos (by simp [Ob.good, hsl]; omega)]
          simp [obsB]
        have HX := Lib.hid hext
        have hbx := HWB.out
        have HXO : Hid (Xo.ok (wr.alloc (.cells #[.int .u8 1, .int .u8 1, .slice A2 q c2] 80)) ⟨1, 1, A2, q, c2, S⟩) := Lib.hid ⟨by simp, by simp, (HOB.out.alloc _).row, HOB.out.le, HOB.out.cap⟩
        clear hta hx hS hext hsl hq4
        go_wp2_with (refine wpList_load_blk (by rfl) 80 _ rfl gx rfl 80 _ _ hbx Tryd.underlying80 rfl (sizeXo ⟨1, 1, A2, q, c2, S⟩) ?_)
        refine (put22_any _ 1 1 [⟨1, 1, A2, q, c2, S⟩] _ (by rw [World.size_alloc]; exact Row.new (n := 1) (sz := 3) wr #[.int .u8 1, .int .u8 1, .slice A2 q c2] rfl) (by intro y hy; simp at hy; subst hy; exact HXO.out) (by omega)).mono ?_
        rintro e w3 ⟨A', c', rfl, hown', hb3⟩
        rw [show List.map Xo.ob [⟨1, 1, A2, q, c2, S⟩] = [⟨1, 1, S⟩] from rfl, HX.out] at hown' ⊢
        have HOW := Lib.hid hown'
        have HB5 := Lib.hid hb3
        clear hown' hb3 hbx
        go_wp2_with fail
        go_ret2
        exact ⟨A', c', by rw [HSX.out]; rfl, by rw [HSX.out]; exact HOW.out.mono (by have := HBE.out.size; have := HGX.out; simp; omega), by rw [HGX.out]; exact HBE.out.trans ((ballocd HB5.out).mono (by have := HWB.out.lt; omega))⟩

set_option maxHeartbeats 1000000 in
theorem stack22p_all (A : Option Addr) (n c : Nat) (l : List Ent) (w : World) (hr : Row w w.heap.size 4 A n (evs l)) (hf : ∀ x ∈ l, x.fit) (hn : n ≤ maxLen) :
    Calls Tryd.prog 19 #[.slice A n c] w fun e w' => ∃ A' c', e = .returned (.tuple #[.slice A' (stack22 l).1.length c', .int .i64 (stack22 l).2]) ∧ Own w' w.heap.size 5 1 A' (stack22 l).1.length c' (bv (stack22 l).1) ∧ Below w.heap.size w w' := by
  have hlen := ent_len hr
  unfold maxLen at hn
  by_cases h16 : 16 < n
  · have h16' : (16 : Int) < (n : Int) := by omega
    have hx : Hid (stack22 l = ([], 51)) := Lib.hid (by unfold stack22; rw [if_pos (by omega)])
    clear hr hf
    go_enter Tryd.func19, Tryd.ntmps19
    go_wp2_with fail
    go_ret2
    exact ⟨none, 0, by rw [hx.out]; rfl, by rw [hx.out]; exact Own.nil _ _ _ _ _, Below.refl _ _⟩
  · exact stack22p_any A n c l w hr hf (by omega)
end Go.Proofs.YtckbleiikldloaaDoor

/- A range over a function whose iterator keeps its own state in a captured variable (a cell), and ends where it is done or where a round says so. No condition. -/
namespace Go.Proofs.YtckbleiikldloaaDoor
open Go.RowKit Go.Shelf
set_option linter.unusedVariables false
set_option maxRecDepth 20000

section
variable {F : Fence} {n : Nat} {P : Program}

/-- what a caller's word must bear between two rounds: new blocks, and the iterator's own variable -/
structure Lets {α : Type} (Bx : Nat) (J : List α → World → Prop) : Prop where
  below : ∀ s W W', J s W → Below W.heap.size W W' → J s W'
  set : ∀ s W v, J s W → J s (W.setCell ⟨Bx, 0, none⟩ v)

/-- an iterator that ends where it is done, or where a round has said so, and goes on only where `go` holds of what came -/
def EndsD {α : Type} (F : Fence) (n : Nat) (P : Program) (g : Nat) (lb : Array Value) (encs : α → Array Value) (Kp : World → World → Prop) (go : α → Prop) (okx : List α → α → World → Prop) (Sn Sp : List α → Prop) (Bx : Nat) (w : World) : Prop :=
  ∀ (l : Nat) (J Jx : List α → World → Prop) (W : World), Below w.heap.size w W → Lets Bx J → (∀ s W, J s W → ∀ x ∈ s, go x) →
    (∀ pre x W1, J pre W1 → okx pre x W1 → YieldAt F (n - 1) P l (encs x) W1 fun e W' =>
      (e = .returned (.bool true) ∧ J (pre ++ [x]) W' ∧ Kp W1 W') ∨ (e = .returned (.bool false) ∧ Jx (pre ++ [x]) W')) →
    J [] W →
    CallsIn F n P g (#[.func (.yield l) #[] #[]] ++ lb) W fun e W' => (∃ v, e = .returned v) ∧ ((∃ xs, Sn xs ∧ J xs W') ∨ ∃ pre, Sp pre ∧ Jx pre W')

/-- the law: a loop over such an iterator (after the kit's law for a boxed loop variable) -/
theorem rangeD {α : Type} {g : Operand} {ps : Array Tmp} {assign body : Code} {Q : Exit → Act → World → Prop} {a : Act} {w : World}
    (hro : F.round = none) (h1 : 1 ≤ n) {gf : Nat} {lb : Array Value} (hg : a.eval g = .func (.func gf) #[] lb) (hFg : F.fn gf) (eg : ∀ args w, (callFunc gf args).run P w = .ok (.enter gf args) w)
    {encs : α → Array Value} {Kp : World → World → Prop} {ok : α → Prop} {okx : List α → α → World → Prop} {Sn Sp : List α → Prop} {Bx : Nat} {w0 : World} (hseq : EndsD F (n - 1) P gf lb encs Kp ok okx Sn Sp Bx w0) (hBx : Bx < w.heap.size)
    (hKt : ∀ {A B C : World}, Kp A B → Kp B C → Kp A C) (hKb : ∀ (W : World) (l : Nat) (o o' : Obj), w.heap.size ≤ l → W.heap[l]? = some o → o.isCells = false → o.isWalk = false → Kp W (W.putObj l o')) (hb0 : Below w0.heap.size w0 w) (hps : ∀ x, (encs x).size = ps.size)
    (I : List α → World → Prop) (Ix : Code → List α → World → Prop) (hI : OwnFrom w.heap.size I) (hIx : ∀ c, OwnFrom w.heap.size (Ix c)) (hIl : Lets Bx I) (hIg : ∀ s W, I s W → ∀ x ∈ s, ok x) (h0 : I [] w) (Ax : List α → α → Act → World → Prop) (hAx : ∀ pre x a', OwnFrom w.heap.size (fun (_ : Unit) W => Ax pre x a' W))
    (hassign : ∀ (l : Nat) (pre : List α) (x : α) (W : World) (K : Act → World → Prop), I pre W → okx pre x W → (∀ a' W', KeepsFrom w.heap.size W W' → Kp W W' → I pre W' → Ax pre x a' W' → K a' W') →
      assign.wpIn (F.inRound l) (n - 1 - 1) P (Exit.then K (fun _ _ _ => False)) { tmps := (ps.zip (encs x)).foldl (fun t (p, v) => t.setIfInBounds p v) a.tmps, defers := [] } W)
    (hbody : ∀ (l : Nat) (pre : List α) (x : α) (a' : Act) (W : World), w.heap.size ≤ l → (∃ r, W.heap[l]? = some (.loop r)) → I pre W → Ax pre x a' W → body.wpIn (F.inRound l) (n - 1 - 1) P (ownPostG w.heap.size Kp I Ix (pre ++ [x]) W) a' W)
    (hdone : ∀ (D : Nat) (xs : List α) (W : World), w.heap.size ≤ D → Sn xs → I xs W → W.heap[D]? = some (.deferred (some [])) → Q .normal { a with defers := { target := .collected D, args := #[] } :: a.defers } W)
    (hstop : ∀ (D : Nat) (c : Code) (pre : List α) (W : World), w.heap.size ≤ D → Sp pre → Ix c pre W → W.heap[D]? = some (.deferred (some [])) → c.wpIn F n P Q { a with defers := { target := .collected D, args := #[] } :: a.defers } W) :
    (Code.rangeFunc g ps assign body).wpIn F n P Q a w := by
  refine wpIn_rangeFunc ?_
  intro fn hfn
  rw [hro]
  obtain ⟨rec, hrec⟩ : ∃ rec : LoopState → Option Code → Loop, rec = fun st pe => { state := st, pending := pe, fn, tmps := a.tmps, params := ps, assign, body, defers := w.heap.size } := ⟨_, rfl⟩
  obtain ⟨W1, hW1⟩ : ∃ W1, (w.alloc (.deferred (some []))).alloc (.loop (rec .ready none)) = W1 := ⟨_, rfl⟩
  have hL1 : W1.heap[w.heap.size + 1]? = some (.loop (rec .ready none)) := by
    rw [← hW1]; have := World.alloc_heap_new (w.alloc (.deferred (some []))) (.loop (rec .ready none)); rwa [World.size_alloc] at this
  have hK1 : W1.heap[w.heap.size]? = some (.deferred (some [])) := by
    rw [← hW1]; exact (Below.heap_alloc _ _ _ (by simp)).trans (World.alloc_heap_new w _)
  have hI1 : I [] W1 := by rw [← hW1]; exact hI.alloc _ (hI.alloc _ h0)
  have hb1 : Below w0.heap.size w0 W1 := by
    rw [← hW1]; exact hb0.trans ((((Below.refl _ w).alloc (Nat.le_refl _) _).alloc (by simp) _).mono hb0.size)
  refine ⟨w.heap.size + 1, [{ target := .collected w.heap.size, args := #[] }], W1, { target := .fn (.func gf) lb, args := #[.func (.yield (w.heap.size + 1)) #[] #[]] }, W1, gf,
    #[.func (.yield (w.heap.size + 1)) #[] #[]] ++ lb, W1, ?_, ?_, ?_, ?_, fun _ => h1, ?_⟩
  · rw [← hW1, hrec]; exact run_enterLoop_outer _ _ _ _ _
  · simp only [resolve, hg]
    simp [go_sem]
  · intro f' hf'; simp [Target.leads] at hf'; subst hf'; exact hFg
  · simp [invoke, go_sem, eg]
  · -- THE ITERATOR's CONTRACT, AT THE CALLER's INVARIANT WITH THE TWO FACTS OF BOOK-KEEPING BESIDE IT
    refine (hseq (w.heap.size + 1)
      (fun pre W => I pre W ∧ W.heap[w.heap.size + 1]? = some (.loop (rec .ready none)) ∧ W.heap[w.heap.size]? = some (.deferred (some [])))
      (fun pre W => ∃ c, Ix c pre W ∧ W.heap[w.heap.size + 1]? = some (.loop (rec .done (some c))) ∧ W.heap[w.heap.size]? = some (.deferred (some [])))
      W1 hb1
      ⟨fun s A B hs hb => ⟨hIl.below s A B hs.1 hb, (hb.block _ (Array.getElem?_eq_some_iff.1 hs.2.1).1).trans hs.2.1, (hb.block _ (Array.getElem?_eq_some_iff.1 hs.2.2).1).trans hs.2.2⟩,
       fun s A v hs => ⟨hIl.set s A v hs.1, (Below.heap_setCell A ⟨Bx, 0, none⟩ v _ (by simp only; omega)).trans hs.2.1, (Below.heap_setCell A ⟨Bx, 0, none⟩ v _ (by simp only; omega)).trans hs.2.2⟩⟩
      (fun s W hs => hIg s W hs.1)
      ?_ ⟨hI1, hL1, hK1⟩).mono ?_
    · -- ONE ROUND
      rintro pre x W ⟨hi, hl, hk⟩ hox
      have hlt : w.heap.size + 1 < W.heap.size := (Array.getElem?_eq_some_iff.1 hl).1
      have hy := run_yield (P := P) (args := encs x) hl (by rw [hrec]; exact hps x)
      rw [hrec] at hy
      refine ⟨fn, _, assign, body, hy, roundIn_of_wpIn hfn (hassign _ pre x W _ hi hox ?_)⟩
      clear hy
      intro a' Wa hkfa hkpa hia hax
      -- THE ASSIGN CODE MAY HAVE LAID BLOCKS (a loop variable that an inner function captures is boxed): the two blocks of book-keeping lie as they lay
      replace hl := hkfa.same _ _ (by omega) hl rfl
      replace hk := hkfa.same _ _ (Nat.le_refl _) hk rfl
      replace hlt : w.heap.size + 1 < Wa.heap.size := (Array.getElem?_eq_some_iff.1 hl).1
      replace hi := hia
      clear hia
      revert hkpa hkfa
      generalize W = Wb
      intro hkfa hkpa
      obtain ⟨W, rfl⟩ : ∃ W, W = Wa := ⟨_, rfl⟩
      refine ⟨_, run_beginRound hl (by rw [hrec]), ?_⟩
      have hl2 : (W.putObj (w.heap.size + 1) (.loop { rec .ready none with state := .busy })).heap[w.heap.size + 1]? = some (.loop { rec .ready none with state := .busy }) := World.putObj_heap_same hlt
      have hk2 : (W.putObj (w.heap.size + 1) (.loop { rec .ready none with state := .busy })).heap[w.heap.size]? = some (.deferred (some [])) := (World.putObj_heap_other (by omega)).trans hk
      have hw2 : Kp W (W.putObj (w.heap.size + 1) (.loop { rec .ready none with state := .busy })) := hKb _ _ _ _ (by omega) hl rfl rfl
      refine wpIn_mono (hbody _ pre x a' _ (by omega) ⟨_, hl2⟩ (hI.putObj _ hi (by omega) hl rfl) ((hAx pre x a').putObj (s := ()) _ hax (by omega) hl rfl)) ?_
      have fin : ∀ (jump : Option Code) (W3 : World), KeepsFrom w.heap.size (W.putObj (w.heap.size + 1) (.loop { rec .ready none with state := .busy })) W3 →
          (Instr.endRound (w.heap.size + 1) jump).run P W3 = .ok (.bool jump.isNone) (W3.putObj (w.heap.size + 1) (.loop (rec (if jump.isNone then .ready else .done) jump))) ∧
          W3.heap[w.heap.size + 1]? = some (.loop { rec .ready none with state := .busy }) ∧
          (W3.putObj (w.heap.size + 1) (.loop (rec (if jump.isNone then .ready else .done) jump))).heap[w.heap.size + 1]? = some (.loop (rec (if jump.isNone then .ready else .done) jump)) ∧
          (W3.putObj (w.heap.size + 1) (.loop (rec (if jump.isNone then .ready else .done) jump))).heap[w.heap.size]? = some (.deferred (some [])) := fun jump W3 hk3 => by
        have hl3 := hk3.same _ _ (by omega) hl2 rfl
        have := run_endRound (P := P) jump hl3
        rw [hrec] at this ⊢
        exact ⟨this, by rw [hrec] at hl3; exact hl3, World.putObj_heap_same (Array.getElem?_eq_some_iff.1 hl3).1, (World.putObj_heap_other (by omega)).trans (hk3.same _ _ (Nat.le_refl _) hk2 rfl)⟩
      rintro e a3 W3 hp
      cases e with
      | normal =>
        obtain ⟨hk3, hkp3, hi3⟩ := hp
        obtain ⟨hr, hl3, hl4, hk4⟩ := fin none W3 hk3
        exact ⟨_, _, hr, .inl ⟨rfl, ⟨hI.putObj _ hi3 (by omega) hl3 rfl, hl4, hk4⟩, hKt hkpa (hKt (hKt hw2 hkp3) (hKb _ _ _ _ (by omega) hl3 rfl rfl))⟩⟩
      | ret =>
        obtain ⟨hk3, hi3⟩ := hp
        obtain ⟨hr, hl3, hl4, hk4⟩ := fin (some .ret) W3 hk3
        exact ⟨_, _, hr, .inr ⟨rfl, .ret, (hIx _).putObj _ hi3 (by omega) hl3 rfl, hl4, hk4⟩⟩
      | exit id =>
        obtain ⟨hk3, hi3⟩ := hp
        obtain ⟨hr, hl3, hl4, hk4⟩ := fin (some (.exit id)) W3 hk3
        exact ⟨_, _, hr, .inr ⟨rfl, .exit id, (hIx _).putObj _ hi3 (by omega) hl3 rfl, hl4, hk4⟩⟩
      | goto t =>
        obtain ⟨hk3, hi3⟩ := hp
        obtain ⟨hr, hl3, hl4, hk4⟩ := fin (some (.goto t)) W3 hk3
        exact ⟨_, _, hr, .inr ⟨rfl, .goto t, (hIx _).putObj _ hi3 (by omega) hl3 rfl, hl4, hk4⟩⟩
      | panic ch => exact hp.elim
      | outgrown => exact hp.elim
    · -- BEHIND THE ITERATOR
      rintro e W2 ⟨⟨v, rfl⟩, (⟨xs, hS, hi, hl, hk⟩ | ⟨pre, hSp, c, hi, hl, hk⟩)⟩
      · exact ⟨none, _, by have := run_endLoop (P := P) hl (by rw [hrec]; simp); rw [hrec] at this; exact this, hdone _ xs _ (Nat.le_refl _) hS (hI.putObj _ hi (by omega) hl rfl) ((World.putObj_heap_other (by omega)).trans hk)⟩
      · exact ⟨some c, _, by have := run_endLoop (P := P) hl (by rw [hrec]; simp); rw [hrec] at this; exact this, hstop _ c pre _ (Nat.le_refl _) hSp ((hIx c).putObj _ hi (by omega) hl rfl) ((World.putObj_heap_other (by omega)).trans hk)⟩
end
end Go.Proofs.YtckbleiikldloaaDoor


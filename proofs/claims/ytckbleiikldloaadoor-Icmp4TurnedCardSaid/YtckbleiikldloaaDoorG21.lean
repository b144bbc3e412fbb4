/- Texts of this claim put together, in build order: each one's own remark stands ahead of it. -/
import Derived.Test.YtckbleiikldloaaDoorG20
/- What icmp4.Get (layer 23) computes. No condition but sizes, and what the package's table holds. -/
namespace Go.Proofs.YtckbleiikldloaaDoor
open Go.RowKit
set_option linter.unusedVariables false
set_option maxRecDepth 20000
set_option linter.unusedSimpArgs false

section
variable {w : World} {o : Oper} {a : Act} {ops : Array Oper} {rest : List Oper} {Q : Exit → Act → World → Prop}
theorem wpList_store_int (hgd : Region.wanted o (yielded ops a.tmps) = true) (x y : Operand) (ho : o.op = .store 3 x y) (g j : Nat) (z : Int) (hx : a.eval x = .pointer (some ⟨g, j, none⟩)) (hy : a.eval y = .int .i64 z) (t : TypeId) (cs : List Value) (u : Value) (hb : Blk w g t cs) (hj : cs[j]? = some u)
    (h : ∀ w', Blk w' g t (cs.set j (.int .i64 z)) → w.grownBy w' (some g) → w'.heap.size = w.heap.size → wpList Tryd.prog ops Q rest (a.put o.dst undef) w') : wpList Tryd.prog ops Q (o :: rest) a w :=
  wpList_wanted hgd fun _ hK => wp_skip (w' := w.setCell ⟨g, j, none⟩ (.int .i64 z)) (by
    have hc := (hb.cell j).trans hj
    have hf := hb.frozen j
    unfold execOp
    simp only [ho, hx, hy]
    go_simp) (hK _ _ (h _ (hb.set j _) (grown_setCells g [.int .i64 z] j w w (grown_refl w _)) (by simp)))
theorem wpList_store_en (hgd : Region.wanted o (yielded ops a.tmps) = true) (x y : Operand) (ho : o.op = .store 23 x y) (g j : Nat) (A : Option Addr) (n c : Nat) (hx : a.eval x = .pointer (some ⟨g, j, none⟩)) (hy : a.eval y = .slice A n c) (t : TypeId) (cs : List Value) (u : Value) (hb : Blk w g t cs) (hj : cs[j]? = some u)
    (h : ∀ w', Blk w' g t (cs.set j (.slice A n c)) → w.grownBy w' (some g) → w'.heap.size = w.heap.size → wpList Tryd.prog ops Q rest (a.put o.dst undef) w') : wpList Tryd.prog ops Q (o :: rest) a w :=
  wpList_wanted hgd fun _ hK => wp_skip (w' := w.setCell ⟨g, j, none⟩ (.slice A n c)) (by
    have hc := (hb.cell j).trans hj
    have hf := hb.frozen j
    unfold execOp
    simp only [ho, hx, hy]
    go_simp) (hK _ _ (h _ (hb.set j _) (grown_setCells g [.slice A n c] j w w (grown_refl w _)) (by simp)))
end
/-- a row of bytes lies in no block of messages -/
theorem row_apart {w w' : World} {B n g : Nat} {A : Option Addr} {l : List UInt8} {t : TypeId} {x : Mp} (h : Row w B 1 A n (bv l)) (hz : Blk w g t x.cells) (hg : w.grownBy w' (some g)) : Row w' B 1 A n (bv l) := by
  refine ⟨h.1, fun hn => ?_⟩
  have hl := h.1
  obtain ⟨b, o, hA, hb, hc⟩ := h.2 hn
  have hne : some b ≠ some g := by
    intro e
    injection e with e
    subst e
    cases l with
    | nil => simp [bv] at hl; omega
    | cons u l =>
      have h0 := hc 0 (.int .u8 (u.toNat : Int)) rfl
      rw [Nat.add_zero] at h0
      rw [hz.cell o] at h0
      match o, h0 with
      | 0, h0 => simp [Mp.cells] at h0
      | 1, h0 => simp [Mp.cells] at h0
      | 2, h0 => simp [Mp.cells] at h0
      | 3, h0 => simp [Mp.cells] at h0
      | o + 4, h0 => simp [Mp.cells] at h0
  exact ⟨b, o, hA, hb, fun j u hu => hg.cell (hc j u hu) hne⟩
theorem Mp.ok.apart {w w' : World} {m x : Mp} {g : Nat} {t : TypeId} (h : m.ok w) (hz : Blk w g t x.cells) (hg : w.grownBy w' (some g)) (hn : m.n = 0) (hs : m.st = []) : m.ok w' :=
  ⟨h.kind, h.mtu, (row_apart h.brow hz hg).more hg.size, h.ble, h.bcap, by rw [hn, hs]; exact Row.nil _ _ _ _, h.le, h.cap, h.fit⟩
theorem own_far4 {w : World} {base n c sz : Nat} {e : TypeId} {A : Option Addr} {xs : List Value} (h : Own w base e sz A n c xs) : ∀ g, blk A c = some g → base ≤ g := by
  intro g hg
  rcases h.own with ⟨_, h0⟩ | ⟨g', cur, hA, hbs, _⟩
  · rw [h0] at hg
    simp [blk] at hg
  · rw [hA] at hg
    unfold blk at hg
    split at hg
    · cases hg
    · simp at hg
      omega
theorem badK4_iff (k : Int) (mtu : Nat) : badK4 k mtu = true ↔ (k < 0 ∨ (k ≠ 1 ∧ mtu ≠ 0)) := by
  unfold badK4
  simp only [Bool.or_eq_true, Bool.and_eq_true, decide_eq_true_eq]
theorem bad_none4 (k : Int) (mtu : Nat) (X : Option Addr) (n c : Nat) (beg : List UInt8) (hk : -1 ≤ k ∧ k ≤ 2) (hm : mtu < 65536) : Mp.good4 ⟨k, (mtu : Int), X, n, c, beg, none, 0, 0, []⟩ = !badK4 k mtu := by
  have hb := badK4_iff k mtu
  unfold Mp.good4 Mp.m Mm.bad
  cases hB : badK4 k mtu
  · have hb2 : ¬ (k < 0 ∨ (k ≠ 1 ∧ mtu ≠ 0)) := fun h => by rw [hb.2 h] at hB; cases hB
    exact decide_eq_true (by dsimp only; omega)
  · have hb2 := hb.1 hB
    exact decide_eq_false (by dsimp only; omega)

set_option maxHeartbeats 1000000 in
theorem get23_ok (A : Option Addr) (n c : Nat) (l : List UInt8) (w : World) (h : Row w w.heap.size 1 A n (bv l)) (hc : n ≤ c) (hcm : c ≤ maxLen) (hn : n ≤ 1000000) (he : (readF4 l).2 = 0) (hT : Typ23 w) :
    Calls Tryd.prog 11 #[.slice A n c] w fun e w' => ∃ m' : Mp, e = .returned (.tuple #[.agg m'.cells.toArray, .int .i64 (getF4 l).2]) ∧ m'.ok w' ∧ m'.got = (getF4 l).1 ∧ Below w.heap.size w w' := by
  have hll : l.length = n := by have := h.1; rw [bv_length] at this; omega
  have RD := Lib.hid (fun (w' : World) (hr : Row w' w'.heap.size 1 A n (bv l)) => read23_any A n c l w' hr hc hcm hn)
  have hlen := readF4_len l he
  obtain ⟨R, hR⟩ : ∃ R, getF4 l = R := ⟨_, rfl⟩
  rw [hR]
  have hRF : R = gotF4 (readF4 l).1 (kind4F ((readF4 l).1.getD 0 0).toNat ((readF4 l).1.getD 1 0).toNat) (numF (readF4 l).1 6 2) := by rw [← hR]; unfold getF4; rw [if_neg (fun h => h he)]
  rw [he] at RD
  obtain ⟨S, hS⟩ : ∃ S, (readF4 l).1 = S := ⟨_, rfl⟩
  rw [hS] at RD hlen hRF
  obtain ⟨u0, hu0⟩ : ∃ u, (S.getD 0 0).toNat = u := ⟨_, rfl⟩
  obtain ⟨u1, hu1⟩ : ∃ u, (S.getD 1 0).toNat = u := ⟨_, rfl⟩
  obtain ⟨u4, hu4⟩ : ∃ u, (S.getD 4 0).toNat = u := ⟨_, rfl⟩
  obtain ⟨u5, hu5⟩ : ∃ u, (S.getD 5 0).toNat = u := ⟨_, rfl⟩
  have hub4 : u4 ≤ 255 := by rw [← hu4]; have := (S.getD 4 0).toNat_lt; omega
  have hub5 : u5 ≤ 255 := by rw [← hu5]; have := (S.getD 5 0).toNat_lt; omega
  rw [hu0, hu1] at hRF
  have hkb := kind4F_bd u0 u1
  obtain ⟨k, hk⟩ : ∃ k, kind4F u0 u1 = k := ⟨_, rfl⟩
  rw [hk] at hRF hkb
  have hfb := numF_bd S 6 2
  obtain ⟨mtu, hf⟩ : ∃ f, numF S 6 2 = f := ⟨_, rfl⟩
  have hf' := hf
  unfold numF at hf'
  rw [hf] at hRF hfb
  have hfb2 : mtu < 65536 := hfb
  unfold gotF4 at hRF
  rw [hu4, hu5] at hRF
  have HH := Lib.hid h
  have HT := Lib.hid hT
  have HRF := Lib.hid hRF
  have HKI := Lib.hid hk
  have HU0 := Lib.hid hu0
  have HU1 := Lib.hid hu1
  have HU4 := Lib.hid hu4
  have HU5 := Lib.hid hu5
  have hl8 := hlen.1
  have hlS : S.length ≤ n := hll ▸ hlen.2
  have hGET := Lib.hid (fun (A2 : Option Addr) (c2 : Nat) (W : World) (hr : Row W W.heap.size 1 A2 S.length (bv S)) (h1 : S.length ≤ c2) (h2 : c2 ≤ maxLen) => get_yes A2 S.length c2 S 6 2 W hr h1 h2 (by omega) (by omega) (by omega) (by omega) (by omega))
  have HF := Lib.hid hf'
  clear h hT hRF hk hu0 hu1 hu4 hu5 hlen hR hS hf hf' he hfb hll
  obtain ⟨g0, hg0⟩ : ∃ g, w.heap.size = g := ⟨_, rfl⟩
  go_enter Tryd.func11, Tryd.ntmps11
  go_upto_region 1 with (refine wpList_alloc_blk (by rfl) 25 rfl Mp.zero.cells zeroMp ?_; intro w1 hb1 hB1 hs1)
  rw [hg0] at hb1
  try rw [hg0]
  have HZ := Lib.hid hb1
  have HW := Lib.hid hB1
  have HG := Lib.hid hg0
  clear hb1 hB1 hs1 hg0
  go_wp2_with fail
  refine (RD.out w1 ((HH.out.below HW.out).more HW.out.size)).mono ?_
  rintro e w2 ⟨⟨A2, n2, c2, l2⟩, rfl, hl2, ho2, hb2⟩
  dsimp only at hl2
  subst hl2
  have hn2 : l2.length = n2 := ho2.len
  subst hn2
  replace HW := Lib.hid (bthen HW.out hb2)
  replace HZ := Lib.hid (HZ.out.on hb2)
  have HO := Lib.hid ho2
  clear ho2 hb2
  dsimp only [Bs.v]
  go_wp2_with fail
  refine (hGET.out A2 c2 w2 HO.out.row HO.out.le HO.out.cap).mono ?_
  rintro e w3 ⟨rfl, hb3⟩
  rw [show ((6 : Int).toNat) = 6 from rfl, show ((2 : Int).toNat) = 2 from rfl, HF.out]
  replace HW := Lib.hid (bthen HW.out hb3)
  replace HZ := Lib.hid (HZ.out.on hb3)
  replace HO := Lib.hid (HO.out.below hb3)
  clear hb3 hGET
  go_wp2_with fail
  obtain ⟨b, o, rfl, hbb, hcell⟩ := Row.cells (n := l2.length) HO.out.row (by omega)
  have hle2 : l2.length ≤ c2 := HO.out.le
  have hcm2 : c2 ≤ 9223372036854775807 := by have := HO.out.cap; unfold maxLen at this; omega
  have hcj : ∀ j, j < l2.length → w3.cell? ⟨b, o + j, none⟩ = some (.int .u8 ((l2.getD j 0).toNat : Int)) := fun j hj => by
    refine hcell j _ (bv_get _ _ _ ?_)
    rw [List.getD_eq_getElem?_getD, List.getElem?_eq_getElem hj]
    rfl
  have hc0 := hcj 0 (by omega)
  have hc1 := hcj 1 (by omega)
  have hc4 := hcj 4 (by omega)
  have hc5 := hcj 5 (by omega)
  rw [HU0.out] at hc0
  rw [HU1.out] at hc1
  rw [HU4.out] at hc4
  rw [HU5.out] at hc5
  have HR2 := Lib.hid (show w3.rangeAt b o [.int .u8 (u0 : Int), .int .u8 (u1 : Int)] from fun j v hv => by
    match j, hv with
    | 0, hv => cases hv; exact hc0
    | 1, hv => cases hv; exact hc1
    | j + 2, hv => simp at hv)
  obtain ⟨X8, hX8⟩ : ∃ q, (if c2 = 8 then (some ⟨b, o, none⟩ : Option Addr) else some ⟨b, o + 8, none⟩) = q := ⟨_, rfl⟩
  have HX8 := Lib.hid hX8
  have HRX := Lib.hid (show Row w3 w3.heap.size 1 X8 (l2.length - 8) (bv (l2.drop 8)) by
    have hc := HO.out.row.cut (k := 8) (cap := c2) (show 8 ≤ l2.length from hl8) hle2
    rw [show (fun x : Addr => x.add (8 * 1)) = fun x : Addr => x.add 8 from rfl, addr_add1, hX8] at hc
    rw [show bv (l2.drop 8) = (bv l2).drop (8 * 1) by simp only [bv, List.map_drop, Nat.mul_one]]
    exact hc)
  clear hX8 hcell hcj hc0 hc1
  refine wp_region_last 11 (fun A B => A.grownBy B none) (fun A => grown_refl A _) (fun A B C h k => grown_trans h k) (relAt (List.cons (fun v _ => v = .slice (some ⟨0, 0, none⟩) 3 3) (List.cons (fun v _ => v = .slice (some ⟨b, o, none⟩) l2.length c2) (List.cons (fun v _ => v = .pointer (some ⟨b, o, none⟩)) (List.cons (fun v _ => v = .agg #[.int .u8 (u0 : Int), .int .u8 (u1 : Int)]) (List.cons (fun v _ => v = .int .i64 k) (List.cons (fun v _ => v = .int .u64 (mtu : Int)) (List.cons (fun v _ => v = .int .i64 (mtu : Int)) (List.cons (fun v _ => v = .slice (some ⟨b, o, none⟩) l2.length c2) (List.cons (fun v _ => v = .slice X8 (l2.length - 8) (c2 - 8)) (List.cons (fun v _ => v = .agg (Mp.cells ⟨k, (mtu : Int), X8, l2.length - 8, c2 - 8, l2.drop 8, none, 0, 0, []⟩).toArray) (List.cons (fun v W => ∃ g, v = .pointer (some ⟨g, 0, none⟩) ∧ w3.heap.size ≤ g ∧ Blk W g 25 Mp.zero.cells) ([]))))))))))))) (MonoL.at_ (.cons (mono_val _) (.cons (mono_val _) (.cons (mono_val _) (.cons (mono_val _) (.cons (mono_val _) (.cons (mono_val _) (.cons (mono_val _) (.cons (mono_val _) (.cons (mono_val _) (.cons (mono_val _) (.cons (fun _ _ _ ⟨g, hv, hg, hz⟩ hx => ⟨g, hv, hg, hz.on (grow_below hx)⟩) .nil)))))))))))) (by kernel_rfl) (by kernel_rfl) rfl (by kernel_rfl) _ rfl rfl ⟨?_, ?_, ?_, ?_, ?_, ?_, ?_, ?_, ?_, ?_, ?_, trivial⟩ ?_
  · intro a vs W hX hR he hf K hK
    rw [if_pos (wanted_none rfl)]
    refine wp_value (v := .slice (some ⟨0, 0, none⟩) 3 3) ?_ (hK _ _ rfl (grown_refl W _))
    simp only [execOp]
    try go_simp
    try (first | rfl | omega | (simp only [IntKind.wrap_i64, IntKind.wrap_u8, IntKind.wrap_u64, IntKind.wrap_u16, IntKind.wrap_u32]; omega) | (rw [Int.tmod_eq_emod_of_nonneg (by omega)]) | (rw [Int.tmod_eq_emod_of_nonneg (by omega)]; omega))
  · intro a vs W hX hR he hf K hK
    rw [if_pos (wanted_none rfl)]
    have e4 : a.eval (.tmp 4) = .slice (some ⟨b, o, none⟩) l2.length c2 := hf 4 (by kernel_rfl)
    refine wp_value (v := .slice (some ⟨b, o, none⟩) l2.length c2) ?_ (hK _ _ rfl (grown_refl W _))
    simp only [execOp, e4]
    try go_simp
    try (first | rfl | omega | (simp only [IntKind.wrap_i64, IntKind.wrap_u8, IntKind.wrap_u64, IntKind.wrap_u16, IntKind.wrap_u32]; omega) | (rw [Int.tmod_eq_emod_of_nonneg (by omega)]) | (rw [Int.tmod_eq_emod_of_nonneg (by omega)]; omega))
  · intro a vs W hX hR he hf K hK
    rw [if_pos (wanted_none rfl)]
    have e24 : a.eval (.tmp 24) = .slice (some ⟨b, o, none⟩) l2.length c2 := (he 1 24 (by kernel_rfl) rfl).trans (hR 1 (by kernel_rfl))
    refine wp_value (v := .pointer (some ⟨b, o, none⟩)) ?_ (hK _ _ rfl (grown_refl W _))
    simp only [execOp, e24]
    have h2l : 2 ≤ l2.length := by omega
    have h2n : ¬ l2.length < 2 := by omega
    go_simp
    rw [run_arrayAt 52 5 2 Tryd.underlying52 ⟨b, o, none⟩ l2.length c2 (by omega)]; rfl
  · intro a vs W hX hR he hf K hK
    rw [if_pos (wanted_none rfl)]
    have e25 : a.eval (.tmp 25) = .pointer (some ⟨b, o, none⟩) := (he 2 25 (by kernel_rfl) rfl).trans (hR 2 (by kernel_rfl))
    have hbW := bthen (below_drew _) (grow_below hX)
    exact wp_value (exec_load_mid 52 _ rfl b o e25 [.int .u8 (u0 : Int), .int .u8 (u1 : Int)] _ (fun j x hx => (hbW.cell (p := ⟨b, _, none⟩) hbb).trans (HR2.out j x hx)) Tryd.underlying52 rfl (size2 _ _)) (hK _ _ rfl (grown_refl W _))
  · intro a vs W hX hR he hf K hK
    rw [if_pos (wanted_none rfl)]
    have e23 : a.eval (.tmp 23) = .slice (some ⟨0, 0, none⟩) 3 3 := (he 0 23 (by kernel_rfl) rfl).trans (hR 0 (by kernel_rfl))
    have e26 : a.eval (.tmp 26) = .agg #[.int .u8 (u0 : Int), .int .u8 (u1 : Int)] := (he 3 26 (by kernel_rfl) rfl).trans (hR 3 (by kernel_rfl))
    have hbW := bthen (below_drew _) (grow_below hX)
    have hT := HT.out.on (HW.out.trans (hbW.mono HW.out.size))
    refine wp_enter (f := 29) (args := #[.slice (some ⟨0, 0, none⟩) 3 3, .agg #[.int .u8 (u0 : Int), .int .u8 (u1 : Int)]]) (by simp only [execOp, e23, e26]; go_simp; exact ⟨by simpa [Act.eval] using e23, by simpa [Act.eval] using e26⟩) ((indexP_any 0 u0 u1 W hT.lt hT.cell).mono ?_)
    rintro e w' ⟨rfl, hb⟩
    rw [HKI.out]
    exact ⟨_, rfl, hK _ _ rfl (below_grow hb _)⟩
  · intro a vs W hX hR he hf K hK
    rw [if_pos (wanted_none rfl)]
    have e6 : a.eval (.tmp 6) = .int .u64 (mtu : Int) := hf 6 (by kernel_rfl)
    refine wp_value (v := .int .u64 (mtu : Int)) ?_ (hK _ _ rfl (grown_refl W _))
    simp only [execOp, e6]
    try go_simp
    try (first | rfl | omega | (simp only [IntKind.wrap_i64, IntKind.wrap_u8, IntKind.wrap_u64, IntKind.wrap_u16, IntKind.wrap_u32]; omega) | (rw [Int.tmod_eq_emod_of_nonneg (by omega)]) | (rw [Int.tmod_eq_emod_of_nonneg (by omega)]; omega))
  · intro a vs W hX hR he hf K hK
    rw [if_pos (wanted_none rfl)]
    have e28 : a.eval (.tmp 28) = .int .u64 (mtu : Int) := (he 5 28 (by kernel_rfl) rfl).trans (hR 5 (by kernel_rfl))
    refine wp_value (v := .int .i64 (mtu : Int)) ?_ (hK _ _ rfl (grown_refl W _))
    simp only [execOp, e28]
    try go_simp
    try (first | rfl | omega | (simp only [IntKind.wrap_i64, IntKind.wrap_u8, IntKind.wrap_u64, IntKind.wrap_u16, IntKind.wrap_u32]; omega) | (rw [Int.tmod_eq_emod_of_nonneg (by omega)]) | (rw [Int.tmod_eq_emod_of_nonneg (by omega)]; omega))
  · intro a vs W hX hR he hf K hK
    rw [if_pos (wanted_none rfl)]
    have e4 : a.eval (.tmp 4) = .slice (some ⟨b, o, none⟩) l2.length c2 := hf 4 (by kernel_rfl)
    refine wp_value (v := .slice (some ⟨b, o, none⟩) l2.length c2) ?_ (hK _ _ rfl (grown_refl W _))
    simp only [execOp, e4]
    try go_simp
    try (first | rfl | omega | (simp only [IntKind.wrap_i64, IntKind.wrap_u8, IntKind.wrap_u64, IntKind.wrap_u16, IntKind.wrap_u32]; omega) | (rw [Int.tmod_eq_emod_of_nonneg (by omega)]) | (rw [Int.tmod_eq_emod_of_nonneg (by omega)]; omega))
  · intro a vs W hX hR he hf K hK
    rw [if_pos (wanted_none rfl)]
    have e30 : a.eval (.tmp 30) = .slice (some ⟨b, o, none⟩) l2.length c2 := (he 7 30 (by kernel_rfl) rfl).trans (hR 7 (by kernel_rfl))
    have f30 := e30
    simp only [Act.eval, Array.getD_eq_getD_getElem?] at f30
    refine wp_value (v := .slice X8 (l2.length - 8) (c2 - 8)) ?_ (hK _ _ rfl (grown_refl W _))
    rw [← HX8.out]
    simp only [execOp, e30]
    go_simp
    intro h9
    omega
  · intro a vs W hX hR he hf K hK
    rw [if_pos (wanted_none rfl)]
    have e27 : a.eval (.tmp 27) = .int .i64 k := (he 4 27 (by kernel_rfl) rfl).trans (hR 4 (by kernel_rfl))
    have e29 : a.eval (.tmp 29) = .int .i64 (mtu : Int) := (he 6 29 (by kernel_rfl) rfl).trans (hR 6 (by kernel_rfl))
    have e31 : a.eval (.tmp 31) = .slice X8 (l2.length - 8) (c2 - 8) := (he 8 31 (by kernel_rfl) rfl).trans (hR 8 (by kernel_rfl))
    have f27 := e27
    simp only [Act.eval, Array.getD_eq_getD_getElem?] at f27
    have f29 := e29
    simp only [Act.eval, Array.getD_eq_getD_getElem?] at f29
    have f31 := e31
    simp only [Act.eval, Array.getD_eq_getD_getElem?] at f31
    refine wp_value (v := .agg (Mp.cells ⟨k, (mtu : Int), X8, l2.length - 8, c2 - 8, l2.drop 8, none, 0, 0, []⟩).toArray) ?_ (hK _ _ rfl (grown_refl W _))
    simp only [execOp, f27, f29, f31, e27, e29, e31, Mp.cells]
    go_simp
  · intro a vs W hX hR he hf K hK
    rw [if_pos (wanted_none rfl)]
    refine wp_alloc_blk 25 rfl Mp.zero.cells zeroMp ?_
    intro g w' hbg hb' hs' hgs
    exact hK _ _ ⟨g, rfl, by rw [hgs]; exact (grow_below hX).size, hbg⟩ (below_grow hb' _)
  · intro vs w4 hX4 hR
    have q0 := hR 0 (by decide)
    have q1 := hR 1 (by decide)
    have q2 := hR 2 (by decide)
    have q3 := hR 3 (by decide)
    have q4 := hR 4 (by decide)
    have q5 := hR 5 (by decide)
    have q6 := hR 6 (by decide)
    have q7 := hR 7 (by decide)
    have q8 := hR 8 (by decide)
    have q9 := hR 9 (by decide)
    have q10 := hR 10 (by decide)
    change vs 0 = .slice (some ⟨0, 0, none⟩) 3 3 at q0
    change vs 1 = .slice (some ⟨b, o, none⟩) l2.length c2 at q1
    change vs 2 = .pointer (some ⟨b, o, none⟩) at q2
    change vs 3 = .agg #[.int .u8 (u0 : Int), .int .u8 (u1 : Int)] at q3
    change vs 4 = .int .i64 k at q4
    change vs 5 = .int .u64 (mtu : Int) at q5
    change vs 6 = .int .i64 (mtu : Int) at q6
    change vs 7 = .slice (some ⟨b, o, none⟩) l2.length c2 at q7
    change vs 8 = .slice X8 (l2.length - 8) (c2 - 8) at q8
    change vs 9 = .agg (Mp.cells ⟨k, (mtu : Int), X8, l2.length - 8, c2 - 8, l2.drop 8, none, 0, 0, []⟩).toArray at q9
    change (fun v W => ∃ g, v = .pointer (some ⟨g, 0, none⟩) ∧ w3.heap.size ≤ g ∧ Blk W g 25 Mp.zero.cells) (vs 10) w4 at q10
    simp only [putAll, Act.put, List.setIfInBounds_toArray, List.set_cons_zero, List.set_cons_succ, List.take_succ_cons, List.take_zero, q0, q1, q2, q3, q4, q5, q6, q7, q8, q9]
    clear q0 q1 q2 q3 q4 q5 q6 q7 q8 q9
    clear hR
    obtain ⟨g8, hv, hg8, hbg⟩ := q10
    rw [hv]
    have hbW := bthen (below_drew _) (grow_below hX4)
    have hk4 := HZ.out.on hbW
    have hB4 := bthen HW.out hbW
    have hg0b : g0 < w3.heap.size := HZ.out.lt
    have hg08 : g0 ≠ g8 := by omega
    refine wp_store_all 25 _ _ rfl g8 (Mp.cells ⟨k, (mtu : Int), X8, l2.length - 8, c2 - 8, l2.drop 8, none, 0, 0, []⟩) rfl rfl 25 _ hbg (sizeMp _) rfl (oneMp _) ?_
    intro w5 hk5 hg5 hs5
    have hz5 := hk4.grown hg5 (fun e => hg08 (by injection e))
    have hB5 : Below w.heap.size w w5 := bgrown hB4 hg5 hB4.size (by have := HG.out; omega)
    have hB35 : Below w3.heap.size w3 w5 := bgrown hbW hg5 hbW.size hg8
    try simp only [List.getElem_toArray, List.getElem_cons_succ, List.getElem_cons_zero, Act.put, List.setIfInBounds_toArray, List.set_cons_zero, List.set_cons_succ]
    replace HZ := Lib.hid hz5
    replace HW := Lib.hid hB5
    have HR3 := Lib.hid (HRX.out.below hB35)
    replace HRX := Lib.hid (HR3.out.more hB35.size)
    have hd4 : w5.cell? ⟨b, o + 4, none⟩ = some (.int .u8 (u4 : Int)) := (hB35.cell (p := ⟨b, o + 4, none⟩) hbb).trans hc4
    have hd5 : w5.cell? ⟨b, o + 5, none⟩ = some (.int .u8 (u5 : Int)) := (hB35.cell (p := ⟨b, o + 5, none⟩) hbb).trans hc5
    have hbb5 : b < w5.heap.size := Nat.lt_of_lt_of_le hbb hB35.size
    have hs35 : w3.heap.size ≤ w5.heap.size := hB35.size
    have HM := Lib.hid hk5
    have hlt5 := hk5.lt
    have hg0g : g0 ≤ g8 := by omega
    clear hX4 hv hbg hbW hk4 hB4 hk5 hg5 hs5 hz5 hB5 hB35 hc4 hc5 HX8 HT HKI HU0 HU1 HU4 HU5 HF RD HH HO HR2
    have MAY := Lib.hid (fun (W : World) (h : Mp.ok W ⟨k, (mtu : Int), X8, l2.length - 8, c2 - 8, l2.drop 8, none, 0, 0, []⟩) => may4_any ⟨k, (mtu : Int), X8, l2.length - 8, c2 - 8, l2.drop 8, none, 0, 0, []⟩ W h)
    rw [bad_none4 k mtu _ _ _ _ hkb hfb2] at MAY
    have HMO := Lib.hid (show Mp.ok w5 ⟨k, (mtu : Int), X8, l2.length - 8, c2 - 8, l2.drop 8, none, 0, 0, []⟩ from ⟨⟨by dsimp only; omega, by dsimp only; omega⟩, ⟨by dsimp only; omega, by dsimp only; omega⟩, HRX.out, by dsimp only; omega, by show c2 - 8 ≤ maxLen; unfold maxLen; omega, Row.nil _ _ _ _, Nat.le_refl _, Nat.zero_le _, by simp⟩)
    go_wp2_with (refine wpList_load_blk (by rfl) 25 _ rfl g8 rfl 25 _ _ HM.out Tryd.underlying25 rfl (sizeMp _) ?_)
    refine (MAY.out w5 HMO.out).mono ?_
    rintro e w6 ⟨rfl, hb6⟩
    replace HZ := Lib.hid (HZ.out.on hb6)
    replace HM := Lib.hid (HM.out.on hb6)
    replace HMO := Lib.hid (HMO.out.on hb6)
    replace HW := Lib.hid (bthen HW.out hb6)
    replace hd4 := (hb6.cell (p := ⟨b, o + 4, none⟩) hbb5).trans hd4
    replace hd5 := (hb6.cell (p := ⟨b, o + 5, none⟩) hbb5).trans hd5
    have hm2 : w6.cell? ⟨g8, 2, none⟩ = some (.slice X8 (l2.length - 8) (c2 - 8)) := HM.out.cell 2
    clear hb6 MAY
    cases hbk : badK4 k mtu
    · by_cases h4 : u4 = 0
      · have h4b : ((u4 : Int) != 0) = false := by simp; omega
        have hz := HRF.out
        rw [hbk, h4] at hz
        simp only [Bool.false_or, ne_eq, not_true_eq_false, decide_false, Bool.false_eq_true, if_false] at hz
        clear hbk h4
        by_cases h5 : u5 = 0
        · have h5b : ((u5 : Int) == 0) = true := by simp; omega
          have hz1 := hz.trans (if_pos h5)
          clear hz h5
          by_cases hL : 136 < l2.length
          · have hL2 : (128 : Int) < ((l2.length - 8 : Nat) : Int) := by omega
            have HR := Lib.hid (hz1.trans (if_pos hL))
            clear hz1
            go_wp2_with (refine wpList_store_all (by rfl) 25 _ _ rfl g0 Mp.zero.cells rfl rfl 25 _ HZ.out (sizeMp _) rfl (oneMp _) ?_; intro w7 hb7 hg7 hs7)
            have hB7 : Below w.heap.size w w7 := bgrown HW.out hg7 HW.out.size (by have := HG.out; omega)
            refine bodyPost_ret (results_cell2 rfl _ _ g0 _ _ _ rfl hb7 Tryd.underlying25 rfl (sizeMp Mp.zero)) rfl ?_
            exact ⟨Mp.zero, by rw [HR.out]; rfl, Mp.zero_ok _, by rw [HR.out]; rfl, hB7⟩
          · have hL2 : ¬ (128 : Int) < ((l2.length - 8 : Nat) : Int) := by omega
            have HR := Lib.hid (hz1.trans (if_neg hL))
            clear hz1
            go_wp2_with (first | (refine wpList_load_blk (by rfl) 25 _ rfl g8 rfl 25 _ _ HM.out Tryd.underlying25 rfl (sizeMp _) ?_) | (refine wpList_store_all (by rfl) 25 _ _ rfl g0 _ rfl rfl 25 _ HZ.out (sizeMp _) rfl (oneMp _) ?_; intro w7 hb7 hg7 hs7))
            have hB7 : Below w.heap.size w w7 := bgrown HW.out hg7 HW.out.size (by have := HG.out; omega)
            refine bodyPost_ret (results_cell2 rfl _ _ g0 _ _ _ rfl hb7 Tryd.underlying25 rfl (sizeMp _)) rfl ?_
            exact ⟨⟨k, (mtu : Int), X8, l2.length - 8, c2 - 8, l2.drop 8, none, 0, 0, []⟩, by rw [HR.out]; rfl, HMO.out.apart HZ.out hg7 rfl rfl, by rw [HR.out]; rfl, hB7⟩
        · have h5b : ((u5 : Int) == 0) = false := by simp; omega
          have hz1 := hz.trans (if_neg h5)
          clear hz
          by_cases h32 : u5 = 32
          · have h32b : ((u5 : Int) == 32) = true := by simp; omega
            have hz2 := hz1.trans (if_pos h32)
            clear hz1 h32 h5
            by_cases hL : l2.length < 136
            · have hL2 : ((l2.length - 8 : Nat) : Int) < 128 := by omega
              have HR := Lib.hid (hz2.trans (if_pos hL))
              clear hz2
              go_wp2_with (refine wpList_store_all (by rfl) 25 _ _ rfl g0 Mp.zero.cells rfl rfl 25 _ HZ.out (sizeMp _) rfl (oneMp _) ?_; intro w7 hb7 hg7 hs7)
              have hB7 : Below w.heap.size w w7 := bgrown HW.out hg7 HW.out.size (by have := HG.out; omega)
              refine bodyPost_ret (results_cell2 rfl _ _ g0 _ _ _ rfl hb7 Tryd.underlying25 rfl (sizeMp Mp.zero)) rfl ?_
              exact ⟨Mp.zero, by rw [HR.out]; rfl, Mp.zero_ok _, by rw [HR.out]; rfl, hB7⟩
            · have hL2 : ¬ ((l2.length - 8 : Nat) : Int) < 128 := by omega
              have HR1 := Lib.hid (hz2.trans (if_neg hL))
              clear hz2
              obtain ⟨m9, hm9⟩ : ∃ q, l2.length - 8 = q := ⟨_, rfl⟩
              obtain ⟨k9, hk9⟩ : ∃ q, c2 - 8 = q := ⟨_, rfl⟩
              rw [hm9] at hL2
              simp only [hm9, hk9] at hm2 HM HMO ⊢
              obtain ⟨b8, o8, hX, hb8, -⟩ := Row.cells (n := m9) HMO.out.brow (by omega)
              dsimp only at hX
              subst hX
              have j1 : (128 : Int) ≤ (m9 : Int) := by omega
              have j2 : (128 : Int) ≤ (k9 : Int) := by omega
              have j3 : ¬ (m9 : Int) < 128 := by omega
              have j4 : ¬ (k9 : Int) < 128 := by omega
              have hmk : m9 ≤ k9 := by omega
              obtain ⟨X9, hX9⟩ : ∃ q, (if k9 = 128 then (some ⟨b8, o8, none⟩ : Option Addr) else some ⟨b8, o8 + 128, none⟩) = q := ⟨_, rfl⟩
              have hr9 : Row w6 w6.heap.size 1 X9 (m9 - 128) (bv (l2.drop 136)) := by
                have hc := Row.cut (n := m9) HMO.out.brow (k := 128) (cap := k9) (by omega) hmk
                dsimp only at hc
                rw [show (fun x : Addr => x.add (128 * 1)) = fun x : Addr => x.add 128 from rfl, addr_add1, hX9] at hc
                rw [show bv (l2.drop 136) = (bv (l2.drop 8)).drop (128 * 1) by simp only [bv, List.map_drop, List.drop_drop]]
                exact hc
              have hr10 : Row w6 w6.heap.size 1 (some ⟨b8, o8, none⟩) 128 (bv ((l2.drop 8).take 128)) := by
                have hc := Row.take (n := m9) HMO.out.brow (k := 128) (by omega)
                rw [show bv ((l2.drop 8).take 128) = (bv (l2.drop 8)).take (128 * 1) by simp only [bv, List.map_take]]
                exact hc
              have TL := told22_any X9 (m9 - 128) (k9 - 128) (l2.drop 136) w6 hr9 (by omega) (by unfold maxLen; omega) (by omega)
              have hfit := told_fit (l2.drop 136)
              obtain ⟨T, hTT⟩ : ∃ T, (toldG (l2.drop 136)).1 = T := ⟨_, rfl⟩
              obtain ⟨p, hp⟩ : ∃ p, (toldG (l2.drop 136)).2 = p := ⟨_, rfl⟩
              rw [hTT, hp] at TL
              rw [hTT] at hfit
              rw [hTT, hp] at HR1
              have HTL := Lib.hid TL
              have HR10 := Lib.hid hr10
              clear TL hTT hp hr10 hr9 hm9 hk9
              go_wp2_with fail
              clear hX9
              refine HTL.out.mono ?_
              rintro e w7 ⟨A7, c7, rfl, hown7, hb7⟩
              have hz7 := HZ.out.on hb7
              have hB7 := bthen HW.out hb7
              have hm7 := HM.out.on hb7
              have hfr7 : w6.heap.size ≤ w7.heap.size := hb7.size
              have hg86 : g8 < w6.heap.size := HM.out.lt
              clear hm2
              by_cases hp0 : p = 0
              · subst hp0
                have HE := Lib.hid (HR1.out.trans (if_neg (fun h => h rfl)))
                go_upto_region 17 with (refine wpList_store_en (by rfl) _ _ rfl g8 3 A7 T.length c7 rfl rfl 25 _ _ hm7 rfl ?_; intro wa hka hga hsa; replace hka : Blk wa g8 25 (Mp.cells ⟨k, (mtu : Int), some ⟨b8, o8, none⟩, m9, k9, l2.drop 8, A7, T.length, c7, T⟩) := hka)
                have hma : wa.cell? ⟨g8, 2, none⟩ = some (.slice (some ⟨b8, o8, none⟩) m9 k9) := hka.cell 2
                go_wp2_with (first
                  | (refine wpList_store_sl (by rfl) _ _ rfl g8 2 (some ⟨b8, o8, none⟩) 128 128 rfl rfl 25 _ _ hka rfl ?_; intro wb hkb2 hgb hsb; replace hkb2 : Blk wb g8 25 (Mp.cells ⟨k, (mtu : Int), some ⟨b8, o8, none⟩, 128, 128, (l2.drop 8).take 128, A7, T.length, c7, T⟩) := hkb2; clear hma)
                  | (refine wpList_load_blk (by rfl) 25 _ rfl g8 rfl 25 _ _ hkb2 Tryd.underlying25 rfl (sizeMp _) ?_)
                  | (refine wpList_store_all (by rfl) 25 _ _ rfl g0 _ rfl rfl 25 _ ((hz7.grown hga (fun e => hg08 (by injection e))).grown hgb (fun e => hg08 (by injection e))) (sizeMp _) rfl (oneMp _) ?_; intro wc hkc hgc hsc))
                have hge : w.heap.size ≤ g8 := by have := HG.out; omega
                have hge0 : w.heap.size ≤ g0 := by have := HG.out; omega
                have hz7b := (hz7.grown hga (fun e => hg08 (by injection e))).grown hgb (fun e => hg08 (by injection e))
                have hs7 := hB7.size
                have hBc : Below w.heap.size w wc := bgrown (bgrown (bgrown hB7 hga hs7 hge) hgb (by omega) hge) hgc (by omega) hge0
                have hfar : ∀ g, blk A7 c7 = some g → w6.heap.size ≤ g := own_far4 hown7
                have hg06 : g0 < w6.heap.size := HZ.out.lt
                have hown9 := ((hown7.kept hga (fun g hg e => by injection e with e; have := hfar g hg; omega)).kept hgb (fun g hg e => by injection e with e; have := hfar g hg; omega)).kept hgc (fun g hg e => by injection e with e; have := hfar g hg; omega)
                have hrc : Row wc w6.heap.size 1 (some ⟨b8, o8, none⟩) 128 (bv ((l2.drop 8).take 128)) := row_apart (x := Mp.zero) (row_apart (row_apart (HR10.out.below hb7) hm7 hga) hka hgb) hz7b hgc
                refine bodyPost_ret (results_cell2 rfl _ _ g0 _ _ _ rfl hkc Tryd.underlying25 rfl (sizeMp _)) rfl ?_
                refine ⟨⟨k, (mtu : Int), some ⟨b8, o8, none⟩, 128, 128, (l2.drop 8).take 128, A7, T.length, c7, T⟩, by rw [HE.out]; rfl, ⟨⟨by dsimp only; omega, by dsimp only; omega⟩, ⟨by dsimp only; omega, by dsimp only; omega⟩, hrc.more (by omega), Nat.le_refl _, by show 128 ≤ maxLen; unfold maxLen; omega, hown9.row, hown9.le, hown9.cap, hfit⟩, by rw [HE.out]; rfl, hBc⟩
              · have hpn : (p != 0) = true := by simpa using hp0
                have HE := Lib.hid (HR1.out.trans (if_pos hp0))
                go_wp2_with (first
                  | (refine wpList_store_en (by rfl) _ _ rfl g8 3 A7 T.length c7 rfl rfl 25 _ _ hm7 rfl ?_; intro wa hka hga hsa)
                  | (refine wpList_store_all (by rfl) 25 _ _ rfl g0 Mp.zero.cells rfl rfl 25 _ (hz7.grown hga (fun e => hg08 (by injection e))) (sizeMp _) rfl (oneMp _) ?_; intro wc hkc hgc hsc))
                have hBc : Below w.heap.size w wc := bgrown (bgrown hB7 hga hB7.size (by have := HG.out; omega)) hgc (by have := hB7.size; omega) (by have := HG.out; omega)
                refine bodyPost_ret (results_cell2 rfl _ _ g0 _ _ _ rfl hkc Tryd.underlying25 rfl (sizeMp Mp.zero)) rfl ?_
                exact ⟨Mp.zero, by rw [HE.out]; rfl, Mp.zero_ok _, by rw [HE.out]; rfl, hBc⟩
          · have h32b : ((u5 : Int) == 32) = false := by simp; omega
            have HR := Lib.hid (hz1.trans (if_neg h32))
            clear hz1 h32 h5
            go_wp2_with (refine wpList_store_all (by rfl) 25 _ _ rfl g0 Mp.zero.cells rfl rfl 25 _ HZ.out (sizeMp _) rfl (oneMp _) ?_; intro w7 hb7 hg7 hs7)
            have hB7 : Below w.heap.size w w7 := bgrown HW.out hg7 HW.out.size (by have := HG.out; omega)
            refine bodyPost_ret (results_cell2 rfl _ _ g0 _ _ _ rfl hb7 Tryd.underlying25 rfl (sizeMp Mp.zero)) rfl ?_
            exact ⟨Mp.zero, by rw [HR.out]; rfl, Mp.zero_ok _, by rw [HR.out]; rfl, hB7⟩
      · have h4b : ((u4 : Int) != 0) = true := by simp; omega
        have HR := Lib.hid (HRF.out.trans (if_pos (by rw [hbk, decide_eq_true h4]; rfl)))
        clear hbk h4
        go_wp2_with (refine wpList_store_all (by rfl) 25 _ _ rfl g0 Mp.zero.cells rfl rfl 25 _ HZ.out (sizeMp _) rfl (oneMp _) ?_; intro w7 hb7 hg7 hs7)
        have hB7 : Below w.heap.size w w7 := bgrown HW.out hg7 HW.out.size (by have := HG.out; omega)
        refine bodyPost_ret (results_cell2 rfl _ _ g0 _ _ _ rfl hb7 Tryd.underlying25 rfl (sizeMp Mp.zero)) rfl ?_
        exact ⟨Mp.zero, by rw [HR.out]; rfl, Mp.zero_ok _, by rw [HR.out]; rfl, hB7⟩
    · have HR := Lib.hid (HRF.out.trans (if_pos (by rw [hbk]; rfl)))
      clear hbk
      go_wp2_with (refine wpList_store_all (by rfl) 25 _ _ rfl g0 Mp.zero.cells rfl rfl 25 _ HZ.out (sizeMp _) rfl (oneMp _) ?_; intro w7 hb7 hg7 hs7)
      have hB7 : Below w.heap.size w w7 := bgrown HW.out hg7 HW.out.size (by have := HG.out; omega)
      refine bodyPost_ret (results_cell2 rfl _ _ g0 _ _ _ rfl hb7 Tryd.underlying25 rfl (sizeMp Mp.zero)) rfl ?_
      exact ⟨Mp.zero, by rw [HR.out]; rfl, Mp.zero_ok _, by rw [HR.out]; rfl, hB7⟩
theorem get23_any (A : Option Addr) (n c : Nat) (l : List UInt8) (w : World) (h : Row w w.heap.size 1 A n (bv l)) (hc : n ≤ c) (hcm : c ≤ maxLen) (hn : n ≤ 1000000) (hT : Typ23 w) :
    Calls Tryd.prog 11 #[.slice A n c] w fun e w' => ∃ m' : Mp, e = .returned (.tuple #[.agg m'.cells.toArray, .int .i64 (getF4 l).2]) ∧ m'.ok w' ∧ m'.got = (getF4 l).1 ∧ Below w.heap.size w w' := by
  by_cases he : (readF4 l).2 = 0
  · exact get23_ok A n c l w h hc hcm hn he hT
  · refine (get23_no A n c l w h hc hcm hn he).mono ?_
    rintro e w' ⟨rfl, hb⟩
    have hg : getF4 l = (noGot, (readF4 l).2) := by unfold getF4; rw [if_pos he]
    exact ⟨Mp.zero, by rw [hg], Mp.zero_ok _, by rw [hg]; rfl, hb⟩
end Go.Proofs.YtckbleiikldloaaDoor


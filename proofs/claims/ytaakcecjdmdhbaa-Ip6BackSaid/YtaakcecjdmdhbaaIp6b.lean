/- What the program's and the reference's Body, Ttl and Put of IPv6 compute. No condition but sizes. -/
import Derived.Test.YtaakcecjdmdhbaaRip6
import Derived.Test.YtaakcecjdmdhbaaConcat
namespace Go.Proofs.Ytaakcecjdmdhbaa
open Go.RowKit
set_option linter.unusedVariables false
set_option linter.unusedSimpArgs false

/-- what stands behind the header -/
def body6 (l : List UInt8) : List UInt8 := if (par6 l).2 = 0 then (l.drop 40).take (par6 l).1.len.toNat else []
theorem par6_fit (l : List UInt8) (h6 : H6) (hp : par6 l = (h6, 0)) : 0 ≤ h6.len ∧ 40 + h6.len ≤ l.length ∧ 40 ≤ l.length := by
  unfold par6 at hp
  split at hp
  · injection hp with _ h; cases h
  split at hp
  · injection hp with _ h; cases h
  split at hp
  · injection hp with _ h; cases h
  rename_i h1 h2 h3
  injection hp with h _
  subst h
  simp only
  omega

set_option maxHeartbeats 1000000 in
theorem body6_any (A : Option Addr) (n c : Nat) (l : List UInt8) (w : World) (h : Row w w.heap.size 1 A n (bv l)) (hc : n ≤ c) (hcm : c ≤ maxLen) (hn : n ≤ 1099511627776) :
    Calls Try.prog 10 #[.slice A n c] w fun e w' => ∃ r : Bs, e = .returned r.v ∧ r.l = body6 l ∧ r.ok w' ∧ Below w.heap.size w w' := by
  have hll : l.length = n := by have := h.1; rw [bv_length] at this; omega
  have P := parse6_any A n c l w h hc hcm hn
  have hok := par6_ok l
  unfold body6
  cases hp : par6 l with
  | mk h6 er =>
  rw [hp] at P hok
  simp only at P hok ⊢
  have HP := Lib.hid P
  have HOK := Lib.hid hok
  have HPP := Lib.hid hp
  have HH := Lib.hid h
  have HLL := Lib.hid hll
  clear P hok hp h hll
  by_cases he : er = 0
  · subst he
    obtain ⟨f0, f1, f2⟩ := par6_fit l h6 HPP.out
    rw [HLL.out] at f1 f2
    go_enter Try.func10, Try.ntmps10
    go_wp2_with fail
    refine HP.out.mono ?_
    rintro e w1 ⟨rfl, hb1⟩
    go_wp2_with (first
      | (refine wpList_alloc_blk rfl 26 rfl H6.zero.cells zero6 ?_; intro w2 hb2 hB2 hs2)
      | (refine wpList_store_all rfl 26 _ _ rfl w1.heap.size h6.cells rfl rfl 26 _ hb2 (size6 _ HOK.out) (H6.cells_same _ _ HOK.out H6.zero_ok) (H6.one _) ?_; intro w3 hb3 hg3 hs3; have hB3 : Below w1.heap.size w1 w3 := bgrown hB2 hg3 (by omega) (by omega); have hlen3 : w3.cell? ⟨w1.heap.size, 2, none⟩ = some (.int .i64 h6.len) := hb3.cell 2))
    have hB4 := bthen hb1 hB3
    refine (cut_yes A n c l 40 h6.len w3 ((HH.out.below hB4).more hB4.size) hc hcm hn (by omega) f0 (by omega)).mono ?_
    rintro e w4 ⟨A', c', rfl, hown, hb4⟩
    have HO := Lib.hid hown
    clear hown hlen3
    go_wp2_with fail
    go_ret
    exact ⟨⟨A', h6.len.toNat, c', _⟩, rfl, rfl, HO.out.ok, bthen hB4 hb4⟩
  · have hne : (er != 0) = true := by simpa using he
    rw [if_neg he]
    clear he
    go_enter Try.func10, Try.ntmps10
    go_wp2_with fail
    refine HP.out.mono ?_
    rintro e w1 ⟨rfl, hb1⟩
    go_wp2_with (first
      | (refine wpList_alloc_blk rfl 26 rfl H6.zero.cells zero6 ?_; intro w2 hb2 hB2 hs2)
      | (refine wpList_store_all rfl 26 _ _ rfl w1.heap.size h6.cells rfl rfl 26 _ hb2 (size6 _ HOK.out) (H6.cells_same _ _ HOK.out H6.zero_ok) (H6.one _) ?_; intro w3 hb3 hg3 hs3; have hB3 : Below w1.heap.size w1 w3 := bgrown hB2 hg3 (by omega) (by omega)))
    go_ret
    exact ⟨⟨none, 0, 0, []⟩, rfl, rfl, ok_nil _, bthen hb1 hB3⟩

theorem str_ex (l : List UInt8) (i j : Nat) : (ByteArray.mk l.toArray).extract i j = ByteArray.mk ((l.take j).drop i).toArray := by
  apply ByteArray.ext
  simp [List.drop_take]

set_option maxHeartbeats 1000000 in
theorem rbody6_any (l : List UInt8) (w : World) (hn : l.length ≤ 1099511627776) :
    Calls Try.prog 11 #[str l] w fun e w' => e = .returned (str (body6 l)) ∧ Below w.heap.size w w' := by
  have P := rparse6_any l w hn
  have hok := par6_ok l
  unfold body6
  cases hp : par6 l with
  | mk h6 er =>
  rw [hp] at P hok
  simp only at P hok ⊢
  have HP := Lib.hid P
  have HOK := Lib.hid hok
  have HPP := Lib.hid hp
  clear P hok hp
  by_cases he : er = 0
  · subst he
    obtain ⟨f0, f1, f2⟩ := par6_fit l h6 HPP.out
    have hx : Value.string ((ByteArray.mk l.toArray).extract 40 (40 + h6.len).toNat) = str ((l.drop 40).take h6.len.toNat) := by
      rw [str_ex]
      unfold str
      congr 3
      rw [List.drop_take]
      congr 1
      omega
    have HX := Lib.hid hx
    have g1 : (40 : Int) ≤ 40 + h6.len := by omega
    have g2 : (40 : Int) + h6.len ≤ 9223372036854775807 := by omega
    clear hx
    go_enter Try.func11, Try.ntmps11
    go_wp2_with fail
    refine HP.out.mono ?_
    rintro e w1 ⟨rfl, hb1⟩
    go_wp2_with (first
      | (refine wpList_alloc_blk rfl 26 rfl H6.zero.cells zero6 ?_; intro w2 hb2 hB2 hs2)
      | (refine wpList_store_all rfl 26 _ _ rfl w1.heap.size h6.cells rfl rfl 26 _ hb2 (size6 _ HOK.out) (H6.cells_same _ _ HOK.out H6.zero_ok) (H6.one _) ?_; intro w3 hb3 hg3 hs3; have hB3 : Below w1.heap.size w1 w3 := bgrown hB2 hg3 (by omega) (by omega); have hlen3 : w3.cell? ⟨w1.heap.size, 2, none⟩ = some (.int .i64 h6.len) := hb3.cell 2))
    go_ret
    exact ⟨by rw [← HX.out]; rfl, bthen hb1 hB3⟩
  · have hne : (er != 0) = true := by simpa using he
    rw [if_neg he]
    clear he
    go_enter Try.func11, Try.ntmps11
    go_wp2_with fail
    refine HP.out.mono ?_
    rintro e w1 ⟨rfl, hb1⟩
    go_wp2_with (first
      | (refine wpList_alloc_blk rfl 26 rfl H6.zero.cells zero6 ?_; intro w2 hb2 hB2 hs2)
      | (refine wpList_store_all rfl 26 _ _ rfl w1.heap.size h6.cells rfl rfl 26 _ hb2 (size6 _ HOK.out) (H6.cells_same _ _ HOK.out H6.zero_ok) (H6.one _) ?_; intro w3 hb3 hg3 hs3; have hB3 : Below w1.heap.size w1 w3 := bgrown hB2 hg3 (by omega) (by omega)))
    go_ret
    exact ⟨rfl, bthen hb1 hB3⟩

/-- a packet with another time to live -/
def ttl6 (l : List UInt8) (t : Int) : List UInt8 := if (par6 l).2 = 0 then l.take 7 ++ UInt8.ofNat t.toNat :: l.drop 8 else []
theorem set_bv (l : List UInt8) (k : Nat) (t : Int) (h0 : 0 ≤ t) (h1 : t ≤ 255) (hk : k < l.length) : (bv l).set k (.int .u8 t) = bv (l.take k ++ UInt8.ofNat t.toNat :: l.drop (k + 1)) := by
  have e : l = l.take k ++ l[k] :: l.drop (k + 1) := by rw [← List.drop_eq_getElem_cons hk, List.take_append_drop]
  conv => lhs; rw [e]
  simp only [bv, List.map_append, List.map_cons]
  rw [set_mid _ _ _ _ _ (by simp; omega), u8_of t h0 h1]

set_option maxHeartbeats 1000000 in
theorem ttl6_any (A : Option Addr) (n c : Nat) (l : List UInt8) (t : Int) (w : World) (h : Row w w.heap.size 1 A n (bv l)) (hc : n ≤ c) (hcm : c ≤ maxLen) (hn : n ≤ 1099511627776) (h0 : 0 ≤ t) (h1 : t ≤ 255) :
    Calls Try.prog 14 #[.slice A n c, .int .u8 t] w fun e w' => ∃ r : Bs, e = .returned (.tuple #[r.v, .int .i64 (par6 l).2]) ∧ r.l = ttl6 l t ∧ r.ok w' ∧ Below w.heap.size w w' := by
  have hll : l.length = n := by have := h.1; rw [bv_length] at this; omega
  have P := parse6_any A n c l w h hc hcm hn
  have hok := par6_ok l
  unfold ttl6
  cases hp : par6 l with
  | mk h6 er =>
  rw [hp] at P hok
  simp only at P hok ⊢
  have HP := Lib.hid P
  have HOK := Lib.hid hok
  have HPP := Lib.hid hp
  have HH := Lib.hid h
  have HLL := Lib.hid hll
  clear P hok hp h hll
  by_cases he : er = 0
  · subst he
    obtain ⟨f0, f1, f2⟩ := par6_fit l h6 HPP.out
    rw [HLL.out] at f1 f2
    have i7 : (7 : Int) < n := by omega
    have HSB := Lib.hid (set_bv l 7 t h0 h1 (by rw [HLL.out]; omega))
    go_enter Try.func14, Try.ntmps14
    go_wp2_with fail
    refine HP.out.mono ?_
    rintro e w1 ⟨rfl, hb1⟩
    go_wp2_with (first
      | (refine wpList_alloc_blk rfl 26 rfl H6.zero.cells zero6 ?_; intro w2 hb2 hB2 hs2)
      | (refine wpList_store_all rfl 26 _ _ rfl w1.heap.size h6.cells rfl rfl 26 _ hb2 (size6 _ HOK.out) (H6.cells_same _ _ HOK.out H6.zero_ok) (H6.one _) ?_; intro w3 hb3 hg3 hs3; have hB3 : Below w1.heap.size w1 w3 := bgrown hB2 hg3 (by omega) (by omega)))
    have hB4 := bthen hb1 hB3
    refine (clone_bytes A n c l w3 ((HH.out.below hB4).more hB4.size) hn).mono ?_
    rintro e w4 ⟨A', c', rfl, hown, hb4⟩
    obtain ⟨g, rfl, hg1, hg2, hcl, hfr⟩ := hown.open_ (by omega)
    obtain ⟨u, hu⟩ := get_ex l (k := 7) (by rw [HLL.out]; omega)
    have hcu := hcl 7 _ (bv_get l 7 u hu)
    have hfu := hfr 7
    have HO := Lib.hid hown
    clear hown hcl hfr hu
    go_wp2_with fail
    go_ret2
    have ho := HO.out.set (j := 7) (by omega) (.int .u8 t)
    rw [HSB.out] at ho
    exact ⟨⟨some ⟨g, 0, none⟩, n, c', _⟩, rfl, by simp, ho.ok, (bthen hB4 hb4).setCell (by have := hB4.size; show w.heap.size ≤ g; omega) _⟩
  · have hne : (er != 0) = true := by simpa using he
    rw [if_neg he]
    clear he
    go_enter Try.func14, Try.ntmps14
    go_wp2_with fail
    refine HP.out.mono ?_
    rintro e w1 ⟨rfl, hb1⟩
    go_wp2_with (first
      | (refine wpList_alloc_blk rfl 26 rfl H6.zero.cells zero6 ?_; intro w2 hb2 hB2 hs2)
      | (refine wpList_store_all rfl 26 _ _ rfl w1.heap.size h6.cells rfl rfl 26 _ hb2 (size6 _ HOK.out) (H6.cells_same _ _ HOK.out H6.zero_ok) (H6.one _) ?_; intro w3 hb3 hg3 hs3; have hB3 : Below w1.heap.size w1 w3 := bgrown hB2 hg3 (by omega) (by omega)))
    go_ret2
    exact ⟨⟨none, 0, 0, []⟩, rfl, rfl, ok_nil _, bthen hb1 hB3⟩

set_option maxHeartbeats 2000000 in
theorem rttl6_any (l : List UInt8) (t : Int) (w : World) (hn : l.length ≤ 1099511627776) (h0 : 0 ≤ t) (h1 : t ≤ 255) :
    Calls Try.prog 15 #[str l, .int .u8 t] w fun e w' => e = .returned (.tuple #[str (ttl6 l t), .int .i64 (par6 l).2]) ∧ Below w.heap.size w w' := by
  have P := rparse6_any l w hn
  have hok := par6_ok l
  unfold ttl6
  cases hp : par6 l with
  | mk h6 er =>
  rw [hp] at P hok
  simp only at P hok ⊢
  have HP := Lib.hid P
  have HOK := Lib.hid hok
  have HPP := Lib.hid hp
  clear P hok hp
  by_cases he : er = 0
  · subst he
    obtain ⟨f0, f1, f2⟩ := par6_fit l h6 HPP.out
    have i7 : (7 : Int) ≤ (l.length : Int) := by omega
    have i8 : (8 : Int) ≤ (l.length : Int) := by omega
    have HX7 := Lib.hid (show (ByteArray.mk l.toArray).extract 0 7 = ByteArray.mk (l.take 7).toArray by rw [str_ex]; rfl)
    have HX8 := Lib.hid (Value.string.inj (str_drop l 8))
    go_enter Try.func15, Try.ntmps15
    go_wp2_with fail
    refine HP.out.mono ?_
    rintro e w1 ⟨rfl, hb1⟩
    go_wp2_with (first
      | (refine wpList_alloc_blk rfl 26 rfl H6.zero.cells zero6 ?_; intro w2 hb2 hB2 hs2)
      | (refine wpList_store_all rfl 26 _ _ rfl w1.heap.size h6.cells rfl rfl 26 _ hb2 (size6 _ HOK.out) (H6.cells_same _ _ HOK.out H6.zero_ok) (H6.one _) ?_; intro w3 hb3 hg3 hs3; have hB3 : Below w1.heap.size w1 w3 := bgrown hB2 hg3 (by omega) (by omega)))
    have hB4 := bthen hb1 hB3
    refine wp_region_rel (fun A B => A.grownBy B none) (fun A => grown_refl A _) (fun A B C h k => grown_trans h k) (relAt [fun v _ => v = str l, fun v _ => v = str (l.take 7), fun v _ => v = .int .u8 t, BsR [UInt8.ofNat t.toNat], fun v _ => v = str [UInt8.ofNat t.toNat], fun v _ => v = str (l.take 7 ++ [UInt8.ofNat t.toNat]), fun v _ => v = str l, fun v _ => v = str (l.drop 8), fun v _ => v = str (l.take 7 ++ [UInt8.ofNat t.toNat] ++ l.drop 8), fun v _ => v = str (l.take 7 ++ [UInt8.ofNat t.toNat] ++ l.drop 8), fun v _ => v = .int .i64 0]) (MonoL.at_ (.cons (mono_val _) (.cons (mono_val _) (.cons (mono_val _) (.cons (mono_bs _) (.cons (mono_val _) (.cons (mono_val _) (.cons (mono_val _) (.cons (mono_val _) (.cons (mono_val _) (.cons (mono_val _) (.cons (mono_val _) .nil)))))))))))) (by kernel_rfl) (by kernel_rfl) ⟨?_, ?_, ?_, ?_, ?_, ?_, ?_, ?_, ?_, ?_, ?_, trivial⟩ ?_
    · intro a vs W hX hR he hf K hK
      rw [if_pos (wanted_none rfl)]
      have e0 : a.eval (.tmp 0) = str l := hf 0 (by kernel_rfl)
      refine wp_value (v := str l) ?_ (hK _ _ rfl (grown_refl W _))
      simp only [execOp, e0]
      try go_simp
      try (first | rfl | omega | (simp only [IntKind.wrap_i64, IntKind.wrap_u8, IntKind.wrap_u64, IntKind.wrap_u16, IntKind.wrap_u32]; omega) | (rw [Int.tmod_eq_emod_of_nonneg (by omega)]) | (rw [Int.tmod_eq_emod_of_nonneg (by omega)]; omega))
    · intro a vs W hX hR he hf K hK
      rw [if_pos (wanted_none rfl)]
      have e16 : a.eval (.tmp 16) = str l := (he 0 16 (by kernel_rfl) rfl).trans (hR 0 (by kernel_rfl))
      refine wp_value (v := str (l.take 7)) ?_ (hK _ _ rfl (grown_refl W _))
      simp only [execOp, e16]
      go_simp
      exact HX7.out
    · intro a vs W hX hR he hf K hK
      rw [if_pos (wanted_none rfl)]
      have e1 : a.eval (.tmp 1) = .int .u8 t := hf 1 (by kernel_rfl)
      refine wp_value (v := .int .u8 t) ?_ (hK _ _ rfl (grown_refl W _))
      simp only [execOp, e1]
      try go_simp
      try (first | rfl | omega | (simp only [IntKind.wrap_i64, IntKind.wrap_u8, IntKind.wrap_u64, IntKind.wrap_u16, IntKind.wrap_u32]; omega) | (rw [Int.tmod_eq_emod_of_nonneg (by omega)]) | (rw [Int.tmod_eq_emod_of_nonneg (by omega)]; omega))
    · intro a vs W hX hR he hf K hK
      rw [if_pos (wanted_none rfl)]
      have e18 : a.eval (.tmp 18) = .int .u8 t := (he 2 18 (by kernel_rfl) rfl).trans (hR 2 (by kernel_rfl))
      refine wp_value (v := .slice (some ⟨W.heap.size, 0, none⟩) 1 1) (w' := W.alloc (.cells #[.int .u8 t] 5)) ?_ (hK _ _ ⟨_, _, _, rfl, ⟨by rw [World.size_alloc]; exact row_lit W _ [UInt8.ofNat t.toNat] 1 (by simp [bv]; omega) rfl, Nat.le_refl _, by simp [maxLen]⟩⟩ (World.grownBy_alloc _ _ _))
      have f18 : a.tmps[18]?.getD undef = .int .u8 t := by simpa [Act.eval] using e18
      simp only [execOp]
      go_simp
    · intro a vs W hX hR he hf K hK
      rw [if_pos (wanted_none rfl)]
      have e19 := he 3 19 (by kernel_rfl) rfl
      have p19 := hR 3 (by kernel_rfl)
      obtain ⟨A, n, c, hv, ho⟩ := p19
      rw [hv] at e19
      exact wp_value (exec_str 22 9 5 _ rfl Try.underlying22 Try.underlying5 Try.underlying9 A n c _ e19 ho) (hK _ _ rfl (grown_refl W _))
    · intro a vs W hX hR he hf K hK
      rw [if_pos (wanted_none rfl)]
      have e17 : a.eval (.tmp 17) = str (l.take 7) := (he 1 17 (by kernel_rfl) rfl).trans (hR 1 (by kernel_rfl))
      have e20 : a.eval (.tmp 20) = str [UInt8.ofNat t.toNat] := (he 4 20 (by kernel_rfl) rfl).trans (hR 4 (by kernel_rfl))
      refine wp_value (v := _) ?_ (hK _ _ rfl (grown_refl W _))
      simp only [execOp, e17, e20]
      go_simp
      simp [ba_append]
      try omega
    · intro a vs W hX hR he hf K hK
      rw [if_pos (wanted_none rfl)]
      have e0 : a.eval (.tmp 0) = str l := hf 0 (by kernel_rfl)
      refine wp_value (v := str l) ?_ (hK _ _ rfl (grown_refl W _))
      simp only [execOp, e0]
      try go_simp
      try (first | rfl | omega | (simp only [IntKind.wrap_i64, IntKind.wrap_u8, IntKind.wrap_u64, IntKind.wrap_u16, IntKind.wrap_u32]; omega) | (rw [Int.tmod_eq_emod_of_nonneg (by omega)]) | (rw [Int.tmod_eq_emod_of_nonneg (by omega)]; omega))
    · intro a vs W hX hR he hf K hK
      rw [if_pos (wanted_none rfl)]
      have e22 : a.eval (.tmp 22) = str l := (he 6 22 (by kernel_rfl) rfl).trans (hR 6 (by kernel_rfl))
      refine wp_value (v := str (l.drop 8)) ?_ (hK _ _ rfl (grown_refl W _))
      simp only [execOp, e22]
      go_simp
      exact HX8.out
    · intro a vs W hX hR he hf K hK
      rw [if_pos (wanted_none rfl)]
      have e21 : a.eval (.tmp 21) = str (l.take 7 ++ [UInt8.ofNat t.toNat]) := (he 5 21 (by kernel_rfl) rfl).trans (hR 5 (by kernel_rfl))
      have e23 : a.eval (.tmp 23) = str (l.drop 8) := (he 7 23 (by kernel_rfl) rfl).trans (hR 7 (by kernel_rfl))
      refine wp_value (v := _) ?_ (hK _ _ rfl (grown_refl W _))
      simp only [execOp, e21, e23]
      go_simp
      simp [ba_append]
      try omega
    · intro a vs W hX hR he hf K hK
      rw [if_pos (wanted_none rfl)]
      have e24 : a.eval (.tmp 24) = str (l.take 7 ++ [UInt8.ofNat t.toNat] ++ l.drop 8) := (he 8 24 (by kernel_rfl) rfl).trans (hR 8 (by kernel_rfl))
      refine wp_value (v := str (l.take 7 ++ [UInt8.ofNat t.toNat] ++ l.drop 8)) ?_ (hK _ _ rfl (grown_refl W _))
      simp only [execOp, e24]
      try go_simp
      try (first | rfl | omega | (simp only [IntKind.wrap_i64, IntKind.wrap_u8, IntKind.wrap_u64, IntKind.wrap_u16, IntKind.wrap_u32]; omega) | (rw [Int.tmod_eq_emod_of_nonneg (by omega)]) | (rw [Int.tmod_eq_emod_of_nonneg (by omega)]; omega))
    · intro a vs W hX hR he hf K hK
      rw [if_pos (wanted_none rfl)]
      refine wp_value (v := .int .i64 0) ?_ (hK _ _ rfl (grown_refl W _))
      simp only [execOp]
      try go_simp
      try (first | rfl | omega | (simp only [IntKind.wrap_i64, IntKind.wrap_u8, IntKind.wrap_u64, IntKind.wrap_u16, IntKind.wrap_u32]; omega) | (rw [Int.tmod_eq_emod_of_nonneg (by omega)]) | (rw [Int.tmod_eq_emod_of_nonneg (by omega)]; omega))
    · intro vs W hX hR
      have q0 := hR 0 (by decide)
      have q1 := hR 1 (by decide)
      have q2 := hR 2 (by decide)
      have q3 := hR 3 (by decide)
      have q4 := hR 4 (by decide)
      have q5 := hR 5 (by decide)
      have q6 := hR 6 (by decide)
      have q7 := hR 7 (by decide)
      have q8 := hR 8 (by decide)
      have q9 := hR 9 (by decide)
      have q10 := hR 10 (by decide)
      change vs 0 = str l at q0
      change vs 1 = str (l.take 7) at q1
      change vs 2 = .int .u8 t at q2
      change (BsR [UInt8.ofNat t.toNat]) (vs 3) W at q3
      change vs 4 = str [UInt8.ofNat t.toNat] at q4
      change vs 5 = str (l.take 7 ++ [UInt8.ofNat t.toNat]) at q5
      change vs 6 = str l at q6
      change vs 7 = str (l.drop 8) at q7
      change vs 8 = str (l.take 7 ++ [UInt8.ofNat t.toNat] ++ l.drop 8) at q8
      change vs 9 = str (l.take 7 ++ [UInt8.ofNat t.toNat] ++ l.drop 8) at q9
      change vs 10 = .int .i64 0 at q10
      simp only [putAll, Act.put, List.setIfInBounds_toArray, List.set_cons_zero, List.set_cons_succ, q0, q1, q2, q4, q5, q6, q7, q8, q9, q10]
      clear q0 q1 q2 q4 q5 q6 q7 q8 q9 q10
      clear hR
      go_wp2
      go_ret2
      exact ⟨by simp, bthen hB4 (bthen (below_drew _) (grow_below hX))⟩
  · have hne : (er != 0) = true := by simpa using he
    rw [if_neg he]
    clear he
    go_enter Try.func15, Try.ntmps15
    go_wp2_with fail
    refine HP.out.mono ?_
    rintro e w1 ⟨rfl, hb1⟩
    go_wp2_with (first
      | (refine wpList_alloc_blk rfl 26 rfl H6.zero.cells zero6 ?_; intro w2 hb2 hB2 hs2)
      | (refine wpList_store_all rfl 26 _ _ rfl w1.heap.size h6.cells rfl rfl 26 _ hb2 (size6 _ HOK.out) (H6.cells_same _ _ HOK.out H6.zero_ok) (H6.one _) ?_; intro w3 hb3 hg3 hs3; have hB3 : Below w1.heap.size w1 w3 := bgrown hB2 hg3 (by omega) (by omega)))
    go_ret2
    exact ⟨rfl, bthen hb1 hB3⟩
end Go.Proofs.Ytaakcecjdmdhbaa

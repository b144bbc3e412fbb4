/- Texts of this claim put together, in build order: each one's own remark stands ahead of it. -/
import Derived.Test.YtbcjkjmjljfhpaaDoorG25
import Derived.Deep.DeepCutAuto
import Derived.Test.YtbcjkjmjljfhpaaDoorG01
import Derived.OpenShut
import Derived.ShutString
import Derived.ChangeOld
import Derived.Test.YtbcjkjmjljfhpaaDoorG08
import Derived.Deep.Slices
import Derived.Deep.Fields
import Derived.ChangeSame
import Derived.Test.YtbcjkjmjljfhpaaDoorG18
import Derived.Test.YtbcjkjmjljfhpaaDoorG20
import Derived.Test.YtbcjkjmjljfhpaaDoorG21
import Derived.ProofKit
import Derived.LaidMore
import Derived.Stop.Joined
/- awake of layer 24 (icmp6): the document's example. No condition but what the package's table holds. -/
namespace Go.Proofs.YtbcjkjmjljfhpaaDoor
open Go.RowKit
set_option linter.unusedVariables false
set_option maxRecDepth 20000
set_option linter.unusedSimpArgs false

def e24 : Ent := ⟨16, 0, true, 1⟩
def s24 (k : UInt8) : List UInt8 := [k, 0, 0, 0, 0, 0, 0, 0, 0, 0, 0, 0, 0, 0, 0, 0]
def abc24 : List UInt8 := [97, 98, 99]
def mA24 (A : Option Addr) (c : Nat) : Mm := ⟨0, 0, abc24, A, 1, c, [e24]⟩
def mB24 : Mm := ⟨1, 1400, abc24, none, 0, 0, []⟩
def mC24 : Mm := ⟨2, 1, [], none, 0, 0, []⟩
def zA24 : List UInt8 := (put24 (mA24 none 0) (s24 1) (s24 2)).1
def zB24 : List UInt8 := (put24 mB24 (s24 0) (s24 0)).1
theorem fit24 : ∀ x ∈ [e24], x.fit := by
  intro x hx
  obtain rfl := List.mem_singleton.1 hx
  exact ⟨by decide, by decide, by decide, by decide, by decide, by decide⟩
theorem putA24 (A : Option Addr) (c : Nat) : put24 (mA24 A c) (s24 1) (s24 2) = (zA24, 0) := by
  have h : (put24 (mA24 none 0) (s24 1) (s24 2)).2 = 0 := by kernel_rfl
  have e : put24 (mA24 A c) (s24 1) (s24 2) = put24 (mA24 none 0) (s24 1) (s24 2) := rfl
  rw [e]
  unfold zA24
  rw [← h]
theorem putB24 : put24 mB24 (s24 0) (s24 0) = (zB24, 0) := by
  have h : (put24 mB24 (s24 0) (s24 0)).2 = 0 := by kernel_rfl
  unfold zB24
  rw [← h]
theorem putC24 : put24 mC24 (s24 0) (s24 0) = ([], 1) := by kernel_rfl
theorem zA24_len : zA24.length = 188 := by kernel_rfl
theorem zA24_40 : zA24[40]? = some 3 := by kernel_rfl
theorem zA24_44 : zA24[44]? = some 16 := by kernel_rfl
theorem zB24_len : zB24.length = 51 := by kernel_rfl
theorem isB24 : isF6 zB24 = true := by kernel_rfl
theorem getA24 : getF6 zA24 = ((0, 0, begin24 abc24 true, [e24]), 0) := getF6_back (mA24 none 0) (s24 1) (s24 2) rfl rfl (by rw [putA24]) rfl fit24
theorem getB24 : getF6 zB24 = ((1, 1400, abc24, []), 0) := getF6_back mB24 (s24 0) (s24 0) rfl rfl (by rw [putB24]) rfl (by simp [mB24])

theorem arr24_0 : (bv (s24 0)).toArray = #[.int .u8 0, .int .u8 0, .int .u8 0, .int .u8 0, .int .u8 0, .int .u8 0, .int .u8 0, .int .u8 0, .int .u8 0, .int .u8 0, .int .u8 0, .int .u8 0, .int .u8 0, .int .u8 0, .int .u8 0, .int .u8 0] := by kernel_rfl
theorem arr24_1 : (bv (s24 1)).toArray = #[.int .u8 1, .int .u8 0, .int .u8 0, .int .u8 0, .int .u8 0, .int .u8 0, .int .u8 0, .int .u8 0, .int .u8 0, .int .u8 0, .int .u8 0, .int .u8 0, .int .u8 0, .int .u8 0, .int .u8 0, .int .u8 0] := by kernel_rfl
theorem arr24_2 : (bv (s24 2)).toArray = #[.int .u8 2, .int .u8 0, .int .u8 0, .int .u8 0, .int .u8 0, .int .u8 0, .int .u8 0, .int .u8 0, .int .u8 0, .int .u8 0, .int .u8 0, .int .u8 0, .int .u8 0, .int .u8 0, .int .u8 0, .int .u8 0] := by kernel_rfl

set_option maxRecDepth 100000 in
set_option maxHeartbeats 4000000 in
theorem awake24 (w : World) (hT : Typ24 w) : Calls Tryd.prog 7 #[] w fun e w' => e = .returned (.bool true) ∧ Below w.heap.size w w' := by
  have kc := fun (w : World) (C : Array Value) (n c g : Nat) (hg : w.heap.size = g) => run_const (P := Tryd.prog) w 22 5 C n c Tryd.underlying22 Tryd.underlying5 g hg
  have HT := Lib.hid hT
  clear hT
  go_enter Tryd.func7, Tryd.ntmps7
  go_wp2_with fail
  have hB0 := bthen (alloc_below w (.cells #[.int .i64 16, .int .u8 0, .bool true, .int .u8 1] 49)) (alloc_below _ (.cells #[.int .u8 97, .int .u8 98, .int .u8 99] 5 (3, 4)))
  have hE0 := row_newE w e24
  have hE1 : Row ((w.alloc (.cells #[.int .i64 16, .int .u8 0, .bool true, .int .u8 1] 49)).alloc (.cells #[.int .u8 97, .int .u8 98, .int .u8 99] 5 (3, 4))) (w.heap.size + 1) 4 (some ⟨w.heap.size, 0, none⟩) 1 (evs [e24]) := hE0.below_le (alloc_below _ _) (by simp)
  have hA1 := row_litF (e := 5) (w.alloc (.cells #[.int .i64 16, .int .u8 0, .bool true, .int .u8 1] 49)) #[.int .u8 97, .int .u8 98, .int .u8 99] (3, 4) abc24 3 rfl rfl
  rw [World.size_alloc] at hA1
  obtain ⟨W0, hW0⟩ : ∃ W0, ((w.alloc (.cells #[.int .i64 16, .int .u8 0, .bool true, .int .u8 1] 49)).alloc (.cells #[.int .u8 97, .int .u8 98, .int .u8 99] 5 (3, 4))) = W0 := ⟨_, rfl⟩
  have hsz : W0.heap.size = w.heap.size + 1 + 1 := by rw [← hW0]; simp
  rw [hW0] at hB0 hE1 hA1 ⊢
  have HW := Lib.hid hB0
  have HE := Lib.hid (hE1.more (B' := W0.heap.size) (by omega))
  have HA := Lib.hid (hA1.more (B' := W0.heap.size) (by omega))
  clear hB0 hE0 hE1 hA1 hW0 hsz
  have PP := put24p_any ⟨0, 0, some ⟨w.heap.size + 1, 0, none⟩, 3, 3, abc24, some ⟨w.heap.size, 0, none⟩, 1, 1, [e24]⟩ W0 ⟨by dsimp only; omega, by dsimp only; omega, HA.out, Nat.le_refl _, by show (3 : Nat) ≤ maxLen; decide, HE.out, Nat.le_refl _, by show (1 : Nat) ≤ maxLen; decide, fit24⟩ (HT.out.on HW.out) (by show 3 ≤ 1000000; omega) (s24 1) (s24 2) rfl rfl
  rw [arr24_1, arr24_2] at PP
  simp only [Mp.cells] at PP
  refine PP.mono ?_
  clear PP
  rintro e w1 ⟨A1, n1, c1, rfl, ho1, hb1⟩
  rw [show put24 (Mp.m ⟨0, 0, some ⟨w.heap.size + 1, 0, none⟩, 3, 3, abc24, some ⟨w.heap.size, 0, none⟩, 1, 1, [e24]⟩) (s24 1) (s24 2) = (zA24, 0) from putA24 _ _] at ho1 ⊢
  dsimp only at ho1 ⊢
  have hn1 : n1 = 188 := by have := ho1.len; rw [bv_length, zA24_len] at this; omega
  subst hn1
  replace HW := Lib.hid (bthen HW.out hb1)
  replace HE := Lib.hid ((HE.out.below hb1).more hb1.size)
  have H1 := Lib.hid ho1
  clear ho1 hb1 HA
  go_wp2_with fail
  refine (get24_any A1 188 c1 zA24 w1 H1.out.row H1.out.le H1.out.cap (by omega) (HT.out.on HW.out)).mono ?_
  rintro e w2 ⟨m2, rfl, hok2, hgot2, hb2⟩
  rw [getA24] at hgot2 ⊢
  dsimp only at hgot2 ⊢
  obtain ⟨k2, t2, P2, pn2, pc2, bg2, A2, n2, c2, st2⟩ := m2
  have hq := hgot2
  unfold Mp.got at hq
  simp only [Prod.mk.injEq] at hq
  obtain ⟨rfl, rfl, rfl, rfl⟩ := hq
  have hp2 : pn2 = 128 := by have := hok2.blen; dsimp only at this; rw [begin24_full] at this; omega
  have hn2 : n2 = 1 := by have := hok2.slen; dsimp only at this; simp at this; omega
  subst hp2 hn2
  replace HW := Lib.hid (bthen HW.out hb2)
  replace HE := Lib.hid ((HE.out.below hb2).more hb2.size)
  replace H1 := Lib.hid (H1.out.below hb2)
  have H2 := Lib.hid hok2
  clear hok2 hgot2 hb2
  go_upto_region 4 with (first
    | (refine wpList_alloc_blk (by rfl) 25 rfl Mp.zero.cells zeroMp ?_; intro w3 hb3 hB3 hs3)
    | (refine wpList_store_all (by rfl) 25 _ _ rfl w2.heap.size (Mp.cells ⟨0, 0, P2, 128, pc2, begin24 abc24 true, A2, 1, c2, [e24]⟩) rfl rfl 25 _ hb3 (sizeMp _) rfl (oneMp _) ?_; intro w4 hb4 hg4 hs4))
  obtain ⟨g4, hg4'⟩ : ∃ g, w2.heap.size = g := ⟨_, rfl⟩
  have hB4 : Below w2.heap.size w2 w4 := bgrown hB3 hg4 (by omega) (Nat.le_refl _)
  rw [hg4'] at hb4
  try rw [hg4']
  replace HW := Lib.hid (bthen HW.out hB4)
  replace HE := Lib.hid ((HE.out.below hB4).more hB4.size)
  replace H1 := Lib.hid (H1.out.below hB4)
  replace H2 := Lib.hid (H2.out.on hB4)
  have HK := Lib.hid hb4
  clear hb3 hB3 hs3 hb4 hg4 hs4 hB4 hg4'
  go_wp2_with fail
  have hB5 := alloc_below w4 (.cells #[.int .u8 97, .int .u8 98, .int .u8 99] 5 (3, 4))
  have hA5 := row_litF (e := 5) w4 #[.int .u8 97, .int .u8 98, .int .u8 99] (3, 4) abc24 3 rfl rfl
  obtain ⟨W5, hW5⟩ : ∃ W5, (w4.alloc (.cells #[.int .u8 97, .int .u8 98, .int .u8 99] 5 (3, 4))) = W5 := ⟨_, rfl⟩
  have hsz : W5.heap.size = w4.heap.size + 1 := by rw [← hW5]; simp
  rw [hW5] at hB5 hA5 ⊢
  replace HW := Lib.hid (bthen HW.out hB5)
  replace HE := Lib.hid ((HE.out.below hB5).more hB5.size)
  replace H1 := Lib.hid (H1.out.below hB5)
  replace H2 := Lib.hid (H2.out.on hB5)
  replace HK := Lib.hid (HK.out.on hB5)
  have HA := Lib.hid (hA5.more (B' := W5.heap.size) (by omega))
  clear hB5 hA5 hW5 hsz
  have PP := put24p_any ⟨1, 1400, some ⟨w4.heap.size, 0, none⟩, 3, 3, abc24, none, 0, 0, []⟩ W5 ⟨by dsimp only; omega, by dsimp only; omega, HA.out, Nat.le_refl _, by show (3 : Nat) ≤ maxLen; decide, Row.nil _ _ _ _, Nat.le_refl _, Nat.zero_le _, by simp⟩ (HT.out.on HW.out) (by show 3 ≤ 1000000; omega) (s24 0) (s24 0) rfl rfl
  rw [arr24_0] at PP
  simp only [Mp.cells] at PP
  refine PP.mono ?_
  clear PP
  rintro e w6 ⟨A6, n6, c6, rfl, ho6, hb6⟩
  rw [show put24 (Mp.m ⟨1, 1400, some ⟨w4.heap.size, 0, none⟩, 3, 3, abc24, none, 0, 0, []⟩) (s24 0) (s24 0) = (zB24, 0) from putB24] at ho6 ⊢
  dsimp only at ho6 ⊢
  have hn6 : n6 = 51 := by have := ho6.len; rw [bv_length, zB24_len] at this; omega
  subst hn6
  replace HW := Lib.hid (bthen HW.out hb6)
  replace HE := Lib.hid ((HE.out.below hb6).more hb6.size)
  replace H1 := Lib.hid (H1.out.below hb6)
  replace H2 := Lib.hid (H2.out.on hb6)
  replace HK := Lib.hid (HK.out.on hb6)
  have H6 := Lib.hid ho6
  clear ho6 hb6 HA
  go_wp2_with fail
  refine (get24_any A6 51 c6 zB24 w6 H6.out.row H6.out.le H6.out.cap (by omega) (HT.out.on HW.out)).mono ?_
  rintro e w7 ⟨m7, rfl, hok7, hgot7, hb7⟩
  rw [getB24] at hgot7 ⊢
  dsimp only at hgot7 ⊢
  obtain ⟨k7, t7, P7, pn7, pc7, bg7, A7, n7, c7, st7⟩ := m7
  have hq := hgot7
  unfold Mp.got at hq
  simp only [Prod.mk.injEq] at hq
  obtain ⟨rfl, rfl, rfl, rfl⟩ := hq
  have hp7 : pn7 = 3 := by have := hok7.blen; dsimp only at this; simp [abc24] at this; omega
  subst hp7
  replace HW := Lib.hid (bthen HW.out hb7)
  replace HE := Lib.hid ((HE.out.below hb7).more hb7.size)
  replace H1 := Lib.hid (H1.out.below hb7)
  replace H2 := Lib.hid (H2.out.on hb7)
  replace HK := Lib.hid (HK.out.on hb7)
  replace H6 := Lib.hid (H6.out.below hb7)
  have H7 := Lib.hid hok7
  clear hok7 hgot7 hb7
  go_upto_region 6 with (first
    | (refine wpList_alloc_blk (by rfl) 25 rfl Mp.zero.cells zeroMp ?_; intro w8 hb8 hB8 hs8)
    | (refine wpList_store_all (by rfl) 25 _ _ rfl w7.heap.size (Mp.cells ⟨1, 1400, P7, 3, pc7, abc24, A7, n7, c7, []⟩) rfl rfl 25 _ hb8 (sizeMp _) rfl (oneMp _) ?_; intro w9 hb9 hg9 hs9))
  obtain ⟨g9, hg9'⟩ : ∃ g, w7.heap.size = g := ⟨_, rfl⟩
  have hB9 : Below w7.heap.size w7 w9 := bgrown hB8 hg9 (by omega) (Nat.le_refl _)
  rw [hg9'] at hb9
  try rw [hg9']
  replace HW := Lib.hid (bthen HW.out hB9)
  replace HE := Lib.hid ((HE.out.below hB9).more hB9.size)
  replace H1 := Lib.hid (H1.out.below hB9)
  replace H2 := Lib.hid (H2.out.on hB9)
  replace HK := Lib.hid (HK.out.on hB9)
  replace H6 := Lib.hid (H6.out.below hB9)
  replace H7 := Lib.hid (H7.out.on hB9)
  have HL := Lib.hid hb9
  clear hb8 hB8 hs8 hb9 hg9 hs9 hB9 hg9'
  go_wp2_with fail
  have PP := put24p_any ⟨2, 1, none, 0, 0, [], none, 0, 0, []⟩ w9 ⟨by dsimp only; omega, by dsimp only; omega, Row.nil _ _ _ _, Nat.le_refl _, Nat.zero_le _, Row.nil _ _ _ _, Nat.le_refl _, Nat.zero_le _, by simp⟩ (HT.out.on HW.out) (by show 0 ≤ 1000000; omega) (s24 0) (s24 0) rfl rfl
  rw [arr24_0] at PP
  simp only [Mp.cells] at PP
  refine PP.mono ?_
  clear PP
  rintro e w10 ⟨A10, n10, c10, rfl, ho10, hb10⟩
  rw [show put24 (Mp.m ⟨2, 1, none, 0, 0, [], none, 0, 0, []⟩) (s24 0) (s24 0) = ([], 1) from putC24] at ho10 ⊢
  dsimp only at ho10 ⊢
  replace HW := Lib.hid (bthen HW.out hb10)
  replace HE := Lib.hid ((HE.out.below hb10).more hb10.size)
  replace H1 := Lib.hid (H1.out.below hb10)
  replace H2 := Lib.hid (H2.out.on hb10)
  have hK10 := HK.out.on hb10
  replace H6 := Lib.hid (H6.out.below hb10)
  replace H7 := Lib.hid (H7.out.on hb10)
  have hL10 := HL.out.on hb10
  obtain ⟨b1, hA1, _, _, hc1, _⟩ := H1.out.open_ (by omega)
  subst hA1
  have h40 : w10.cell? ⟨b1, 40, none⟩ = some (.int .u8 3) := hc1 40 _ (bv_get _ _ _ zA24_40)
  have h44 : w10.cell? ⟨b1, 44, none⟩ = some (.int .u8 16) := hc1 44 _ (bv_get _ _ _ zA24_44)
  have k0 : w10.cell? ⟨g4, 0, none⟩ = some (.int .i64 0) := hK10.cell 0
  have k2 : w10.cell? ⟨g4, 2, none⟩ = some (.slice P2 128 pc2) := hK10.cell 2
  have k3 : w10.cell? ⟨g4, 3, none⟩ = some (.slice A2 1 c2) := hK10.cell 3
  have l1 : w10.cell? ⟨g9, 1, none⟩ = some (.int .i64 1400) := hL10.cell 1
  have l2 : w10.cell? ⟨g9, 2, none⟩ = some (.slice P7 3 pc7) := hL10.cell 2
  have HKK := Lib.hid hK10
  have HLL := Lib.hid hL10
  clear ho10 hb10 hc1 hK10 hL10 HK HL
  go_wp2_with fail
  refine (exact_same A2 (some ⟨w.heap.size, 0, none⟩) 1 c2 1 [e24] w10 _ H2.out.row HE.out (by omega)).mono ?_
  rintro e w11 ⟨rfl, hb11⟩
  replace HW := Lib.hid (bthen HW.out hb11)
  replace H6 := Lib.hid (H6.out.below hb11)
  replace H7 := Lib.hid (H7.out.on hb11)
  have hL11 := HLL.out.on hb11
  clear l1 l2 h40 h44 k0 k2 k3
  have l1 : w11.cell? ⟨g9, 1, none⟩ = some (.int .i64 1400) := hL11.cell 1
  have l2 : w11.cell? ⟨g9, 2, none⟩ = some (.slice P7 3 pc7) := hL11.cell 2
  clear hb11 hL11 HLL HKK
  go_wp2_with (first
    | (refine wpList_str (by rfl) (.tmp 105) 22 9 5 rfl Tryd.underlying22 Tryd.underlying5 Tryd.underlying9 _ _ _ _ abc24 (by rfl) H7.out.brow ?_)
    | (refine wpList_value (by rfl) (exec_eqS24 _ _ _ rfl abc24 (by rfl) (by rfl)) ?_))
  refine (is24_any A6 51 c6 zB24 w11 H6.out.row H6.out.le H6.out.cap (by omega)).mono ?_
  rintro e w12 ⟨rfl, hb12⟩
  rw [isB24]
  replace HW := Lib.hid (bthen HW.out hb12)
  clear l1 l2 hb12
  go_wp2_with fail
  go_ret
  exact ⟨rfl, HW.out⟩
end Go.Proofs.YtbcjkjmjljfhpaaDoor

/- How a law's arguments are opened: slices of bytes and of numbers, structs and arrays by value. No condition. -/
namespace Go.Proofs.YtbcjkjmjljfhpaaDoor
open Go.ChangeShapes Go.WideShapes Go.ChangeAt Go.RowKit
set_option linter.unusedVariables false
set_option maxRecDepth 20000

section
variable {H : Type} {enc : TypeId × Value → H} {P : Program} {w : World} {base : Nat} {spare : Nat → Bool} {held : Bool}

/-- numbers of a kind as cells -/
def nv (k : IntKind) (l : List Int) : List Value := l.map (Value.int k)
theorem nv_length (k : IntKind) (l : List Int) : (nv k l).length = l.length := by simp [nv]
theorem nv_get (k : IntKind) (l : List Int) (i : Nat) (x : Int) (h : l[i]? = some x) : (nv k l)[i]? = some (.int k x) := by simp [nv, h]

/-- a slice of numbers that came in: it is read as numbers, each of its kind -/
theorem open_nums {t e : TypeId} {k : IntKind} {r : Reach} {b0 : Nat} {v : Value} {d : DataW H} {ps : List MemPlace} (ht : P.underlying t = some (.slice e)) (he : P.underlying e = some (.int k)) (hc : P.cellsOf e = 1)
    (hv : Value.okWide P w r b0 t v) (h : DataW.Trod enc P w base spare held t v d ps) :
    ∃ A n c l, v = .slice A n c ∧ Row w w.heap.size 1 A n (nv k l) ∧ n ≤ c ∧ c ≤ maxLen ∧ ∀ x ∈ l, (Lit.int k x).wf = true := by
  obtain ⟨a0, len0, cap0, rfl⟩ := okWide_slice ht hv
  obtain ⟨fuel, hf⟩ := h
  rcases open_ints ht he hc hf with ⟨hcs, _⟩ | ⟨x, l, c, zs, hcs, _, hl, hm, hz, _, hcell, hwz⟩
  · simp [Value.cells] at hcs
    obtain ⟨rfl, rfl, rfl⟩ := hcs
    exact ⟨none, 0, 0, [], rfl, Row.nil _ _ _ _, Nat.le_refl _, Nat.zero_le _, by simp⟩
  · simp [Value.cells] at hcs
    obtain ⟨rfl, rfl, rfl⟩ := hcs
    have hlz : len0 ≤ zs.length := by rw [hz]; split <;> omega
    refine ⟨some x, len0, cap0, zs.take len0, rfl, ⟨?_, fun hn => ?_⟩, hl, hm, fun y hy => hwz y (List.mem_of_mem_take hy)⟩
    · rw [nv_length, List.length_take]; omega
    · obtain ⟨b, off, spot⟩ := x
      have hc0 := hcell 0 (by omega)
      have hspot : spot = none := by simpa [Addr.add] using World.cell?_spot hc0
      subst hspot
      refine ⟨b, off, rfl, World.block_lt_of_cell? w _ hc0, fun j u hu => ?_⟩
      have hj : j < len0 := by
        rcases Nat.lt_or_ge j len0 with h' | h'
        · exact h'
        · rw [List.getElem?_eq_none (by rw [nv_length, List.length_take]; omega)] at hu; cases hu
      have hcj := hcell j (by omega)
      have hadd : (⟨b, off, none⟩ : Addr).add j = ⟨b, off + j, none⟩ := by unfold Addr.add; split <;> simp_all
      rw [hadd] at hcj
      rw [hcj, ← hu, nv_get k (zs.take len0) j (zs.getD j 0) ?_]
      rw [List.getElem?_take, if_pos hj, List.getD_eq_getElem?_getD, List.getElem?_eq_getElem (by omega)]
      rfl

/-- a slice of bytes that came in -/
theorem open_bytes {t e : TypeId} {r : Reach} {b0 : Nat} {v : Value} {d : DataW H} {ps : List MemPlace} (ht : P.underlying t = some (.slice e)) (he : P.underlying e = some (.int .u8)) (hc : P.cellsOf e = 1)
    (hv : Value.okWide P w r b0 t v) (h : DataW.Trod enc P w base spare held t v d ps) : ∃ r : Bs, v = r.v ∧ r.ok w := by
  obtain ⟨A, n, c, l, rfl, hr, hn, hm, hw⟩ := open_nums ht he hc hv h
  have e : nv .u8 l = bv (l.map fun z => UInt8.ofNat z.toNat) := by
    unfold nv bv
    rw [List.map_map]
    apply List.map_congr_left
    intro z hz
    have hb : 0 ≤ z ∧ z ≤ 255 := by simpa [Lit.wf, IntKind.min, IntKind.max, IntKind.signed, IntKind.bits] using hw z hz
    simp only [Function.comp]
    rw [u8_of z hb.1 hb.2]
  rw [e] at hr
  exact ⟨⟨A, n, c, _⟩, rfl, hr, hn, hm⟩

/-- a struct by value: its fields' cells, each with its own reading -/
theorem open_struct {t : TypeId} {fs : Array Field} {r : Reach} {b0 : Nat} {v : Value} {d : DataW H} {ps : List MemPlace} (ht : P.underlying t = some (.struct fs))
    (hv : Value.okWide P w r b0 t v) (h : DataW.Trod enc P w base spare held t v d ps) :
    ∃ (cs : List Value) (n : Nat), v = .agg cs.toArray ∧ cs.length = P.cellsOf t ∧ ∀ (i : Nat) (f : Field), fs[i]? = some f → ∃ y, DataW.trod enc P w base spare held n f.type ((cs.drop f.offset).take (P.cellsOf f.type)) = some y := by
  obtain ⟨⟨cs⟩, rfl, hsz⟩ := okWide_struct ht hv
  obtain ⟨fuel, hf⟩ := h
  obtain ⟨xs, n, _, _, _, hlen, hg⟩ := DataW.trod_struct ht hf
  refine ⟨cs, n, rfl, by simpa using hsz, fun i f hi => ?_⟩
  have hil : i < fs.size := (Array.getElem?_eq_some_iff.1 hi).1
  have := hg i f hi
  simp only [Value.cells] at this
  rw [this, List.getElem?_eq_getElem (by omega)]
  exact ⟨_, rfl⟩
theorem cell_int {t : TypeId} {k : IntKind} {n : Nat} {cs : List Value} (ht : P.underlying t = some (.int k)) (h : ∃ y, DataW.trod enc P w base spare held n t cs = some y) : ∃ x, cs = [.int k x] ∧ (Lit.int k x).wf = true := by
  obtain ⟨y, h⟩ := h
  obtain ⟨x, h1, _, h2⟩ := DataW.trod_int ht h
  exact ⟨x, h1, h2⟩
theorem cell_bool {t : TypeId} {n : Nat} {cs : List Value} (ht : P.underlying t = some .bool) (h : ∃ y, DataW.trod enc P w base spare held n t cs = some y) : ∃ x, cs = [.bool x] := by
  obtain ⟨y, h⟩ := h
  obtain ⟨x, h1, _⟩ := DataW.trod_bool ht h
  exact ⟨x, h1⟩
end
theorem len_cons {l : List Value} {n : Nat} (h : l.length = n + 1) : ∃ a r, l = a :: r ∧ r.length = n := by
  cases l with
  | nil => simp at h
  | cons a r => exact ⟨a, r, rfl, by simpa using h⟩
theorem bd_u8 {x : Int} (h : (Lit.int .u8 x).wf = true) : 0 ≤ x ∧ x ≤ 255 := by simpa [Lit.wf, IntKind.min, IntKind.max, IntKind.signed, IntKind.bits] using h
theorem bd_u16 {x : Int} (h : (Lit.int .u16 x).wf = true) : 0 ≤ x ∧ x ≤ 65535 := by simpa [Lit.wf, IntKind.min, IntKind.max, IntKind.signed, IntKind.bits] using h
theorem bd_u32 {x : Int} (h : (Lit.int .u32 x).wf = true) : 0 ≤ x ∧ x ≤ 4294967295 := by simpa [Lit.wf, IntKind.min, IntKind.max, IntKind.signed, IntKind.bits] using h
theorem bd_i64 {x : Int} (h : (Lit.int .i64 x).wf = true) : -9223372036854775808 ≤ x ∧ x ≤ 9223372036854775807 := by simpa [Lit.wf, IntKind.min, IntKind.max, IntKind.signed, IntKind.bits] using h
end Go.Proofs.YtbcjkjmjljfhpaaDoor

/- How a law's argument that is a slice of entries is opened. No condition. -/
namespace Go.Proofs.YtbcjkjmjljfhpaaDoor
open Go.ChangeShapes Go.WideShapes Go.ChangeAt Go.RowKit Go.Deep
set_option linter.unusedVariables false
set_option maxRecDepth 20000

section
variable {H : Type} {enc : TypeId × Value → H} {P : Program} {w : World} {base : Nat} {spare : Nat → Bool} {held : Bool}
theorem open_slice_fields {t e : TypeId} {fs : Array Field} {fuel : Nat} {cs : List Value} {x : DataW H × List MemPlace} (ht : P.underlying t = some (.slice e)) (he : P.underlying e = some (.struct fs))
    (hone : oneCellFields P fs = true) (hC : P.cellsOf e = fs.size) (h : DataW.trod enc P w base spare held fuel t cs = some x) :
    cs = [.slice none 0 0] ∨
    ∃ (a : Addr) (len cap : Nat), cs = [.slice (some a) len cap] ∧ len ≤ cap ∧ cap ≤ maxLen ∧
      ∀ i, i < len → ∃ n, ∀ (j : Nat) (f : Field), fs[j]? = some f → ∃ (v : Value) (y : DataW H × List MemPlace), w.cell? (a.add (i * fs.size + j)) = some v ∧ DataW.trod enc P w base spare held n f.type [v] = some y := by
  rcases open_slice ht h with h0 | ⟨a, len, cap, m, n, D, Pl, hcs, hb, hl, hm, hmm, hx, hi⟩
  · exact .inl h0.1
  · refine .inr ⟨a, len, cap, hcs, hl, hm, fun i hil => ?_⟩
    have him : i < m := by rw [hmm]; split <;> omega
    obtain ⟨cs', hc, ht'⟩ := hi i him
    rw [hC] at hc
    obtain ⟨ys, n', hn', hy, hlen, hyl, hf⟩ := DataW.trod_struct he ht'
    obtain ⟨_, hcl, hat⟩ := World.cells?_some hc
    refine ⟨n', fun j f hj => ?_⟩
    obtain ⟨ho, hk⟩ := hone_of hone j f hj
    have hjl : j < fs.size := (Array.getElem?_eq_some_iff.1 hj).1
    have hcell := hat j hjl
    have hv : cs'[j]? = some (cs'[j]'(by omega)) := List.getElem?_eq_getElem (by omega)
    have h1 := hf j f hj
    rw [ho, hk] at h1
    have hone' : (cs'.drop j).take 1 = [cs'[j]'(by omega)] := by
      rw [List.drop_eq_getElem_cons (by omega)]
      rfl
    rw [hone'] at h1
    have hys : ys[j]? = some (ys[j]'(by omega)) := List.getElem?_eq_getElem (by omega)
    refine ⟨_, _, ?_, h1.trans hys⟩
    rw [← Go.Deep.add_add, hcell, hv]
end

/-- an entry's numbers are those of its fields' kinds -/
structure Ent.wf (e : Ent) : Prop where
  label : (Lit.int .i64 e.label).wf = true
  cls : 0 ≤ e.cls ∧ e.cls ≤ 255
  ttl : 0 ≤ e.ttl ∧ e.ttl ≤ 255
theorem add_none (b o j : Nat) : (⟨b, o, none⟩ : Addr).add j = ⟨b, o + j, none⟩ := by unfold Addr.add; split <;> simp_all
theorem evs_back (l : List Ent) (j : Nat) (u : Value) (h : (evs l)[j]? = some u) : ∃ i r x, j = i * 4 + r ∧ r < 4 ∧ l[i]? = some x ∧ x.cells[r]? = some u := by
  have hj : j < l.length * 4 := by
    have := (List.getElem?_eq_some_iff.1 h).1
    rw [evs_length] at this
    exact this
  obtain ⟨x, hx⟩ := get_ex l (k := j / 4) (by omega)
  refine ⟨j / 4, j % 4, x, by omega, by omega, hx, ?_⟩
  rw [← evs_cell l (j / 4) x hx (j % 4) (by omega), ← h]
  congr 1
  omega

theorem open_ents {H : Type} {enc : TypeId × Value → H} {w : World} {base : Nat} {spare : Nat → Bool} {held : Bool} {r : Reach} {b0 : Nat} {v : Value} {d : DataW H} {ps : List MemPlace}
    (hv : Value.okWide Tryd.prog w r b0 23 v) (h : DataW.Trod enc Tryd.prog w base spare held 23 v d ps) :
    ∃ A n c l, v = .slice A n c ∧ Row w w.heap.size 4 A n (evs l) ∧ n ≤ c ∧ c ≤ maxLen ∧ ∀ x ∈ l, x.wf := by
  obtain ⟨a0, len0, cap0, rfl⟩ := okWide_slice Tryd.underlying23 hv
  obtain ⟨fuel, hf⟩ := h
  rcases open_slice_fields Tryd.underlying23 Tryd.underlying49 (by kernel_rfl) (by kernel_rfl) hf with hcs | ⟨a, l, c, hcs, hl, hm, hi⟩
  · simp [Value.cells] at hcs
    obtain ⟨rfl, rfl, rfl⟩ := hcs
    exact ⟨none, 0, 0, [], rfl, Row.nil _ _ _ _, Nat.le_refl _, Nat.zero_le _, by simp⟩
  · simp [Value.cells] at hcs
    obtain ⟨rfl, rfl, rfl⟩ := hcs
    have one : ∀ i, i < len0 → ∃ x : Ent, x.wf ∧ ∀ j u, x.cells[j]? = some u → w.cell? (a.add (i * 4 + j)) = some u := by
      intro i hil
      obtain ⟨n, hfs⟩ := hi i hil
      obtain ⟨v0, y0, c0, t0⟩ := hfs 0 _ rfl
      obtain ⟨v1, y1, c1, t1⟩ := hfs 1 _ rfl
      obtain ⟨v2, y2, c2, t2⟩ := hfs 2 _ rfl
      obtain ⟨v3, y3, c3, t3⟩ := hfs 3 _ rfl
      obtain ⟨x0, e0, _, q0⟩ := DataW.trod_int Tryd.underlying3 t0
      obtain ⟨x1, e1, _, q1⟩ := DataW.trod_int Tryd.underlying5 t1
      obtain ⟨x2, e2, _⟩ := DataW.trod_bool Tryd.underlying4 t2
      obtain ⟨x3, e3, _, q3⟩ := DataW.trod_int Tryd.underlying5 t3
      simp only [List.cons.injEq, and_true] at e0 e1 e2 e3
      subst e0 e1 e2 e3
      refine ⟨⟨x0, x1, x2, x3⟩, ⟨q0, bd_u8 q1, bd_u8 q3⟩, fun j u hu => ?_⟩
      simp only [Ent.cells] at hu
      match j with
      | 0 => cases hu; exact c0
      | 1 => cases hu; exact c1
      | 2 => cases hu; exact c2
      | 3 => cases hu; exact c3
      | j + 4 => simp at hu
    have all : ∀ k, k ≤ len0 → ∃ l : List Ent, l.length = k ∧ (∀ x ∈ l, x.wf) ∧ ∀ i x, l[i]? = some x → ∀ j u, x.cells[j]? = some u → w.cell? (a.add (i * 4 + j)) = some u := by
      intro k
      induction k with
      | zero => exact fun _ => ⟨[], rfl, by simp, by simp⟩
      | succ k ih =>
        intro hk
        obtain ⟨l, h1, h2, h3⟩ := ih (by omega)
        obtain ⟨x, hx, hc⟩ := one k (by omega)
        refine ⟨l ++ [x], by simp [h1], ?_, fun i y hy => ?_⟩
        · intro y hy
          rcases List.mem_append.1 hy with h | h
          · exact h2 y h
          · obtain rfl := List.mem_singleton.1 h
            exact hx
        · rcases Nat.lt_or_ge i l.length with hlt | hge
          · rw [List.getElem?_append_left hlt] at hy
            exact h3 i y hy
          · rw [List.getElem?_append_right hge] at hy
            have hi0 : i - l.length = 0 := by
              have := (List.getElem?_eq_some_iff.1 hy).1
              simp at this
              omega
            rw [hi0] at hy
            obtain rfl : x = y := by simpa using hy
            have : i = k := by omega
            subst this
            exact hc
    obtain ⟨L, h1, h2, h3⟩ := all len0 (Nat.le_refl _)
    refine ⟨some a, len0, cap0, L, rfl, ⟨by rw [evs_length, h1], fun hn => ?_⟩, hl, hm, h2⟩
    obtain ⟨b, off, spot⟩ := a
    obtain ⟨x, hx⟩ := get_ex L (k := 0) (by omega)
    have hc0 := h3 0 x hx 0 _ rfl
    have hspot : spot = none := by simpa [Addr.add] using World.cell?_spot hc0
    subst hspot
    refine ⟨b, off, rfl, World.block_lt_of_cell? w _ (by rw [← hc0]), fun j u hu => ?_⟩
    obtain ⟨i, r, y, rfl, hr, hy, hu'⟩ := evs_back L j u hu
    rw [← add_none]
    exact h3 i y hy r u hu'
end Go.Proofs.YtbcjkjmjljfhpaaDoor

/- How an array of bytes among a law's arguments is opened. No condition. -/
namespace Go.Proofs.YtbcjkjmjljfhpaaDoor
open Go.ChangeShapes Go.WideShapes Go.ChangeAt Go.RowKit
set_option linter.unusedVariables false
set_option maxRecDepth 20000

section
variable {H : Type} {enc : TypeId × Value → H} {P : Program} {w : World} {base : Nat} {spare : Nat → Bool} {held : Bool}
def byteOf : Value → UInt8 | .int _ x => UInt8.ofNat x.toNat | _ => 0
theorem cell_bytes {t e : TypeId} {k n : Nat} {cs : List Value} (ht : P.underlying t = some (.array k e)) (he : P.underlying e = some (.int .u8)) (hc : P.cellsOf e = 1) (hl : P.cellsOf t = k)
    (h : ∃ y, DataW.trod enc P w base spare held n t cs = some y) : ∃ l : List UInt8, cs = bv l ∧ l.length = k := by
  obtain ⟨y, h⟩ := h
  obtain ⟨xs, m, _, _, hcs, hx, hi⟩ := DataW.trod_array ht h
  rw [hl] at hcs
  refine ⟨cs.map byteOf, ?_, by simp [hcs]⟩
  apply List.ext_getElem (by simp [bv])
  intro i h1 h2
  have hik : i < k := by omega
  have hp := hi i hik
  rw [hc, Nat.mul_one, List.drop_eq_getElem_cons h1, List.take_succ_cons, List.take_zero, List.getElem?_eq_getElem (by omega)] at hp
  obtain ⟨x, hv, hw⟩ := cell_int he ⟨_, hp⟩
  have hv' : cs[i] = .int .u8 x := by simpa using hv
  have hb := bd_u8 hw
  simp only [bv, List.getElem_map, hv', byteOf]
  rw [u8_of x hb.1 hb.2]
end
end Go.Proofs.YtbcjkjmjljfhpaaDoor

/- How a header of IPv4 among a law's arguments is opened. No condition. -/
namespace Go.Proofs.YtbcjkjmjljfhpaaDoor
open Go.ChangeShapes Go.WideShapes Go.ChangeAt Go.RowKit
set_option linter.unusedVariables false
set_option maxRecDepth 20000

theorem cell_str {H : Type} {enc : TypeId × Value → H} {P : Program} {w : World} {base : Nat} {spare : Nat → Bool} {held : Bool} {t : TypeId} {n : Nat} {cs : List Value} (ht : P.underlying t = some .string)
    (h : ∃ y, DataW.trod enc P w base spare held n t cs = some y) : ∃ l : List UInt8, cs = [str l] ∧ l.length ≤ 9223372036854775807 := by
  obtain ⟨y, h⟩ := h
  obtain ⟨⟨⟨l⟩⟩, h1, _, h2⟩ := DataW.trod_string ht h
  exact ⟨l, h1, by simpa [ByteArray.size, maxLen] using h2⟩
end Go.Proofs.YtbcjkjmjljfhpaaDoor

/- How an error among a law's arguments is opened. No condition. -/
namespace Go.Proofs.YtbcjkjmjljfhpaaDoor
open Go.ChangeShapes Go.WideShapes Go.ChangeAt Go.RowKit Go.Deep
set_option linter.unusedVariables false
set_option maxRecDepth 20000

theorem cell_ents {H : Type} {enc : TypeId × Value → H} {w : World} {base : Nat} {spare : Nat → Bool} {held : Bool} {n : Nat} {cs : List Value} (h : ∃ y, DataW.trod enc Tryd.prog w base spare held n 23 cs = some y) :
    ∃ A n c l, cs = [.slice A n c] ∧ Row w w.heap.size 4 A n (evs l) ∧ n ≤ c ∧ c ≤ maxLen ∧ ∀ x ∈ l, x.wf := by
  obtain ⟨⟨d, ps⟩, hf⟩ := h
  rcases open_slice_fields Tryd.underlying23 Tryd.underlying49 (by kernel_rfl) (by kernel_rfl) hf with hcs | ⟨a, len0, cap0, hcs, hl, hm, hi⟩
  · exact ⟨none, 0, 0, [], hcs, Row.nil _ _ _ _, Nat.le_refl _, Nat.zero_le _, by simp⟩
  · have one : ∀ i, i < len0 → ∃ x : Ent, x.wf ∧ ∀ j u, x.cells[j]? = some u → w.cell? (a.add (i * 4 + j)) = some u := by
      intro i hil
      obtain ⟨n, hfs⟩ := hi i hil
      obtain ⟨v0, y0, c0, t0⟩ := hfs 0 _ rfl
      obtain ⟨v1, y1, c1, t1⟩ := hfs 1 _ rfl
      obtain ⟨v2, y2, c2, t2⟩ := hfs 2 _ rfl
      obtain ⟨v3, y3, c3, t3⟩ := hfs 3 _ rfl
      obtain ⟨x0, e0, _, q0⟩ := DataW.trod_int Tryd.underlying3 t0
      obtain ⟨x1, e1, _, q1⟩ := DataW.trod_int Tryd.underlying5 t1
      obtain ⟨x2, e2, _⟩ := DataW.trod_bool Tryd.underlying4 t2
      obtain ⟨x3, e3, _, q3⟩ := DataW.trod_int Tryd.underlying5 t3
      simp only [List.cons.injEq, and_true] at e0 e1 e2 e3
      subst e0 e1 e2 e3
      refine ⟨⟨x0, x1, x2, x3⟩, ⟨q0, bd_u8 q1, bd_u8 q3⟩, fun j u hu => ?_⟩
      simp only [Ent.cells] at hu
      match j with
      | 0 => cases hu; exact c0
      | 1 => cases hu; exact c1
      | 2 => cases hu; exact c2
      | 3 => cases hu; exact c3
      | j + 4 => simp at hu
    have all : ∀ k, k ≤ len0 → ∃ l : List Ent, l.length = k ∧ (∀ x ∈ l, x.wf) ∧ ∀ i x, l[i]? = some x → ∀ j u, x.cells[j]? = some u → w.cell? (a.add (i * 4 + j)) = some u := by
      intro k
      induction k with
      | zero => exact fun _ => ⟨[], rfl, by simp, by simp⟩
      | succ k ih =>
        intro hk
        obtain ⟨l, h1, h2, h3⟩ := ih (by omega)
        obtain ⟨x, hx, hc⟩ := one k (by omega)
        refine ⟨l ++ [x], by simp [h1], ?_, fun i y hy => ?_⟩
        · intro y hy
          rcases List.mem_append.1 hy with h | h
          · exact h2 y h
          · obtain rfl := List.mem_singleton.1 h
            exact hx
        · rcases Nat.lt_or_ge i l.length with hlt | hge
          · rw [List.getElem?_append_left hlt] at hy
            exact h3 i y hy
          · rw [List.getElem?_append_right hge] at hy
            have hi0 : i - l.length = 0 := by
              have := (List.getElem?_eq_some_iff.1 hy).1
              simp at this
              omega
            rw [hi0] at hy
            obtain rfl : x = y := by simpa using hy
            have : i = k := by omega
            subst this
            exact hc
    obtain ⟨L, h1, h2, h3⟩ := all len0 (Nat.le_refl _)
    refine ⟨some a, len0, cap0, L, hcs, ⟨by rw [evs_length, h1], fun hn => ?_⟩, hl, hm, h2⟩
    obtain ⟨b, off, spot⟩ := a
    obtain ⟨x, hx⟩ := get_ex L (k := 0) (by omega)
    have hc0 := h3 0 x hx 0 _ rfl
    have hspot : spot = none := by simpa [Addr.add] using World.cell?_spot hc0
    subst hspot
    refine ⟨b, off, rfl, World.block_lt_of_cell? w _ (by rw [← hc0]), fun j u hu => ?_⟩
    obtain ⟨i, r, y, rfl, hr, hy, hu'⟩ := evs_back L j u hu
    rw [← add_none]
    exact h3 i y hy r u hu'
theorem Ent.wf.fitM {x : Ent} (h : x.wf) : x.fit := ⟨(bd_i64 h.label).1, (bd_i64 h.label).2, h.cls.1, h.cls.2, h.ttl.1, h.ttl.2⟩
theorem open_m {H : Type} {enc : TypeId × Value → H} {w : World} {base : Nat} {spare : Nat → Bool} {held : Bool} {r : Reach} {b0 : Nat} {v : Value} {d : DataW H} {ps : List MemPlace}
    (hv : Value.okWide Tryd.prog w r b0 34 v) (h : DataW.Trod enc Tryd.prog w base spare held 34 v d ps) : ∃ m : Mm, v = .agg m.cells.toArray ∧ m.ok w := by
  obtain ⟨cs, k, rfl, hz, hg⟩ := open_struct Tryd.underlying34 hv h
  have g0 : cs.length = 4 := hz.trans (by kernel_rfl)
  have k3 : Tryd.prog.cellsOf 3 = 1 := by kernel_rfl
  have ks : Tryd.prog.cellsOf 9 = 1 := by kernel_rfl
  have ke : Tryd.prog.cellsOf 23 = 1 := by kernel_rfl
  obtain ⟨c0, r0, rfl, g1⟩ := len_cons g0
  obtain ⟨c1, r1, rfl, g2⟩ := len_cons g1
  obtain ⟨c2, r2, rfl, g3⟩ := len_cons g2
  obtain ⟨c3, r3, rfl, g4⟩ := len_cons g3
  obtain rfl : r3 = [] := List.eq_nil_of_length_eq_zero g4
  obtain ⟨x0, e0, q0⟩ := cell_int Tryd.underlying3 (hg 0 _ rfl)
  obtain ⟨x1, e1, q1⟩ := cell_int Tryd.underlying3 (hg 1 _ rfl)
  obtain ⟨s, e2, z2⟩ := cell_str Tryd.underlying9 (hg 2 _ rfl)
  obtain ⟨A, n, c, l, e3, hr, hn, hm, hl⟩ := cell_ents (hg 3 _ rfl)
  obtain ⟨rfl, rfl, rfl, rfl⟩ : c0 = .int .i64 x0 ∧ c1 = .int .i64 x1 ∧ c2 = str s ∧ c3 = .slice A n c :=
    ⟨by simpa [k3] using e0, by simpa [k3] using e1, by simpa [ks] using e2, by simpa [ke] using e3⟩
  exact ⟨⟨x0, x1, s, A, n, c, l⟩, rfl, ⟨bd_i64 q0, bd_i64 q1, z2, hr, hn, hm, fun x hx => (hl x hx).fitM⟩⟩
theorem open_a16 {H : Type} {enc : TypeId × Value → H} {w : World} {base : Nat} {spare : Nat → Bool} {held : Bool} {r : Reach} {b0 : Nat} {v : Value} {d : DataW H} {ps : List MemPlace}
    (hv : Value.okWide Tryd.prog w r b0 26 v) (h : DataW.Trod enc Tryd.prog w base spare held 26 v d ps) : ∃ l : List UInt8, v = .agg (bv l).toArray ∧ l.length = 16 := by
  simp only [Value.okWide, Tryd.underlying26] at hv
  obtain ⟨cs, rfl, _⟩ := hv
  obtain ⟨fuel, hf⟩ := h
  obtain ⟨l, h1, h2⟩ := cell_bytes Tryd.underlying26 Tryd.underlying5 (by kernel_rfl) (by kernel_rfl) ⟨_, hf⟩
  refine ⟨l, ?_, h2⟩
  rw [← h1]
  simp [Value.cells]
end Go.Proofs.YtbcjkjmjljfhpaaDoor

/- How a message of ICMP among a law's arguments is opened. No condition. -/
namespace Go.Proofs.YtbcjkjmjljfhpaaDoor
open Go.ChangeShapes Go.WideShapes Go.ChangeAt Go.RowKit Go.Deep
set_option linter.unusedVariables false
set_option maxRecDepth 20000

section
variable {H : Type} {enc : TypeId × Value → H} {P : Program} {w : World} {base : Nat} {spare : Nat → Bool} {held : Bool}
theorem cell_sliceM {t e : TypeId} {n : Nat} {cs : List Value} (ht : P.underlying t = some (.slice e)) (he : P.underlying e = some (.int .u8)) (hc : P.cellsOf e = 1)
    (h : ∃ y, DataW.trod enc P w base spare held n t cs = some y) : ∃ r : Bs, cs = [r.v] ∧ r.ok w := by
  obtain ⟨⟨d, ps⟩, hf⟩ := h
  rcases open_ints ht he hc hf with ⟨hcs, _⟩ | ⟨x, l, c, zs, hcs, _, hl, hm, hz, _, hcell, hwz⟩
  · exact ⟨⟨none, 0, 0, []⟩, hcs, ⟨Row.nil _ _ _ _, Nat.le_refl _, Nat.zero_le _⟩⟩
  · have hlz : l ≤ zs.length := by rw [hz]; split <;> omega
    have hrow : Row w w.heap.size 1 (some x) l (nv .u8 (zs.take l)) := by
      refine ⟨?_, fun hn => ?_⟩
      · rw [nv_length, List.length_take]; omega
      · obtain ⟨b, off, spot⟩ := x
        have hc0 := hcell 0 (by omega)
        have hspot : spot = none := by simpa [Addr.add] using World.cell?_spot hc0
        subst hspot
        refine ⟨b, off, rfl, World.block_lt_of_cell? w _ hc0, fun j u hu => ?_⟩
        have hj : j < l := by
          rcases Nat.lt_or_ge j l with h' | h'
          · exact h'
          · rw [List.getElem?_eq_none (by rw [nv_length, List.length_take]; omega)] at hu; cases hu
        have hcj := hcell j (by omega)
        have hadd : (⟨b, off, none⟩ : Addr).add j = ⟨b, off + j, none⟩ := by unfold Addr.add; split <;> simp_all
        rw [hadd] at hcj
        rw [hcj, ← hu, nv_get .u8 (zs.take l) j (zs.getD j 0) ?_]
        rw [List.getElem?_take, if_pos hj, List.getD_eq_getElem?_getD, List.getElem?_eq_getElem (by omega)]
        rfl
    have e : nv .u8 (zs.take l) = bv ((zs.take l).map fun z => UInt8.ofNat z.toNat) := by
      unfold nv bv
      rw [List.map_map]
      apply List.map_congr_left
      intro z hz
      have hb : 0 ≤ z ∧ z ≤ 255 := by simpa [Lit.wf, IntKind.min, IntKind.max, IntKind.signed, IntKind.bits] using hwz z (List.mem_of_mem_take hz)
      simp only [Function.comp]
      rw [u8_of z hb.1 hb.2]
    rw [e] at hrow
    exact ⟨⟨some x, l, c, _⟩, hcs, ⟨hrow, hl, hm⟩⟩
end
theorem open_mp {H : Type} {enc : TypeId × Value → H} {w : World} {base : Nat} {spare : Nat → Bool} {held : Bool} {r : Reach} {b0 : Nat} {v : Value} {d : DataW H} {ps : List MemPlace}
    (hv : Value.okWide Tryd.prog w r b0 25 v) (h : DataW.Trod enc Tryd.prog w base spare held 25 v d ps) : ∃ m : Mp, v = .agg m.cells.toArray ∧ m.ok w := by
  obtain ⟨cs, k, rfl, hz, hg⟩ := open_struct Tryd.underlying25 hv h
  have g0 : cs.length = 4 := hz.trans (by kernel_rfl)
  have k3 : Tryd.prog.cellsOf 3 = 1 := by kernel_rfl
  have ks : Tryd.prog.cellsOf 22 = 1 := by kernel_rfl
  have ke : Tryd.prog.cellsOf 23 = 1 := by kernel_rfl
  obtain ⟨c0, r0, rfl, g1⟩ := len_cons g0
  obtain ⟨c1, r1, rfl, g2⟩ := len_cons g1
  obtain ⟨c2, r2, rfl, g3⟩ := len_cons g2
  obtain ⟨c3, r3, rfl, g4⟩ := len_cons g3
  obtain rfl : r3 = [] := List.eq_nil_of_length_eq_zero g4
  obtain ⟨x0, e0, q0⟩ := cell_int Tryd.underlying3 (hg 0 _ rfl)
  obtain ⟨x1, e1, q1⟩ := cell_int Tryd.underlying3 (hg 1 _ rfl)
  obtain ⟨s, e2, z2⟩ := cell_sliceM Tryd.underlying22 Tryd.underlying5 (by kernel_rfl) (hg 2 _ rfl)
  obtain ⟨A, n, c, l, e3, hr, hn, hm, hl⟩ := cell_ents (hg 3 _ rfl)
  obtain ⟨rfl, rfl, rfl, rfl⟩ : c0 = .int .i64 x0 ∧ c1 = .int .i64 x1 ∧ c2 = s.v ∧ c3 = .slice A n c :=
    ⟨by simpa [k3] using e0, by simpa [k3] using e1, by simpa [ks] using e2, by simpa [ke] using e3⟩
  obtain ⟨P, pn, pc, beg⟩ := s
  exact ⟨⟨x0, x1, P, pn, pc, beg, A, n, c, l⟩, rfl, ⟨bd_i64 q0, bd_i64 q1, z2.row, z2.le, z2.cap, hr, hn, hm, fun x hx => (hl x hx).fitM⟩⟩
end Go.Proofs.YtbcjkjmjljfhpaaDoor

/- What the laid table of icmp6's types gives the walks; the door's own run meets it. No condition. -/
namespace Go.Proofs.YtbcjkjmjljfhpaaDoor
open Go.ChangeShapes Go.WideShapes Go.ChangeAt Go.RowKit
set_option linter.unusedVariables false
set_option maxRecDepth 20000

theorem gTypes : Tryd.prog.globalNamed "footplate/icmp6.types" = some 0 := by kernel_rfl
theorem tTypes : (Tryd.prog.globals[0]?).map (·.type) = some 55 := by kernel_rfl
theorem c8 : Tryd.prog.cellsOf 5 = 1 := by kernel_rfl
/-- the door's own heap meets the condition -/
theorem door_met (os : Os) (args : Array Value) : laidMetH Tryd.prog [("footplate/icmp6.types", Rows.laid_footplate_icmp6_types)] ((World.doorLaid Tryd.prog 400 os).forCall (fun _ _ => 0) ⟨#[], args, []⟩).memory :=
  laidMetH_of_parts3 (fuel := 8) (laidMet_of_run' 8 (by kernel_rfl) (by kernel_rfl)) (by kernel_rfl) (by kernel_rfl)
/-- what the condition gives the walks -/
theorem of_laid {W : World} (h : laidMetH Tryd.prog [("footplate/icmp6.types", Rows.laid_footplate_icmp6_types)] W) : Typ24 W := by
  rw [MakeChecks.laidMetH_plain _ _ _ (by kernel_rfl)] at h
  obtain ⟨ps, ⟨g0, t0, cs0, f0, p0, q0, hg0, ht0, hv0, hd0, _, _⟩, _, _⟩ := h
  obtain rfl := Option.some.inj (gTypes.symm.trans hg0)
  obtain rfl := Option.some.inj (tTypes.symm.trans ht0)
  obtain ⟨xs, m1, rfl, hx1, hlen, hn3, hel⟩ := DataW.trod_array Tryd.underlying55 hd0
  have hD : Rows.laid_footplate_icmp6_types (H := Unit) = .agg (([3, 2, 1] : List Int).map fun s => .lit (.int .u8 s)) := rfl
  rw [hD] at hx1
  simp only [Prod.mk.injEq, DataW.agg.injEq] at hx1
  have hcell : ∀ j (s : Int), ([3, 2, 1] : List Int)[j]? = some s → W.cell? ⟨0, j, none⟩ = some (.int .u8 s) := by
    intro j s hj
    have hj16 : j < 3 := (List.getElem?_eq_some_iff.1 hj).1
    have he := hel j hj16
    obtain ⟨y, hy⟩ := get_ex xs (k := j) (by omega)
    rw [hy, c8, Nat.mul_one] at he
    obtain ⟨v, e1, e2, _⟩ := DataW.trod_int Tryd.underlying5 he
    have h2 := congrArg (fun l => l[j]?) hx1.1
    simp only [List.getElem?_map, hj, hy, Option.map_some, Option.some.injEq] at h2
    rw [e2] at h2
    simp only [DataW.lit.injEq, Lit.int.injEq, true_and] at h2
    have hcs : cs0[j]? = some (.int .u8 v) := by
      have h3 := congrArg (fun l => l[0]?) e1
      simpa [List.getElem?_take, List.getElem?_drop] using h3
    rw [World.var?_cell hg0 hv0 j, hcs, h2]
  refine ⟨World.block_lt_of_cell? W _ (hcell 0 3 rfl), fun j v hv => ?_⟩
  have hj : j < 3 := (List.getElem?_eq_some_iff.1 hv).1
  match j, hj, hv with
  | 0, _, hv => cases hv; exact hcell 0 3 rfl
  | 1, _, hv => cases hv; exact hcell 1 2 rfl
  | 2, _, hv => cases hv; exact hcell 2 1 rfl
end Go.Proofs.YtbcjkjmjljfhpaaDoor


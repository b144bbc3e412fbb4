/- What permit.all computes of any functions that answer. No condition but sizes. -/
import Derived.Test.YtimkgkokidhhpaaPerm2
namespace Go.Proofs.Ytimkgkokidhhpaa
open Go.RowKit
set_option linter.unusedVariables false
set_option maxRecDepth 20000
set_option linter.unusedSimpArgs false

/-- a value is a function that answers so, in any world behind this one -/
def Clo (n0 : Nat) (w0 : World) (v : Value) (r : Bool) : Prop := ∃ m rs, v = .func (.func m) #[] rs ∧ (∀ W, (callFunc m rs).run Try.prog W = .ok (.enter m rs) W) ∧ ∀ W, Below n0 w0 W → Calls Try.prog m rs W fun e w' => e = .returned (.bool r) ∧ Below W.heap.size W w'

set_option maxHeartbeats 1000000 in
theorem all1_any (n0 : Nat) (w0 : World) (v : Value) (r : Bool) (h : Clo n0 w0 v r) (w : World) (hB : Below n0 w0 w) :
    Calls Try.prog 64 #[v] w fun e w' => e = .returned (.bool (!r)) ∧ Below w.heap.size w w' := by
  obtain ⟨m, rs, rfl, hcf, hc⟩ := h
  have HC := Lib.hid (hc w hB)
  clear hc hB
  go_enter Try.func64, Try.ntmps64
  go_wp2_with fail
  refine HC.out.mono ?_
  rintro e w' ⟨rfl, hb⟩
  go_wp2_with fail
  go_ret
  exact ⟨rfl, hb⟩

def idxB : List Bool → Int → Int
  | [], _ => -1
  | b :: t, k => if b then idxB t (k + 1) else k
theorem idxB_all (bs : List Bool) (k : Int) (hk : 0 ≤ k) : decide (0 ≤ idxB bs k) = !bs.all id := by
  induction bs generalizing k with
  | nil => rfl
  | cons b t ih =>
    unfold idxB
    cases b
    · simp [hk]
    · rw [if_pos rfl, ih (k + 1) (by omega)]; simp
/-- a row of functions that answer -/
structure Clos (w : World) (A : Option Addr) (n : Nat) (fs : List Value) (bs : List Bool) : Prop where
  row : Row w w.heap.size 1 A n fs
  len : bs.length = n
  clo : ∀ (k : Nat) (v : Value) (b : Bool), fs[k]? = some v → bs[k]? = some b → Clo w.heap.size w v b

set_option maxHeartbeats 1000000 in
theorem indexF_any (A : Option Addr) (n c : Nat) (fs : List Value) (bs : List Bool) (w : World) (h : Clos w A n fs bs) (hn : n ≤ 1099511627776) :
    Calls Try.prog 77 #[.slice A n c, .func (.func 64) #[] #[]] w fun e w' => e = .returned (.int .i64 (idxB bs 0)) ∧ Below w.heap.size w w' := by
  have hlen : fs.length = n := by have := h.row.1; omega
  have hlb : bs.length = n := h.len
  have H := Lib.hid h
  clear h
  go_enter Try.func77, Try.ntmps77
  go_wp2_with fail
  go_loopw [5, 8] (fun _ x wr => ∃ k : Nat, k ≤ n ∧ x = .int .i64 k ∧ idxB bs 0 = idxB (bs.drop k) k ∧ Below w.heap.size w wr) (fun _ x _ => n - (intOf x).toNat)
  case atStart => exact ⟨0, by omega, rfl, rfl, Below.refl _ _⟩
  case round =>
    obtain ⟨k, hk, rfl, hi, hB⟩ := hrel
    have HI := Lib.hid hi
    have HB := Lib.hid hB
    clear hi
    by_cases hlt : k < n
    · obtain ⟨v, hv⟩ := get_ex fs (k := k) (by omega)
      obtain ⟨r, hr⟩ := get_ex bs (k := k) (by omega)
      have HC := Lib.hid (H.out.clo k v r hv hr)
      obtain ⟨b, o, rfl, hb, hcell⟩ := (H.out.row.below hB).2 (by omega)
      have hc := hcell k _ hv
      have HD := Lib.hid (List.drop_eq_getElem?_toList_append (l := bs) (i := k))
      have HX := Lib.hid hr
      clear hv hr hcell hB
      go_wp2_with fail
      refine (all1_any _ _ v r HC.out wr HB.out).mono ?_
      rintro e w' ⟨rfl, hb'⟩
      have HB' := Lib.hid (bthen HB.out hb')
      clear hc
      cases r
      · go_wp2
        go_ret
        refine ⟨ret_int ?_, HB'.out⟩
        rw [HI.out, HD.out, HX.out]
        rfl
      · go_wp2
        go_roundw
        case rel =>
          refine ⟨k + 1, by omega, by simp, ?_, HB'.out⟩
          rw [HI.out, HD.out, HX.out]
          rfl
        case measure => simp [intOf]; omega
    · obtain rfl : k = n := by omega
      go_wp2
      go_ret
      refine ⟨ret_int ?_, HB.out⟩
      rw [HI.out, List.drop_of_length_le (by omega)]
      rfl

set_option maxHeartbeats 1000000 in
theorem containsF_any (A : Option Addr) (n c : Nat) (fs : List Value) (bs : List Bool) (w : World) (h : Clos w A n fs bs) (hn : n ≤ 1099511627776) :
    Calls Try.prog 63 #[.slice A n c, .func (.func 64) #[] #[]] w fun e w' => e = .returned (.bool (!bs.all id)) ∧ Below w.heap.size w w' := by
  have H := Lib.hid h
  have HI := Lib.hid (idxB_all bs 0 (by omega))
  clear h
  go_enter Try.func63, Try.ntmps63
  go_wp2_with fail
  refine (indexF_any A n c fs bs w H.out hn).mono ?_
  rintro e w' ⟨rfl, hb⟩
  generalize idxB bs 0 = r at HI ⊢
  go_wp2
  go_ret
  exact ⟨ret_bool (by rw [← HI.out]), hb⟩

set_option maxHeartbeats 1000000 in
theorem all_any (A : Option Addr) (n c : Nat) (fs : List Value) (bs : List Bool) (w : World) (h : Clos w A n fs bs) (hn : n ≤ 1099511627776) :
    Calls Try.prog 22 #[.slice A n c] w fun e w' => e = .returned (.bool (bs.all id)) ∧ Below w.heap.size w w' := by
  have H := Lib.hid h
  have P := containsF_any A n c fs bs w h hn
  obtain ⟨r, hr⟩ : ∃ r, bs.all id = r := ⟨_, rfl⟩
  rw [hr] at P ⊢
  have HP := Lib.hid P
  clear h P hr
  go_enter Try.func22, Try.ntmps22
  go_wp2_with fail
  refine HP.out.mono ?_
  rintro e w' ⟨rfl, hb⟩
  go_wp2
  go_ret
  exact ⟨by cases r <;> rfl, hb⟩

set_option maxHeartbeats 1000000 in
theorem four1_any (g : Nat) (er : Int) (w : World) (h : Blk w g 34 [.int .i64 er]) :
    Calls Try.prog 23 #[.pointer (some ⟨g, 0, none⟩)] w fun e w' => e = .returned (.bool (er == 0)) ∧ Below w.heap.size w w' := by
  have c0 : w.cell? ⟨g, 0, none⟩ = some (.int .i64 er) := h.cell 0
  clear h
  go_enter Try.func23, Try.ntmps23
  go_wp2
  go_ret
  exact ⟨rfl, Below.refl _ _⟩
set_option maxHeartbeats 1000000 in
theorem six1_any (g : Nat) (er : Int) (w : World) (h : Blk w g 34 [.int .i64 er]) :
    Calls Try.prog 34 #[.pointer (some ⟨g, 0, none⟩)] w fun e w' => e = .returned (.bool (er == 0)) ∧ Below w.heap.size w w' := by
  have c0 : w.cell? ⟨g, 0, none⟩ = some (.int .i64 er) := h.cell 0
  clear h
  go_enter Try.func34, Try.ntmps34
  go_wp2
  go_ret
  exact ⟨rfl, Below.refl _ _⟩
set_option maxHeartbeats 1000000 in
theorem four2_any (g : Nat) (h0 : H4) (hk : h0.ok) (w : World) (h : Blk w g 42 h0.cells) :
    Calls Try.prog 24 #[.pointer (some ⟨g, 0, none⟩)] w fun e w' => e = .returned (.bool (plA h0.src)) ∧ Below w.heap.size w w' := by
  have hr := h.range 8 4
  rw [h0.drop_src hk] at hr
  have HR := Lib.hid hr
  clear h hr
  go_enter Try.func24, Try.ntmps24
  go_wp2_with (refine wpList_value (by rfl) (exec_load_mid 37 _ rfl g 8 rfl _ _ HR.out Try.underlying37 rfl (sizeA4 _ hk.src)) ?_)
  refine (plainA_any h0.src hk.src w).mono ?_
  rintro e w' ⟨rfl, hb⟩
  go_wp2_with fail
  go_ret
  exact ⟨rfl, hb⟩
set_option maxHeartbeats 1000000 in
theorem four3_any (g : Nat) (h0 : H4) (hk : h0.ok) (w : World) (h : Blk w g 42 h0.cells) :
    Calls Try.prog 26 #[.pointer (some ⟨g, 0, none⟩)] w fun e w' => e = .returned (.bool (!muA h0.dst)) ∧ Below w.heap.size w w' := by
  have hr := h.range 12 4
  rw [h0.drop_dst hk] at hr
  have HR := Lib.hid hr
  clear h hr
  go_enter Try.func26, Try.ntmps26
  go_wp2_with (refine wpList_value (by rfl) (exec_load_mid 37 _ rfl g 12 rfl _ _ HR.out Try.underlying37 rfl (sizeA4 _ hk.dst)) ?_)
  refine (multiA_any h0.dst hk.dst w).mono ?_
  rintro e w' ⟨rfl, hb⟩
  go_wp2_with fail
  go_ret
  exact ⟨rfl, hb⟩
set_option maxHeartbeats 1000000 in
theorem four4_any (g : Nat) (h0 : H4) (hk : h0.ok) (w : World) (h : Blk w g 42 h0.cells) :
    Calls Try.prog 28 #[.pointer (some ⟨g, 0, none⟩)] w fun e w' => e = .returned (.bool (h0.off == 0)) ∧ Below w.heap.size w w' := by
  have c5 : w.cell? ⟨g, 5, none⟩ = some (.int .i64 h0.off) := h.cell 5
  clear h
  go_enter Try.func28, Try.ntmps28
  go_wp2
  go_ret
  exact ⟨rfl, Below.refl _ _⟩
set_option maxHeartbeats 1000000 in
theorem four5_any (g : Nat) (A : Option Addr) (n c : Nat) (l : List UInt8) (w : World) (h : Blk w g 22 [.slice A n c]) (hr : Row w w.heap.size 1 A n (bv l)) (hc : n ≤ c) (hcm : c ≤ maxLen) (hn : n ≤ 1099511627776) :
    Calls Try.prog 29 #[.pointer (some ⟨g, 0, none⟩)] w fun e w' => e = .returned (.bool (!is4F l)) ∧ Below w.heap.size w w' := by
  have c0 : w.cell? ⟨g, 0, none⟩ = some (.slice A n c) := h.cell 0
  have P := Lib.hid (is4_any A n c l w hr hc hcm hn)
  clear h hr
  go_enter Try.func29, Try.ntmps29
  go_wp2_with fail
  refine P.out.mono ?_
  rintro e w' ⟨rfl, hb⟩
  go_wp2_with fail
  go_ret
  exact ⟨rfl, hb⟩
set_option maxHeartbeats 1000000 in
theorem six2_any (g : Nat) (h0 : H6) (hk : h0.ok) (w : World) (h : Blk w g 44 h0.cells) :
    Calls Try.prog 35 #[.pointer (some ⟨g, 0, none⟩)] w fun e w' => e = .returned (.bool (pl6 h0.src)) ∧ Below w.heap.size w w' := by
  have hr := h.range 5 16
  rw [h0.drop_src hk] at hr
  have HR := Lib.hid hr
  clear h hr
  go_enter Try.func35, Try.ntmps35
  go_wp2_with (refine wpList_value (by rfl) (exec_load_mid 33 _ rfl g 5 rfl _ _ HR.out Try.underlying33 rfl (size24 _ hk.src)) ?_)
  refine (plain6_any h0.src hk.src w).mono ?_
  rintro e w' ⟨rfl, hb⟩
  go_wp2_with fail
  go_ret
  exact ⟨rfl, hb⟩
set_option maxHeartbeats 1000000 in
theorem six3_any (gb g : Nat) (big : Bool) (h0 : H6) (hk : h0.ok) (w : World) (hb0 : Blk w gb 4 [.bool big]) (h : Blk w g 44 h0.cells) :
    Calls Try.prog 37 #[.pointer (some ⟨gb, 0, none⟩), .pointer (some ⟨g, 0, none⟩)] w fun e w' => e = .returned (.bool (big || !mu6 h0.dst)) ∧ Below w.heap.size w w' := by
  have c0 : w.cell? ⟨gb, 0, none⟩ = some (.bool big) := hb0.cell 0
  have hr := h.range 21 16
  rw [h0.drop_dst hk] at hr
  have HR := Lib.hid hr
  clear h hr hb0
  cases big
  · go_enter Try.func37, Try.ntmps37
    go_wp2_with (refine wpList_value (by rfl) (exec_load_mid 33 _ rfl g 21 rfl _ _ HR.out Try.underlying33 rfl (size24 _ hk.dst)) ?_)
    refine (multi6_any h0.dst hk.dst w).mono ?_
    rintro e w' ⟨rfl, hb⟩
    clear c0
    go_wp2_with fail
    go_ret
    exact ⟨rfl, hb⟩
  · go_enter Try.func37, Try.ntmps37
    go_wp2_with fail
    go_ret
    exact ⟨rfl, Below.refl _ _⟩
set_option maxHeartbeats 1000000 in
theorem six4_any (g : Nat) (A : Option Addr) (n c : Nat) (l : List UInt8) (w : World) (h : Blk w g 22 [.slice A n c]) (hr : Row w w.heap.size 1 A n (bv l)) (hc : n ≤ c) (hcm : c ≤ maxLen) (hn : n ≤ 1099511627776) :
    Calls Try.prog 39 #[.pointer (some ⟨g, 0, none⟩)] w fun e w' => e = .returned (.bool (!is6F l)) ∧ Below w.heap.size w w' := by
  have c0 : w.cell? ⟨g, 0, none⟩ = some (.slice A n c) := h.cell 0
  have P := Lib.hid (is6_any A n c l w hr hc hcm hn)
  clear h hr
  go_enter Try.func39, Try.ntmps39
  go_wp2_with fail
  refine P.out.mono ?_
  rintro e w' ⟨rfl, hb⟩
  go_wp2_with fail
  go_ret
  exact ⟨rfl, hb⟩
end Go.Proofs.Ytimkgkokidhhpaa

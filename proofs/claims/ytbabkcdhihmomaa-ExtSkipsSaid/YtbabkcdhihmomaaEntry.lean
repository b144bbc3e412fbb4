/- What entry.Pack, entry.Unpack and the reference's compute. No condition but sizes. -/
import Derived.Test.YtbabkcdhihmomaaEnt
import Derived.Test.YtbabkcdhihmomaaRef01
import Derived.Deep.OwnRows
namespace Go.Proofs.Ytbabkcdhihmomaa
open Go.RowKit
set_option linter.unusedVariables false
set_option maxRecDepth 20000

/-- an entry's fields are of their kinds -/
structure Ent.fit (e : Ent) : Prop where
  l0 : -9223372036854775808 ≤ e.label
  l1 : e.label ≤ 9223372036854775807
  c0 : 0 ≤ e.cls
  c1 : e.cls ≤ 255
  t0 : 0 ≤ e.ttl
  t1 : e.ttl ≤ 255
/-- may an entry be packed -/
def Ent.good (e : Ent) : Prop := 0 ≤ e.label ∧ e.label ≤ 1048575 ∧ e.cls ≤ 7
instance (e : Ent) : Decidable e.good := inferInstanceAs (Decidable (_ ∧ _))
/-- its number -/
def Ent.num (e : Ent) : Int := e.label * 4096 + e.cls * 512 + (if e.bot then 256 else 0) + e.ttl
/-- its bytes, and its error -/
def packL (e : Ent) : List UInt8 := if e.good then toBe 4 e.num.toNat else []
def packE (e : Ent) : Int := if e.good then 0 else 1

theorem made4 : madeCells (Value.int .u8 0).cells (Int.toNat 4 * 1) = #[.int .u8 0, .int .u8 0, .int .u8 0, .int .u8 0] := by kernel_rfl
theorem join_or (k : Nat) (a b : Nat) (h : b < 2 ^ k) (hs : a * 2 ^ k + b < 18446744073709551616) : bits .or .u64 ((a * 2 ^ k : Nat) : Int) (b : Int) = ((a * 2 ^ k + b : Nat) : Int) := by
  have hp : 0 < 2 ^ k := Nat.pos_of_ne_zero (by simp)
  rw [Nat.mul_comm] at hs
  rw [Nat.mul_comm, u64_or_nat _ _ (by omega) (by omega), nat_join k _ _ (Nat.mul_mod_right _ _) h]
theorem num_or (l c t : Int) (l0 : 0 ≤ l) (l1 : l ≤ 1048575) (c0 : 0 ≤ c) (c1 : c ≤ 7) (t0 : 0 ≤ t) (t1 : t ≤ 255) :
    bits .or .u64 (l * 4096) (c * 512) = l * 4096 + c * 512 ∧ bits .or .u64 (l * 4096 + c * 512) t = l * 4096 + c * 512 + t ∧ bits .or .u64 (l * 4096 + c * 512 + t) 256 = l * 4096 + c * 512 + 256 + t := by
  obtain ⟨l, rfl⟩ := Int.eq_ofNat_of_zero_le l0
  obtain ⟨c, rfl⟩ := Int.eq_ofNat_of_zero_le c0
  obtain ⟨t, rfl⟩ := Int.eq_ofNat_of_zero_le t0
  refine ⟨?_, ?_, ?_⟩
  · have := join_or 12 l (c * 512) (by omega) (by omega)
    rw [show ((l : Int) * 4096) = ((l * 2 ^ 12 : Nat) : Int) by omega, show ((c : Int) * 512) = ((c * 512 : Nat) : Int) by omega, this]
    omega
  · have := join_or 9 (l * 8 + c) t (by omega) (by omega)
    rw [show ((l : Int) * 4096 + c * 512) = (((l * 8 + c) * 2 ^ 9 : Nat) : Int) by omega, this]
    omega
  · have e1 := join_or 9 (l * 8 + c) t (by omega) (by omega)
    have e2 := join_or 9 (l * 8 + c) (256 + t) (by omega) (by omega)
    have e3 : 256 ||| t = 256 + t := by
      have := nat_join 8 256 t (by omega) (by omega)
      exact this
    have e4 : ((l * 8 + c) * 2 ^ 9 + t) ||| 256 = (l * 8 + c) * 2 ^ 9 + (256 + t) := by
      have f1 := nat_join 9 ((l * 8 + c) * 2 ^ 9) t (by omega) (by omega)
      have f2 := nat_join 9 ((l * 8 + c) * 2 ^ 9) (256 + t) (by omega) (by omega)
      rw [← f1, ← f2, ← e3, Nat.or_assoc, Nat.or_comm t 256]
    rw [show ((l : Int) * 4096 + c * 512 + t) = (((l * 8 + c) * 2 ^ 9 + t : Nat) : Int) by omega, show (256 : Int) = ((256 : Nat) : Int) from rfl, u64_or_nat _ _ (by omega) (by omega), e4]
    omega

set_option maxHeartbeats 1000000 in
theorem pack_any (x : Ent) (hf : x.fit) (w : World) :
    Calls Try.prog 25 #[.agg #[.int .i64 x.label, .int .u8 x.cls, .bool x.bot, .int .u8 x.ttl]] w fun e w' => ∃ r : Bs, e = .returned (.tuple #[r.v, .int .i64 (packE x)]) ∧ r.ok w' ∧ r.l = packL x ∧ Below w.heap.size w w' := by
  obtain ⟨l, c, b, t⟩ := x
  obtain ⟨l0, l1, c0, c1, t0, t1⟩ := hf
  simp only at *
  by_cases hg : 0 ≤ l ∧ l ≤ 1048575 ∧ c ≤ 7
  · obtain ⟨g0, g1, g2⟩ := hg
    have hE : packE ⟨l, c, b, t⟩ = 0 := if_pos ⟨g0, g1, g2⟩
    have hL : packL ⟨l, c, b, t⟩ = toBe 4 (Ent.num ⟨l, c, b, t⟩).toNat := if_pos ⟨g0, g1, g2⟩
    have hw1 : IntKind.u64.wrap l = l := wrap64_id l (by omega) (by omega)
    obtain ⟨o1, o2, o3⟩ := num_or l c t g0 g1 c0 g2 t0 t1
    obtain ⟨i0, hi0, hz0, hs0, hb0⟩ := info_parts infoByte
    have hrow2 : Row ((w.alloc (.cells #[.int .i64 l, .int .u8 c, .bool b, .int .u8 t] 54)).alloc (.cells #[.int .u8 0, .int .u8 0, .int .u8 0, .int .u8 0] 5)) ((w.alloc (.cells #[.int .i64 l, .int .u8 c, .bool b, .int .u8 t] 54)).alloc (.cells #[.int .u8 0, .int .u8 0, .int .u8 0, .int .u8 0] 5)).heap.size 1 (some ⟨w.heap.size + 1, 0, none⟩) 4 (bv [0, 0, 0, 0]) := by
      have hrow := Row.new (n := 4) (sz := 1) (e := 5) (w.alloc (.cells #[.int .i64 l, .int .u8 c, .bool b, .int .u8 t] 54)) #[.int .u8 0, .int .u8 0, .int .u8 0, .int .u8 0] rfl
      rw [World.size_alloc] at hrow
      rw [World.size_alloc, World.size_alloc]
      exact hrow
    have hB : Below w.heap.size w ((w.alloc (.cells #[.int .i64 l, .int .u8 c, .bool b, .int .u8 t] 54)).alloc (.cells #[.int .u8 0, .int .u8 0, .int .u8 0, .int .u8 0] 5)) := ((Below.refl _ _).alloc (Nat.le_refl _) _).alloc (by simp) _
    have hnum : 0 ≤ Ent.num ⟨l, c, b, t⟩ ∧ Ent.num ⟨l, c, b, t⟩ < 256 ^ (4 : Int).toNat := by
      unfold Ent.num
      simp only [show ((256 : Int) ^ (4 : Int).toNat) = 4294967296 from rfl]
      split <;> omega
    have hput := put_yes _ 4 4 [0, 0, 0, 0] 0 4 (Ent.num ⟨l, c, b, t⟩) _ hrow2 (by omega) (by simp [maxLen]) (by omega) (by omega) (by omega) (by omega) (by omega) hnum.1 hnum.2
    have hmk : Sem.run Try.prog (Instr.makeSlice 26 (.int .i64 4) (.int .i64 4)) (w.alloc (.cells #[.int .i64 l, .int .u8 c, .bool b, .int .u8 t] 54)) = .ok (.slice (some ⟨w.heap.size + 1, 0, none⟩) 4 4) ((w.alloc (.cells #[.int .i64 l, .int .u8 c, .bool b, .int .u8 t] 54)).alloc (.cells #[.int .u8 0, .int .u8 0, .int .u8 0, .int .u8 0] 5)) := by
      have := run_make (P := Try.prog) (w.alloc (.cells #[.int .i64 l, .int .u8 c, .bool b, .int .u8 t] 54)) 26 5 i0 (.int .u8 0) Try.underlying26 hi0 hz0 .i64 .i64 4 4 (by omega) (by omega) (by rw [hb0]; omega) (by omega)
      rw [hs0, World.size_alloc, made4] at this
      exact this
    have HP := Lib.hid hput
    clear hput hrow2 hnum hi0 hz0
    have n0 : Ent.num ⟨l, c, false, t⟩ = l * 4096 + c * 512 + t := by simp [Ent.num]
    have n1 : Ent.num ⟨l, c, true, t⟩ = l * 4096 + c * 512 + 256 + t := by simp [Ent.num]
    cases b
    · rw [n0] at HP hL
      clear n0 n1
      go_enter Try.func25, Try.ntmps25
      go_wp2_with fail
      refine HP.out.mono ?_
      rintro e w' ⟨A', c', rfl, hown, hb⟩
      have hB2 := hB.trans (hb.mono (by simp; omega))
      have HO := Lib.hid hown
      clear hown
      go_wp2_with fail
      go_ret2
      exact ⟨⟨A', 4, c', _⟩, by rw [hE]; rfl, HO.out.ok, by rw [hL]; simp [toBe], hB2⟩
    · rw [n1] at HP hL
      clear n0 n1
      go_enter Try.func25, Try.ntmps25
      go_wp2_with fail
      refine HP.out.mono ?_
      rintro e w' ⟨A', c', rfl, hown, hb⟩
      have hB2 := hB.trans (hb.mono (by simp; omega))
      have HO := Lib.hid hown
      clear hown
      go_wp2_with fail
      go_ret2
      exact ⟨⟨A', 4, c', _⟩, by rw [hE]; rfl, HO.out.ok, by rw [hL]; simp [toBe], hB2⟩
  · have hE : packE ⟨l, c, b, t⟩ = 1 := if_neg hg
    have hL : packL ⟨l, c, b, t⟩ = [] := if_neg hg
    have hB : Below w.heap.size w (w.alloc (.cells #[.int .i64 l, .int .u8 c, .bool b, .int .u8 t] 54)) := (Below.refl _ _).alloc (Nat.le_refl _) _
    have key : l < 0 ∨ (0 ≤ l ∧ 1048575 < l) ∨ (0 ≤ l ∧ l ≤ 1048575 ∧ 7 < c) := by omega
    clear hg
    rcases key with h | ⟨h1, h2⟩ | ⟨h1, h2, h3⟩
    all_goals
      go_enter Try.func25, Try.ntmps25
      go_wp2_with fail
      go_ret2
      exact ⟨⟨none, 0, 0, []⟩, by rw [hE]; rfl, ⟨Row.nil _ _ _ _, Nat.le_refl _, Nat.zero_le _⟩, hL.symm, hB⟩

set_option maxHeartbeats 1000000 in
theorem rpack_any (x : Ent) (hf : x.fit) (w : World) :
    Calls Try.prog 26 #[.agg #[.int .i64 x.label, .int .u8 x.cls, .bool x.bot, .int .u8 x.ttl]] w fun e w' => e = .returned (.tuple #[str (packL x), .int .i64 (packE x)]) ∧ Below w.heap.size w w' := by
  obtain ⟨l, c, b, t⟩ := x
  obtain ⟨l0, l1, c0, c1, t0, t1⟩ := hf
  simp only at *
  by_cases hg : 0 ≤ l ∧ l ≤ 1048575 ∧ c ≤ 7
  · obtain ⟨g0, g1, g2⟩ := hg
    have hE : packE ⟨l, c, b, t⟩ = 0 := if_pos ⟨g0, g1, g2⟩
    have hL : packL ⟨l, c, b, t⟩ = toBe 4 (Ent.num ⟨l, c, b, t⟩).toNat := if_pos ⟨g0, g1, g2⟩
    have hB : Below w.heap.size w (w.alloc (.cells #[.int .i64 l, .int .u8 c, .bool b, .int .u8 t] 54)) := (Below.refl _ _).alloc (Nat.le_refl _) _
    rw [hE, hL]
    cases b
    · have n0 : 4096 * l + 512 * c + t = Ent.num ⟨l, c, false, t⟩ := by simp [Ent.num]; omega
      have hw := wrap64_id (4096 * l + 512 * c + t) (by omega) (by omega)
      clear hE hL
      go_enter Try.func26, Try.ntmps26
      go_wp2_with fail
      refine (bytes_any _ 4 _ (by omega) (by omega) (by omega) (by omega)).mono ?_
      rintro e w' ⟨rfl, hb⟩
      have hB2 := hB.trans (hb.mono (by simp))
      go_wp2_with fail
      go_ret2
      exact ⟨rfl, hB2⟩
    · have n0 : 4096 * l + 512 * c + t + 256 = Ent.num ⟨l, c, true, t⟩ := by simp [Ent.num]; omega
      have hw := wrap64_id (4096 * l + 512 * c + t + 256) (by omega) (by omega)
      clear hE hL
      go_enter Try.func26, Try.ntmps26
      go_wp2_with fail
      refine (bytes_any _ 4 _ (by omega) (by omega) (by omega) (by omega)).mono ?_
      rintro e w' ⟨rfl, hb⟩
      have hB2 := hB.trans (hb.mono (by simp))
      go_wp2_with fail
      go_ret2
      exact ⟨rfl, hB2⟩
  · have hE : packE ⟨l, c, b, t⟩ = 1 := if_neg hg
    have hL : packL ⟨l, c, b, t⟩ = [] := if_neg hg
    have hB : Below w.heap.size w (w.alloc (.cells #[.int .i64 l, .int .u8 c, .bool b, .int .u8 t] 54)) := (Below.refl _ _).alloc (Nat.le_refl _) _
    have key : l < 0 ∨ (0 ≤ l ∧ 1048575 < l) ∨ (0 ≤ l ∧ l ≤ 1048575 ∧ 7 < c) := by omega
    clear hg
    rw [hE, hL]
    clear hE hL
    rcases key with h | ⟨h1, h2⟩ | ⟨h1, h2, h3⟩
    all_goals
      go_enter Try.func26, Try.ntmps26
      go_wp2_with fail
      go_ret2
      exact ⟨rfl, hB⟩

theorem heap_set4 {w : World} {g : Nat} {a0 a1 a2 a3 : Value} {t : TypeId} (h : w.heap[g]? = some (.cells #[a0, a1, a2, a3] t (0, 0))) (u0 u1 u2 u3 : Value) :
    ((((w.setCell ⟨g, 0, none⟩ u0).setCell ⟨g, 1, none⟩ u1).setCell ⟨g, 2, none⟩ u2).setCell ⟨g, 3, none⟩ u3).heap[g]? = some (.cells #[u0, u1, u2, u3] t (0, 0)) := by
  have := heap_set (heap_set (heap_set (heap_set h 0 u0) 1 u1) 2 u2) 3 u3
  simpa using this
theorem below_set4 {B : Nat} {a w : World} {g : Nat} (h : Below B a w) (hg : B ≤ g) (u0 u1 u2 u3 : Value) : Below B a ((((w.setCell ⟨g, 0, none⟩ u0).setCell ⟨g, 1, none⟩ u1).setCell ⟨g, 2, none⟩ u2).setCell ⟨g, 3, none⟩ u3) :=
  (((h.setCell (p := ⟨g, 0, none⟩) hg u0).setCell (p := ⟨g, 1, none⟩) hg u1).setCell (p := ⟨g, 2, none⟩) hg u2).setCell (p := ⟨g, 3, none⟩) hg u3
theorem results_cellTmp {P : Program} {fn : Func} {p u : Tmp} {ty : TypeId} (h : fn.results = #[.cell p ty, .tmp u]) (tmps : Array Value) (w : World) (a : Addr) (v : Value) (hp : tmps.getD p undef = .pointer (some a)) (hl : (loadVar ty a).run P w = .ok v w) :
    (results fn tmps).run P w = .ok (.tuple #[v, tmps.getD u undef]) w := by
  have hp' : (tmps[p]?).getD undef = .pointer (some a) := by simpa using hp
  simp [results, h, hp', asAddr, hl]
theorem load_ent {w : World} {g : Nat} {u0 u1 u2 u3 : Value} (h : w.heap[g]? = some (.cells #[u0, u1, u2, u3] 54 (0, 0))) : (loadVar 54 ⟨g, 0, none⟩).run Try.prog w = .ok (.agg #[u0, u1, u2, u3]) w :=
  run_loadVar_row w g 54 54 #[u0, u1, u2, u3] (0, 0) _ h Try.underlying54 rfl (show (Try.prog.info? 54).map (·.size) = some 4 by kernel_rfl)

/-- the entry that bytes begin with, and its error -/
def unpE (l : List UInt8) : Ent := if l.length < 4 then ⟨0, 0, false, 0⟩ else ⟨(be (l.take 4) / 4096 : Nat), (be (l.take 4) / 512 % 8 : Nat), be (l.take 4) / 256 % 2 == 1, (be (l.take 4) % 256 : Nat)⟩
def unpN (l : List UInt8) : Int := if l.length < 4 then 10 else 0

theorem and256 (m : Nat) (h : m < 18446744073709551616) : (bits .and .u64 (m : Int) 256 != 0) = (m / 256 % 2 == 1) := by
  rw [show (256 : Int) = ((256 : Nat) : Int) from rfl, u64_and_nat m 256 (by omega) (by omega)]
  have hb : m.testBit 8 = (m / 256 % 2 == 1) := by
    rw [Nat.testBit_eq_decide_div_mod_eq, show (2 : Nat) ^ 8 = 256 from rfl]
    rfl
  rw [← hb]
  cases hm : m.testBit 8
  · have : m &&& 256 = 0 := by
      apply Nat.eq_of_testBit_eq
      intro i
      rw [Nat.testBit_and, show (256 : Nat) = 2 ^ 8 from rfl, Nat.testBit_two_pow]
      by_cases hi : 8 = i
      · subst hi; simp [hm]
      · simp [hi]
    rw [this]
    rfl
  · have : m &&& 256 ≠ 0 := by
      intro h0
      have := congrArg (Nat.testBit · 8) h0
      simp only [Nat.testBit_and, hm, Nat.zero_testBit] at this
      exact absurd this (by decide)
    simp [this]

theorem unpack_any (A : Option Addr) (n c : Nat) (l : List UInt8) (w : World) (h : Row w w.heap.size 1 A n (bv l)) (hc : n ≤ c) (hcm : c ≤ maxLen) (hn : n ≤ 1099511627776) :
    Calls Try.prog 34 #[.slice A n c] w fun e w' => e = .returned (.tuple #[.agg #[.int .i64 (unpE l).label, .int .u8 (unpE l).cls, .bool (unpE l).bot, .int .u8 (unpE l).ttl], .int .i64 (unpN l)]) ∧ Below w.heap.size w w' := by
  have hlen : l.length = n := by have := h.1; rw [bv_length] at this; omega
  have hB : Below w.heap.size w (w.alloc (.cells #[.int .i64 0, .int .u8 0, .bool false, .int .u8 0] 54)) := (Below.refl _ _).alloc (Nat.le_refl _) _
  by_cases h4 : n < 4
  · have hE : unpE l = ⟨0, 0, false, 0⟩ := if_pos (by omega)
    have hN : unpN l = 10 := if_pos (by omega)
    rw [hE, hN]
    have G := Lib.hid (get_no A n c l 0 4 (w.alloc (.cells #[.int .i64 0, .int .u8 0, .bool false, .int .u8 0] 54)) ((h.below hB).more hB.size) hc hcm hn (by unfold There; omega))
    clear hE hN hlen h
    go_enter Try.func34, Try.ntmps34
    go_wp2_with fail
    refine G.out.mono ?_
    rintro e w' ⟨rfl, hb⟩
    have hB2 := hB.trans (hb.mono (by simp))
    have hc0 := hb.block w.heap.size (by simp)
    rw [heap_new] at hc0
    have k0 := cell_at hc0 0
    have k1 := cell_at hc0 1
    have k2 := cell_at hc0 2
    have k3 := cell_at hc0 3
    have kf := frozen_at hc0
    have HB := Lib.hid hc0
    clear hc0
    go_wp2_with fail
    refine bodyPost_ret (results_cellTmp rfl _ _ ⟨w.heap.size, 0, none⟩ _ rfl (load_ent (heap_set4 HB.out _ _ _ _))) rfl ?_
    exact ⟨rfl, below_set4 hB2 (Nat.le_refl _) _ _ _ _⟩
  · have hE : unpE l = _ := if_neg (by omega)
    have hN : unpN l = 0 := if_neg (by omega)
    rw [hE, hN]
    have G := Lib.hid (get_yes A n c l 0 4 (w.alloc (.cells #[.int .i64 0, .int .u8 0, .bool false, .int .u8 0] 54)) ((h.below hB).more hB.size) hc hcm hn (by omega) (by omega) (by omega) (by omega))
    have hd : (l.drop (0 : Int).toNat).take (4 : Int).toNat = l.take 4 := rfl
    rw [hd] at G
    have hlt : be (l.take 4) < 4294967296 := by
      have := be_lt (l.take 4)
      rw [List.length_take, show min 4 l.length = 4 by omega] at this
      exact this
    generalize be (l.take 4) = m at G hlt
    clear hE hN hlen h hd
    go_enter Try.func34, Try.ntmps34
    go_wp2_with fail
    refine G.out.mono ?_
    rintro e w' ⟨rfl, hb⟩
    have hB2 := hB.trans (hb.mono (by simp))
    have hc0 := hb.block w.heap.size (by simp)
    rw [heap_new] at hc0
    have k0 := cell_at hc0 0
    have k1 := cell_at hc0 1
    have k2 := cell_at hc0 2
    have k3 := cell_at hc0 3
    have kf := frozen_at hc0
    have HB := Lib.hid hc0
    clear hc0
    go_wp2_with fail
    refine bodyPost_ret (results_cellTmp rfl _ _ ⟨w.heap.size, 0, none⟩ _ rfl (load_ent (heap_set4 HB.out _ _ _ _))) rfl ?_
    refine ⟨?_, below_set4 hB2 (Nat.le_refl _) _ _ _ _⟩
    rw [and256 m (by omega)]
    simp

theorem runpack_any (l : List UInt8) (w : World) (hn : l.length ≤ 1099511627776) :
    Calls Try.prog 35 #[str l] w fun e w' => e = .returned (.tuple #[.agg #[.int .i64 (unpE l).label, .int .u8 (unpE l).cls, .bool (unpE l).bot, .int .u8 (unpE l).ttl], .int .i64 (unpN l)]) ∧ Below w.heap.size w w' := by
  have hB2 : Below w.heap.size w (w.alloc (.cells #[.int .i64 0, .int .u8 0, .bool false, .int .u8 0] 54)) := (Below.refl _ _).alloc (Nat.le_refl _) _
  have hc0 := heap_new w #[.int .i64 0, .int .u8 0, .bool false, .int .u8 0] 54
  have HB := Lib.hid hc0
  clear hc0
  by_cases h4 : l.length < 4
  · have hE : unpE l = ⟨0, 0, false, 0⟩ := if_pos (by omega)
    have hN : unpN l = 10 := if_pos (by omega)
    rw [hE, hN]
    have G := fun w => rget_no l 0 4 w hn (by unfold There; omega)
    have HG := Lib.hid G
    clear hE hN G
    go_enter Try.func35, Try.ntmps35
    go_wp2_with fail
    refine (HG.out _).mono ?_
    rintro e w' ⟨rfl, rfl⟩
    go_wp2_with fail
    refine bodyPost_ret (results_cellTmp rfl _ _ ⟨w.heap.size, 0, none⟩ _ rfl (load_ent (heap_new _ _ _))) rfl ?_
    exact ⟨rfl, (Below.refl _ _).alloc (Nat.le_refl _) _⟩
  · have hE : unpE l = _ := if_neg (by omega)
    have hN : unpN l = 0 := if_neg (by omega)
    rw [hE, hN]
    have G := fun w => rget_yes l 0 4 w hn (by omega) (by omega) (by omega) (by omega)
    have hd : (l.drop (0 : Int).toNat).take (4 : Int).toNat = l.take 4 := rfl
    simp only [hd] at G
    have hlt : be (l.take 4) < 4294967296 := by
      have := be_lt (l.take 4)
      rw [List.length_take, show min 4 l.length = 4 by omega] at this
      exact this
    generalize be (l.take 4) = m at G hlt
    have HG := Lib.hid G
    clear hE hN G hd
    go_enter Try.func35, Try.ntmps35
    go_wp2_with fail
    refine (HG.out _).mono ?_
    rintro e w' ⟨rfl, rfl⟩
    go_wp2_with fail
    refine bodyPost_ret (results_cellTmp rfl _ _ ⟨w.heap.size, 0, none⟩ _ rfl (load_ent (heap_new _ _ _))) rfl ?_
    refine ⟨?_, (Below.refl _ _).alloc (Nat.le_refl _) _⟩
    have hbb : (((m : Int) / 256 % 2) == 1) = (m / 256 % 2 == 1) := by
      by_cases hm : m / 256 % 2 = 1
      · have : (m : Int) / 256 % 2 = 1 := by omega
        simp [hm, this]
      · have : (m : Int) / 256 % 2 = 0 := by omega
        have : m / 256 % 2 = 0 := by omega
        simp [*]
    rw [hbb]
    simp
end Go.Proofs.Ytbabkcdhihmomaa

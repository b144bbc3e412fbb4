/- Texts of this claim put together, in build order: each one's own remark stands ahead of it. -/
import Derived.Test.YtbcjkjmjljfhpaaDoorG01
import Derived.BigQuiet
import Derived.Deep.QuietTactic
import Derived.Test.YtbcjkjmjljfhpaaDoorG02
import Derived.Deep.OwnRows
import Derived.Test.YtbcjkjmjljfhpaaDoorG05
/- Entries of a label stack as cells, and footplateref03.Exact. No condition but sizes. -/
namespace Go.Proofs.YtbcjkjmjljfhpaaDoor
open Go.RowKit
set_option linter.unusedVariables false
set_option maxRecDepth 20000

/-- an entry of a label stack -/
structure Ent where
  label : Int
  cls : Int
  bot : Bool
  ttl : Int
def Ent.cells (e : Ent) : List Value := [.int .i64 e.label, .int .u8 e.cls, .bool e.bot, .int .u8 e.ttl]
def evs (l : List Ent) : List Value := l.flatMap Ent.cells
theorem evs_length (l : List Ent) : (evs l).length = l.length * 4 := by
  induction l with
  | nil => rfl
  | cons e l ih =>
    have h : evs (e :: l) = e.cells ++ evs l := rfl
    rw [h, List.length_append, ih, List.length_cons, Nat.succ_mul]
    simp [Ent.cells]
    omega
theorem evs_append (a b : List Ent) : evs (a ++ b) = evs a ++ evs b := by simp [evs]
theorem evs_one (l : List Ent) : ∀ u ∈ evs l, u.oneCell' = true := by
  intro u hu
  obtain ⟨e, _, he⟩ := List.mem_flatMap.1 hu
  simp [Ent.cells] at he
  rcases he with rfl | rfl | rfl | rfl <;> rfl

theorem infoEntry : (Tryd.prog.info? 49).map (fun i => (i.zero, i.size, i.bytes)) = some (some (.agg #[.int .i64 0, .int .u8 0, .bool false, .int .u8 0]), 4, 16) := by kernel_rfl

theorem evs_cell (l : List Ent) (i : Nat) (x : Ent) (h : l[i]? = some x) (j : Nat) (hj : j < 4) : (evs l)[i * 4 + j]? = x.cells[j]? := by
  induction l generalizing i with
  | nil => simp at h
  | cons y l ih =>
    have e : evs (y :: l) = y.cells ++ evs l := rfl
    have hl : y.cells.length = 4 := rfl
    rw [e]
    cases i with
    | zero =>
      simp at h
      subst h
      rw [List.getElem?_append_left (by omega)]
      congr 1
      omega
    | succ i =>
      simp at h
      rw [List.getElem?_append_right (by omega), ← ih i h]
      congr 1
      omega
theorem ent_row {w : World} {B n : Nat} {A : Option Addr} {l : List Ent} (h : Row w B 4 A n (evs l)) (i : Nat) (x : Ent) (hi : l[i]? = some x) :
    ∃ b o, A = some ⟨b, o, none⟩ ∧ b < B ∧ w.cell? ⟨b, o + i * 4, none⟩ = some (.int .i64 x.label) ∧ w.cell? ⟨b, o + i * 4 + 1, none⟩ = some (.int .u8 x.cls) ∧ w.cell? ⟨b, o + i * 4 + 2, none⟩ = some (.bool x.bot) ∧ w.cell? ⟨b, o + i * 4 + 3, none⟩ = some (.int .u8 x.ttl) := by
  have hl : l.length = n := by have := h.1; rw [evs_length] at this; omega
  have hn : 0 < n := by
    obtain ⟨hi', _⟩ := List.getElem?_eq_some_iff.1 hi
    omega
  obtain ⟨b, o, rfl, hb, hc⟩ := h.2 hn
  refine ⟨b, o, rfl, hb, ?_, ?_, ?_, ?_⟩
  · exact hc (i * 4) _ (evs_cell l i x hi 0 (by omega))
  · exact hc (i * 4 + 1) _ (evs_cell l i x hi 1 (by omega))
  · exact hc (i * 4 + 2) _ (evs_cell l i x hi 2 (by omega))
  · exact hc (i * 4 + 3) _ (evs_cell l i x hi 3 (by omega))
theorem ent_len {w : World} {B n : Nat} {A : Option Addr} {l : List Ent} (h : Row w B 4 A n (evs l)) : l.length = n := by
  have := h.1; rw [evs_length] at this; omega

set_option maxHeartbeats 1000000 in
theorem exact_same (A A2 : Option Addr) (n c c2 : Nat) (l : List Ent) (w : World) (B : Nat) (h1 : Row w B 4 A n (evs l)) (h2 : Row w B 4 A2 n (evs l)) (hn : n ≤ 1099511627776) :
    Calls Tryd.prog 17 #[.slice A n c, .slice A2 n c2] w fun e w' => e = .returned (.bool true) ∧ Below w.heap.size w w' := by
  have HR1 := Lib.hid h1
  have HR2 := Lib.hid h2
  have HL := Lib.hid (ent_len h1)
  clear h1 h2
  go_enter Tryd.func17, Tryd.ntmps17
  go_wp2_with fail
  go_loopw [5] (fun i wr => ∃ (k : Nat), k ≤ n ∧ i = .int .i64 k ∧ ∃ d, wr = w.drewN d) (fun i _ => n - (intOf i).toNat)
  case atStart => exact ⟨0, by omega, rfl, 0, rfl⟩
  case round =>
    obtain ⟨k, hk, rfl, d, rfl⟩ := hrel
    by_cases hlt : k < n
    · obtain ⟨x, hx⟩ : ∃ x, l[k]? = some x := ⟨_, List.getElem?_eq_getElem (by have := HL.out; omega)⟩
      obtain ⟨b, o, rfl, hb, a0, a1, a2, a3⟩ := ent_row HR1.out k x hx
      obtain ⟨b2, o2, rfl, hb2, b0, b1, b2, b3⟩ := ent_row HR2.out k x hx
      go_wp2_with fail
      go_quiet (fail)
      clear a0 a1 a2 a3 b0 b1 b2 b3
      go_wp2_with fail
      go_roundw
      case rel => exact ⟨k + 1, by omega, by simp, d + nq, rfl⟩
      case measure => simp [intOf]; omega
    · have : k = n := by omega
      subst this
      go_wp2
      go_ret
      exact ⟨rfl, below_drewN (Below.refl _ _) d⟩
end Go.Proofs.YtbcjkjmjljfhpaaDoor

/- What entry.Pack, entry.Unpack and the reference's compute. No condition but sizes. -/
namespace Go.Proofs.YtbcjkjmjljfhpaaDoor
open Go.RowKit
set_option linter.unusedVariables false
set_option maxRecDepth 20000

/-- an entry's fields are of their kinds -/
structure Ent.fit (e : Ent) : Prop where
  l0 : -9223372036854775808 ≤ e.label
  l1 : e.label ≤ 9223372036854775807
  c0 : 0 ≤ e.cls
  c1 : e.cls ≤ 255
  t0 : 0 ≤ e.ttl
  t1 : e.ttl ≤ 255
/-- may an entry be packed -/
def Ent.good (e : Ent) : Prop := 0 ≤ e.label ∧ e.label ≤ 1048575 ∧ e.cls ≤ 7
instance (e : Ent) : Decidable e.good := inferInstanceAs (Decidable (_ ∧ _))
/-- its number -/
def Ent.num (e : Ent) : Int := e.label * 4096 + e.cls * 512 + (if e.bot then 256 else 0) + e.ttl
/-- its bytes, and its error -/
def packL (e : Ent) : List UInt8 := if e.good then toBe 4 e.num.toNat else []
def packE (e : Ent) : Int := if e.good then 0 else 1

theorem made4 : madeCells (Value.int .u8 0).cells (Int.toNat 4 * 1) = #[.int .u8 0, .int .u8 0, .int .u8 0, .int .u8 0] := by kernel_rfl
theorem join_or (k : Nat) (a b : Nat) (h : b < 2 ^ k) (hs : a * 2 ^ k + b < 18446744073709551616) : bits .or .u64 ((a * 2 ^ k : Nat) : Int) (b : Int) = ((a * 2 ^ k + b : Nat) : Int) := by
  have hp : 0 < 2 ^ k := Nat.pos_of_ne_zero (by simp)
  rw [Nat.mul_comm] at hs
  rw [Nat.mul_comm, u64_or_nat _ _ (by omega) (by omega), nat_join k _ _ (Nat.mul_mod_right _ _) h]
theorem num_or (l c t : Int) (l0 : 0 ≤ l) (l1 : l ≤ 1048575) (c0 : 0 ≤ c) (c1 : c ≤ 7) (t0 : 0 ≤ t) (t1 : t ≤ 255) :
    bits .or .u64 (l * 4096) (c * 512) = l * 4096 + c * 512 ∧ bits .or .u64 (l * 4096 + c * 512) t = l * 4096 + c * 512 + t ∧ bits .or .u64 (l * 4096 + c * 512 + t) 256 = l * 4096 + c * 512 + 256 + t := by
  obtain ⟨l, rfl⟩ := Int.eq_ofNat_of_zero_le l0
  obtain ⟨c, rfl⟩ := Int.eq_ofNat_of_zero_le c0
  obtain ⟨t, rfl⟩ := Int.eq_ofNat_of_zero_le t0
  refine ⟨?_, ?_, ?_⟩
  · have := join_or 12 l (c * 512) (by omega) (by omega)
    rw [show ((l : Int) * 4096) = ((l * 2 ^ 12 : Nat) : Int) by omega, show ((c : Int) * 512) = ((c * 512 : Nat) : Int) by omega, this]
    omega
  · have := join_or 9 (l * 8 + c) t (by omega) (by omega)
    rw [show ((l : Int) * 4096 + c * 512) = (((l * 8 + c) * 2 ^ 9 : Nat) : Int) by omega, this]
    omega
  · have e1 := join_or 9 (l * 8 + c) t (by omega) (by omega)
    have e2 := join_or 9 (l * 8 + c) (256 + t) (by omega) (by omega)
    have e3 : 256 ||| t = 256 + t := by
      have := nat_join 8 256 t (by omega) (by omega)
      exact this
    have e4 : ((l * 8 + c) * 2 ^ 9 + t) ||| 256 = (l * 8 + c) * 2 ^ 9 + (256 + t) := by
      have f1 := nat_join 9 ((l * 8 + c) * 2 ^ 9) t (by omega) (by omega)
      have f2 := nat_join 9 ((l * 8 + c) * 2 ^ 9) (256 + t) (by omega) (by omega)
      rw [← f1, ← f2, ← e3, Nat.or_assoc, Nat.or_comm t 256]
    rw [show ((l : Int) * 4096 + c * 512 + t) = (((l * 8 + c) * 2 ^ 9 + t : Nat) : Int) by omega, show (256 : Int) = ((256 : Nat) : Int) from rfl, u64_or_nat _ _ (by omega) (by omega), e4]
    omega

set_option maxHeartbeats 1000000 in
theorem pack_any (x : Ent) (hf : x.fit) (w : World) :
    Calls Tryd.prog 42 #[.agg #[.int .i64 x.label, .int .u8 x.cls, .bool x.bot, .int .u8 x.ttl]] w fun e w' => ∃ r : Bs, e = .returned (.tuple #[r.v, .int .i64 (packE x)]) ∧ r.ok w' ∧ r.l = packL x ∧ Below w.heap.size w w' := by
  obtain ⟨l, c, b, t⟩ := x
  obtain ⟨l0, l1, c0, c1, t0, t1⟩ := hf
  simp only at *
  by_cases hg : 0 ≤ l ∧ l ≤ 1048575 ∧ c ≤ 7
  · obtain ⟨g0, g1, g2⟩ := hg
    have hE : packE ⟨l, c, b, t⟩ = 0 := if_pos ⟨g0, g1, g2⟩
    have hL : packL ⟨l, c, b, t⟩ = toBe 4 (Ent.num ⟨l, c, b, t⟩).toNat := if_pos ⟨g0, g1, g2⟩
    have hw1 : IntKind.u64.wrap l = l := wrap64_id l (by omega) (by omega)
    obtain ⟨o1, o2, o3⟩ := num_or l c t g0 g1 c0 g2 t0 t1
    obtain ⟨i0, hi0, hz0, hs0, hb0⟩ := info_parts infoByte
    have hrow2 : Row ((w.alloc (.cells #[.int .i64 l, .int .u8 c, .bool b, .int .u8 t] 49)).alloc (.cells #[.int .u8 0, .int .u8 0, .int .u8 0, .int .u8 0] 5)) ((w.alloc (.cells #[.int .i64 l, .int .u8 c, .bool b, .int .u8 t] 49)).alloc (.cells #[.int .u8 0, .int .u8 0, .int .u8 0, .int .u8 0] 5)).heap.size 1 (some ⟨w.heap.size + 1, 0, none⟩) 4 (bv [0, 0, 0, 0]) := by
      have hrow := Row.new (n := 4) (sz := 1) (e := 5) (w.alloc (.cells #[.int .i64 l, .int .u8 c, .bool b, .int .u8 t] 49)) #[.int .u8 0, .int .u8 0, .int .u8 0, .int .u8 0] rfl
      rw [World.size_alloc] at hrow
      rw [World.size_alloc, World.size_alloc]
      exact hrow
    have hB : Below w.heap.size w ((w.alloc (.cells #[.int .i64 l, .int .u8 c, .bool b, .int .u8 t] 49)).alloc (.cells #[.int .u8 0, .int .u8 0, .int .u8 0, .int .u8 0] 5)) := ((Below.refl _ _).alloc (Nat.le_refl _) _).alloc (by simp) _
    have hnum : 0 ≤ Ent.num ⟨l, c, b, t⟩ ∧ Ent.num ⟨l, c, b, t⟩ < 256 ^ (4 : Int).toNat := by
      unfold Ent.num
      simp only [show ((256 : Int) ^ (4 : Int).toNat) = 4294967296 from rfl]
      split <;> omega
    have hput := put_yes _ 4 4 [0, 0, 0, 0] 0 4 (Ent.num ⟨l, c, b, t⟩) _ hrow2 (by omega) (by simp [maxLen]) (by omega) (by omega) (by omega) (by omega) (by omega) hnum.1 hnum.2
    have hmk : Sem.run Tryd.prog (Instr.makeSlice 22 (.int .i64 4) (.int .i64 4)) (w.alloc (.cells #[.int .i64 l, .int .u8 c, .bool b, .int .u8 t] 49)) = .ok (.slice (some ⟨w.heap.size + 1, 0, none⟩) 4 4) ((w.alloc (.cells #[.int .i64 l, .int .u8 c, .bool b, .int .u8 t] 49)).alloc (.cells #[.int .u8 0, .int .u8 0, .int .u8 0, .int .u8 0] 5)) := by
      have := run_make (P := Tryd.prog) (w.alloc (.cells #[.int .i64 l, .int .u8 c, .bool b, .int .u8 t] 49)) 22 5 i0 (.int .u8 0) Tryd.underlying22 hi0 hz0 .i64 .i64 4 4 (by omega) (by omega) (by rw [hb0]; omega) (by omega)
      rw [hs0, World.size_alloc, made4] at this
      exact this
    have HP := Lib.hid hput
    clear hput hrow2 hnum hi0 hz0
    have n0 : Ent.num ⟨l, c, false, t⟩ = l * 4096 + c * 512 + t := by simp [Ent.num]
    have n1 : Ent.num ⟨l, c, true, t⟩ = l * 4096 + c * 512 + 256 + t := by simp [Ent.num]
    cases b
    · rw [n0] at HP hL
      clear n0 n1
      go_enter Tryd.func42, Tryd.ntmps42
      go_wp2_with fail
      refine HP.out.mono ?_
      rintro e w' ⟨A', c', rfl, hown, hb⟩
      have hB2 := hB.trans (hb.mono (by simp; omega))
      have HO := Lib.hid hown
      clear hown
      go_wp2_with fail
      go_ret2
      exact ⟨⟨A', 4, c', _⟩, by rw [hE]; rfl, HO.out.ok, by rw [hL]; simp [toBe], hB2⟩
    · rw [n1] at HP hL
      clear n0 n1
      go_enter Tryd.func42, Tryd.ntmps42
      go_wp2_with fail
      refine HP.out.mono ?_
      rintro e w' ⟨A', c', rfl, hown, hb⟩
      have hB2 := hB.trans (hb.mono (by simp; omega))
      have HO := Lib.hid hown
      clear hown
      go_wp2_with fail
      go_ret2
      exact ⟨⟨A', 4, c', _⟩, by rw [hE]; rfl, HO.out.ok, by rw [hL]; simp [toBe], hB2⟩
  · have hE : packE ⟨l, c, b, t⟩ = 1 := if_neg hg
    have hL : packL ⟨l, c, b, t⟩ = [] := if_neg hg
    have hB : Below w.heap.size w (w.alloc (.cells #[.int .i64 l, .int .u8 c, .bool b, .int .u8 t] 49)) := (Below.refl _ _).alloc (Nat.le_refl _) _
    have key : l < 0 ∨ (0 ≤ l ∧ 1048575 < l) ∨ (0 ≤ l ∧ l ≤ 1048575 ∧ 7 < c) := by omega
    clear hg
    rcases key with h | ⟨h1, h2⟩ | ⟨h1, h2, h3⟩
    all_goals
      go_enter Tryd.func42, Tryd.ntmps42
      go_wp2_with fail
      go_ret2
      exact ⟨⟨none, 0, 0, []⟩, by rw [hE]; rfl, ⟨Row.nil _ _ _ _, Nat.le_refl _, Nat.zero_le _⟩, hL.symm, hB⟩

set_option maxHeartbeats 1000000 in
theorem rpack_any (x : Ent) (hf : x.fit) (w : World) :
    Calls Tryd.prog 48 #[.agg #[.int .i64 x.label, .int .u8 x.cls, .bool x.bot, .int .u8 x.ttl]] w fun e w' => e = .returned (.tuple #[str (packL x), .int .i64 (packE x)]) ∧ Below w.heap.size w w' := by
  obtain ⟨l, c, b, t⟩ := x
  obtain ⟨l0, l1, c0, c1, t0, t1⟩ := hf
  simp only at *
  by_cases hg : 0 ≤ l ∧ l ≤ 1048575 ∧ c ≤ 7
  · obtain ⟨g0, g1, g2⟩ := hg
    have hE : packE ⟨l, c, b, t⟩ = 0 := if_pos ⟨g0, g1, g2⟩
    have hL : packL ⟨l, c, b, t⟩ = toBe 4 (Ent.num ⟨l, c, b, t⟩).toNat := if_pos ⟨g0, g1, g2⟩
    have hB : Below w.heap.size w (w.alloc (.cells #[.int .i64 l, .int .u8 c, .bool b, .int .u8 t] 49)) := (Below.refl _ _).alloc (Nat.le_refl _) _
    rw [hE, hL]
    cases b
    · have n0 : 4096 * l + 512 * c + t = Ent.num ⟨l, c, false, t⟩ := by simp [Ent.num]; omega
      have hw := wrap64_id (4096 * l + 512 * c + t) (by omega) (by omega)
      clear hE hL
      go_enter Tryd.func48, Tryd.ntmps48
      go_wp2_with fail
      refine (bytes_any _ 4 _ (by omega) (by omega) (by omega) (by omega)).mono ?_
      rintro e w' ⟨rfl, hb⟩
      have hB2 := hB.trans (hb.mono (by simp))
      go_wp2_with fail
      go_ret2
      exact ⟨rfl, hB2⟩
    · have n0 : 4096 * l + 512 * c + t + 256 = Ent.num ⟨l, c, true, t⟩ := by simp [Ent.num]; omega
      have hw := wrap64_id (4096 * l + 512 * c + t + 256) (by omega) (by omega)
      clear hE hL
      go_enter Tryd.func48, Tryd.ntmps48
      go_wp2_with fail
      refine (bytes_any _ 4 _ (by omega) (by omega) (by omega) (by omega)).mono ?_
      rintro e w' ⟨rfl, hb⟩
      have hB2 := hB.trans (hb.mono (by simp))
      go_wp2_with fail
      go_ret2
      exact ⟨rfl, hB2⟩
  · have hE : packE ⟨l, c, b, t⟩ = 1 := if_neg hg
    have hL : packL ⟨l, c, b, t⟩ = [] := if_neg hg
    have hB : Below w.heap.size w (w.alloc (.cells #[.int .i64 l, .int .u8 c, .bool b, .int .u8 t] 49)) := (Below.refl _ _).alloc (Nat.le_refl _) _
    have key : l < 0 ∨ (0 ≤ l ∧ 1048575 < l) ∨ (0 ≤ l ∧ l ≤ 1048575 ∧ 7 < c) := by omega
    clear hg
    rw [hE, hL]
    clear hE hL
    rcases key with h | ⟨h1, h2⟩ | ⟨h1, h2, h3⟩
    all_goals
      go_enter Tryd.func48, Tryd.ntmps48
      go_wp2_with fail
      go_ret2
      exact ⟨rfl, hB⟩

theorem heap_set4 {w : World} {g : Nat} {a0 a1 a2 a3 : Value} {t : TypeId} (h : w.heap[g]? = some (.cells #[a0, a1, a2, a3] t (0, 0))) (u0 u1 u2 u3 : Value) :
    ((((w.setCell ⟨g, 0, none⟩ u0).setCell ⟨g, 1, none⟩ u1).setCell ⟨g, 2, none⟩ u2).setCell ⟨g, 3, none⟩ u3).heap[g]? = some (.cells #[u0, u1, u2, u3] t (0, 0)) := by
  have := heap_set (heap_set (heap_set (heap_set h 0 u0) 1 u1) 2 u2) 3 u3
  simpa using this
theorem below_set4 {B : Nat} {a w : World} {g : Nat} (h : Below B a w) (hg : B ≤ g) (u0 u1 u2 u3 : Value) : Below B a ((((w.setCell ⟨g, 0, none⟩ u0).setCell ⟨g, 1, none⟩ u1).setCell ⟨g, 2, none⟩ u2).setCell ⟨g, 3, none⟩ u3) :=
  (((h.setCell (p := ⟨g, 0, none⟩) hg u0).setCell (p := ⟨g, 1, none⟩) hg u1).setCell (p := ⟨g, 2, none⟩) hg u2).setCell (p := ⟨g, 3, none⟩) hg u3
theorem results_cellTmp {P : Program} {fn : Func} {p u : Tmp} {ty : TypeId} (h : fn.results = #[.cell p ty, .tmp u]) (tmps : Array Value) (w : World) (a : Addr) (v : Value) (hp : tmps.getD p undef = .pointer (some a)) (hl : (loadVar ty a).run P w = .ok v w) :
    (results fn tmps).run P w = .ok (.tuple #[v, tmps.getD u undef]) w := by
  have hp' : (tmps[p]?).getD undef = .pointer (some a) := by simpa using hp
  simp [results, h, hp', asAddr, hl]
theorem load_ent {w : World} {g : Nat} {u0 u1 u2 u3 : Value} (h : w.heap[g]? = some (.cells #[u0, u1, u2, u3] 49 (0, 0))) : (loadVar 49 ⟨g, 0, none⟩).run Tryd.prog w = .ok (.agg #[u0, u1, u2, u3]) w :=
  run_loadVar_row w g 49 49 #[u0, u1, u2, u3] (0, 0) _ h Tryd.underlying49 rfl (show (Tryd.prog.info? 49).map (·.size) = some 4 by kernel_rfl)

/-- the entry that bytes begin with, and its error -/
def unpE (l : List UInt8) : Ent := if l.length < 4 then ⟨0, 0, false, 0⟩ else ⟨(be (l.take 4) / 4096 : Nat), (be (l.take 4) / 512 % 8 : Nat), be (l.take 4) / 256 % 2 == 1, (be (l.take 4) % 256 : Nat)⟩
def unpN (l : List UInt8) : Int := if l.length < 4 then 10 else 0

theorem and256 (m : Nat) (h : m < 18446744073709551616) : (bits .and .u64 (m : Int) 256 != 0) = (m / 256 % 2 == 1) := by
  rw [show (256 : Int) = ((256 : Nat) : Int) from rfl, u64_and_nat m 256 (by omega) (by omega)]
  have hb : m.testBit 8 = (m / 256 % 2 == 1) := by
    rw [Nat.testBit_eq_decide_div_mod_eq, show (2 : Nat) ^ 8 = 256 from rfl]
    rfl
  rw [← hb]
  cases hm : m.testBit 8
  · have : m &&& 256 = 0 := by
      apply Nat.eq_of_testBit_eq
      intro i
      rw [Nat.testBit_and, show (256 : Nat) = 2 ^ 8 from rfl, Nat.testBit_two_pow]
      by_cases hi : 8 = i
      · subst hi; simp [hm]
      · simp [hi]
    rw [this]
    rfl
  · have : m &&& 256 ≠ 0 := by
      intro h0
      have := congrArg (Nat.testBit · 8) h0
      simp only [Nat.testBit_and, hm, Nat.zero_testBit] at this
      exact absurd this (by decide)
    simp [this]

theorem unpack_any (A : Option Addr) (n c : Nat) (l : List UInt8) (w : World) (h : Row w w.heap.size 1 A n (bv l)) (hc : n ≤ c) (hcm : c ≤ maxLen) (hn : n ≤ 1099511627776) :
    Calls Tryd.prog 56 #[.slice A n c] w fun e w' => e = .returned (.tuple #[.agg #[.int .i64 (unpE l).label, .int .u8 (unpE l).cls, .bool (unpE l).bot, .int .u8 (unpE l).ttl], .int .i64 (unpN l)]) ∧ Below w.heap.size w w' := by
  have hlen : l.length = n := by have := h.1; rw [bv_length] at this; omega
  have hB : Below w.heap.size w (w.alloc (.cells #[.int .i64 0, .int .u8 0, .bool false, .int .u8 0] 49)) := (Below.refl _ _).alloc (Nat.le_refl _) _
  by_cases h4 : n < 4
  · have hE : unpE l = ⟨0, 0, false, 0⟩ := if_pos (by omega)
    have hN : unpN l = 10 := if_pos (by omega)
    rw [hE, hN]
    have G := Lib.hid (get_no A n c l 0 4 (w.alloc (.cells #[.int .i64 0, .int .u8 0, .bool false, .int .u8 0] 49)) ((h.below hB).more hB.size) hc hcm hn (by unfold There; omega))
    clear hE hN hlen h
    go_enter Tryd.func56, Tryd.ntmps56
    go_wp2_with fail
    refine G.out.mono ?_
    rintro e w' ⟨rfl, hb⟩
    have hB2 := hB.trans (hb.mono (by simp))
    have hc0 := hb.block w.heap.size (by simp)
    rw [heap_new] at hc0
    have k0 := cell_at hc0 0
    have k1 := cell_at hc0 1
    have k2 := cell_at hc0 2
    have k3 := cell_at hc0 3
    have kf := frozen_at hc0
    have HB := Lib.hid hc0
    clear hc0
    go_wp2_with fail
    refine bodyPost_ret (results_cellTmp rfl _ _ ⟨w.heap.size, 0, none⟩ _ rfl (load_ent (heap_set4 HB.out _ _ _ _))) rfl ?_
    exact ⟨rfl, below_set4 hB2 (Nat.le_refl _) _ _ _ _⟩
  · have hE : unpE l = _ := if_neg (by omega)
    have hN : unpN l = 0 := if_neg (by omega)
    rw [hE, hN]
    have G := Lib.hid (get_yes A n c l 0 4 (w.alloc (.cells #[.int .i64 0, .int .u8 0, .bool false, .int .u8 0] 49)) ((h.below hB).more hB.size) hc hcm hn (by omega) (by omega) (by omega) (by omega))
    have hd : (l.drop (0 : Int).toNat).take (4 : Int).toNat = l.take 4 := rfl
    rw [hd] at G
    have hlt : be (l.take 4) < 4294967296 := by
      have := be_lt (l.take 4)
      rw [List.length_take, show min 4 l.length = 4 by omega] at this
      exact this
    generalize be (l.take 4) = m at G hlt
    clear hE hN hlen h hd
    go_enter Tryd.func56, Tryd.ntmps56
    go_wp2_with fail
    refine G.out.mono ?_
    rintro e w' ⟨rfl, hb⟩
    have hB2 := hB.trans (hb.mono (by simp))
    have hc0 := hb.block w.heap.size (by simp)
    rw [heap_new] at hc0
    have k0 := cell_at hc0 0
    have k1 := cell_at hc0 1
    have k2 := cell_at hc0 2
    have k3 := cell_at hc0 3
    have kf := frozen_at hc0
    have HB := Lib.hid hc0
    clear hc0
    go_wp2_with fail
    refine bodyPost_ret (results_cellTmp rfl _ _ ⟨w.heap.size, 0, none⟩ _ rfl (load_ent (heap_set4 HB.out _ _ _ _))) rfl ?_
    refine ⟨?_, below_set4 hB2 (Nat.le_refl _) _ _ _ _⟩
    rw [and256 m (by omega)]
    simp

theorem runpack_any (l : List UInt8) (w : World) (hn : l.length ≤ 1099511627776) :
    Calls Tryd.prog 62 #[str l] w fun e w' => e = .returned (.tuple #[.agg #[.int .i64 (unpE l).label, .int .u8 (unpE l).cls, .bool (unpE l).bot, .int .u8 (unpE l).ttl], .int .i64 (unpN l)]) ∧ Below w.heap.size w w' := by
  have hB2 : Below w.heap.size w (w.alloc (.cells #[.int .i64 0, .int .u8 0, .bool false, .int .u8 0] 49)) := (Below.refl _ _).alloc (Nat.le_refl _) _
  have hc0 := heap_new w #[.int .i64 0, .int .u8 0, .bool false, .int .u8 0] 49
  have HB := Lib.hid hc0
  clear hc0
  by_cases h4 : l.length < 4
  · have hE : unpE l = ⟨0, 0, false, 0⟩ := if_pos (by omega)
    have hN : unpN l = 10 := if_pos (by omega)
    rw [hE, hN]
    have G := fun w => rget_no l 0 4 w hn (by unfold There; omega)
    have HG := Lib.hid G
    clear hE hN G
    go_enter Tryd.func62, Tryd.ntmps62
    go_wp2_with fail
    refine (HG.out _).mono ?_
    rintro e w' ⟨rfl, rfl⟩
    go_wp2_with fail
    refine bodyPost_ret (results_cellTmp rfl _ _ ⟨w.heap.size, 0, none⟩ _ rfl (load_ent (heap_new _ _ _))) rfl ?_
    exact ⟨rfl, (Below.refl _ _).alloc (Nat.le_refl _) _⟩
  · have hE : unpE l = _ := if_neg (by omega)
    have hN : unpN l = 0 := if_neg (by omega)
    rw [hE, hN]
    have G := fun w => rget_yes l 0 4 w hn (by omega) (by omega) (by omega) (by omega)
    have hd : (l.drop (0 : Int).toNat).take (4 : Int).toNat = l.take 4 := rfl
    simp only [hd] at G
    have hlt : be (l.take 4) < 4294967296 := by
      have := be_lt (l.take 4)
      rw [List.length_take, show min 4 l.length = 4 by omega] at this
      exact this
    generalize be (l.take 4) = m at G hlt
    have HG := Lib.hid G
    clear hE hN G hd
    go_enter Tryd.func62, Tryd.ntmps62
    go_wp2_with fail
    refine (HG.out _).mono ?_
    rintro e w' ⟨rfl, rfl⟩
    go_wp2_with fail
    refine bodyPost_ret (results_cellTmp rfl _ _ ⟨w.heap.size, 0, none⟩ _ rfl (load_ent (heap_new _ _ _))) rfl ?_
    refine ⟨?_, (Below.refl _ _).alloc (Nat.le_refl _) _⟩
    have hbb : (((m : Int) / 256 % 2) == 1) = (m / 256 % 2 == 1) := by
      by_cases hm : m / 256 % 2 = 1
      · have : (m : Int) / 256 % 2 = 1 := by omega
        simp [hm, this]
      · have : (m : Int) / 256 % 2 = 0 := by omega
        have : m / 256 % 2 = 0 := by omega
        simp [*]
    rw [hbb]
    simp
end Go.Proofs.YtbcjkjmjljfhpaaDoor

/- What the program's checksum functions compute. No condition but sizes. -/
namespace Go.Proofs.YtbcjkjmjljfhpaaDoor
open Go.RowKit
set_option linter.unusedVariables false
set_option maxRecDepth 20000

theorem and16 (k : Nat) (h : k ≤ 4611686018427387904) : bits .and .u64 (k : Int) 65535 = ((k % 65536 : Nat) : Int) := by
  rw [show (65535 : Int) = ((65535 : Nat) : Int) from rfl, u64_and_nat k 65535 (by omega) (by omega), nat_mask16]

set_option maxHeartbeats 400000 in
theorem fold_any (n : Int) (w : World) (h0 : 0 ≤ n) (h1 : n ≤ 4611686018427387904) :
    Calls Tryd.prog 72 #[.int .u64 n] w fun e w' => e = .returned (.int .u16 (foldN n.toNat : Nat)) ∧ w = w' := by
  obtain ⟨n, rfl⟩ := Int.eq_ofNat_of_zero_le h0
  simp only [Int.toNat_natCast]
  go_enter Tryd.func72, Tryd.ntmps72
  go_wp2
  go_loop [0] (fun m => ∃ k : Nat, k ≤ 4611686018427387904 ∧ foldN k = foldN n ∧ m = .int .u64 k) (fun m => (intOf m).toNat)
  case atStart => exact ⟨n, by omega, rfl, rfl⟩
  case round =>
    obtain ⟨k, hk, hf, rfl⟩ := hrel
    have HF := Lib.hid hf
    clear hf
    by_cases hlt : 65535 < k
    · go_wp2
      go_round
      case rel =>
        refine ⟨k % 65536 + k / 65536, by omega, by rw [foldN_step k hlt]; exact HF.out, ?_⟩
        rw [and16 k hk, wrap64_id _ (by omega) (by omega)]
        go_num
      case measure => rw [and16 k hk, wrap64_id _ (by omega) (by omega)]; simp only [intOf]; omega
    · have HS := Lib.hid (foldN_small k (by omega))
      go_wp2
      go_ret
      refine ⟨?_, rfl⟩
      rw [← HF.out, HS.out]
      rfl

set_option maxHeartbeats 400000 in
theorem add_any (g : Nat) (n c : Int) (odd : Bool) (w : World) (hB : w.heap[g]? = some (.cells #[.int .u64 n, .bool odd] 128 (0, 0))) (h0 : 0 ≤ n) (h1 : n ≤ 4611686018427387904) (h2 : 0 ≤ c) (h3 : c ≤ 255) :
    Calls Tryd.prog 71 #[.pointer (some ⟨g, 0, none⟩), .int .u8 c] w fun e w' => (∃ v, e = .returned v) ∧ w'.heap[g]? = some (.cells #[.int .u64 (n + if odd then c else c * 256), .bool (!odd)] 128 (0, 0)) ∧ w.grownBy w' (some g) := by
  have c0 : w.cell? ⟨g, 0, none⟩ = some (.int .u64 n) := cell_at hB 0
  have c1 : w.cell? ⟨g, 1, none⟩ = some (.bool odd) := cell_at hB 1
  have f0 := frozen_at hB 0
  have f1 := frozen_at hB 1
  have HB := Lib.hid hB
  clear hB
  cases odd
  all_goals
    go_enter Tryd.func71, Tryd.ntmps71
    go_wp2
    go_end0
    refine ⟨⟨_, rfl⟩, ?_, grown_set (grown_set (grown_refl _ _) 0 _) 1 _⟩
    exact heap_set (heap_set HB.out 0 _) 1 _

set_option maxHeartbeats 1000000 in
theorem raw_any (R : Option Addr) (k c : Nat) (rows : List Bs) (w : World) (h : Row w w.heap.size 1 R k (rows.map Bs.v)) (hr : ∀ r ∈ rows, r.ok w) (hk : k ≤ 1099511627776) (ht : (flat rows).length ≤ 1099511627776) :
    Calls Tryd.prog 67 #[.slice R k c] w fun e w' => e = .returned (.int .u16 (rawN (flat rows) : Nat)) ∧ Below w.heap.size w w' := by
  have hkl : rows.length = k := by have := h.1; simpa using this
  go_enter Tryd.func67, Tryd.ntmps67
  go_wp2_with fail
  go_loopw [15] (fun j wr => ∃ i : Nat, i ≤ k ∧ j = .int .i64 i ∧ wr.heap[w.heap.size]? = some (.cells #[.int .u64 (sumB false (flat (rows.take i)) : Nat), .bool (oddB false (flat (rows.take i)))] 128 (0, 0)) ∧ Below w.heap.size w wr) (fun j _ => k - (intOf j).toNat)
  case atStart => exact ⟨0, Nat.zero_le _, rfl, heap_new w _ _, (Below.refl _ _).alloc (Nat.le_refl _) _⟩
  case round =>
    obtain ⟨i, hi, rfl, hB, hb⟩ := hrel
    by_cases hlt : i < k
    · obtain ⟨r, hri⟩ := get_ex rows (k := i) (by omega)
      have hrok := hr r (List.mem_of_getElem? hri)
      obtain ⟨b, o, rfl, hbB, hcell⟩ := h.2 (by omega)
      have hcr := (hb.cell (p := ⟨b, o + i, none⟩) hbB).trans (hcell i r.v (by simp [hri]))
      unfold Bs.v at hcr
      have hrl := hrok.len
      have hrow := hrok.row
      have hn := flat_take_le rows (i + 1)
      have HS := Lib.hid (take_snoc rows i r hri)
      rw [HS.out, flat_snoc, List.length_append, hrl] at hn
      have HB := Lib.hid hB
      clear hB hcell hri
      generalize hd : flat (rows.take i) = done at HB hn
      have HD := Lib.hid hd
      have HL := Lib.hid hrl
      clear hd hrl hkl
      obtain ⟨rA, rn, rc, rl⟩ := r
      simp only at hcr hrow hn HL HS
      clear hrok
      clear hr
      obtain ⟨wo, rfl⟩ : ∃ wo : World, wo = wr := ⟨_, rfl⟩
      go_wp2_with fail
      go_loopw [21] (fun j ws => ∃ m : Nat, m ≤ rn ∧ j = .int .i64 m ∧ ws.heap[w.heap.size]? = some (.cells #[.int .u64 (sumB false (done ++ rl.take m) : Nat), .bool (oddB false (done ++ rl.take m))] 128 (0, 0)) ∧ Below w.heap.size w ws) (fun j _ => rn - (intOf j).toNat)
      case atStart => exact ⟨0, Nat.zero_le _, rfl, by simpa using HB.out, hb⟩
      case round =>
        obtain ⟨m, hm, rfl, hB2, hb2⟩ := hrel
        by_cases hlt2 : m < rn
        · obtain ⟨b2, o2, rfl, hbB2, hcell2⟩ := hrow.2 (by omega)
          obtain ⟨u, hu⟩ := get_ex rl (k := m) (by have := HL.out; omega)
          have hcu := (hb2.cell (p := ⟨b2, o2 + m, none⟩) hbB2).trans (hcell2 m _ (bv_get rl m u hu))
          have hub := byte_le u
          have hsum := sumB_le false (done ++ rl.take m)
          rw [List.length_append, List.length_take] at hsum
          have HU := Lib.hid (take_snoc rl m u hu)
          clear hu hcell2
          generalize hdd : done ++ rl.take m = dd at hB2 hsum
          have HDD := Lib.hid hdd
          have HB2 := Lib.hid hB2
          clear hdd hB2 hcr hb
          go_wp2_with fail
          refine (add_any _ _ _ _ _ HB2.out (by omega) (by omega) hub.1 hub.2).mono ?_
          rintro e w3 ⟨⟨v, rfl⟩, hB3, hg3⟩
          have hb3 := hb2.trans (grown_below hg3 (Nat.le_of_lt (heap_lt HB2.out)) (Nat.le_refl _))
          have HB3 := Lib.hid hB3
          clear hB3 hg3
          go_wp2_with fail
          go_roundw
          case rel =>
            refine ⟨m + 1, by omega, by go_num, ?_, hb3⟩
            rw [HU.out, ← List.append_assoc, HDD.out, sumB_snoc, oddB_snoc]
            rw [HB3.out]
            cases oddB false dd <;> simp
          case measure => simp [intOf]; omega
        · have : m = rn := by omega
          subst this
          have HB2 := Lib.hid hB2
          clear hB2 hb
          go_wp2_with fail
          go_roundw
          case rel =>
            refine ⟨i + 1, by omega, by go_num, ?_, hb2⟩
            have := HB2.out
            rw [List.take_of_length_le (by have := HL.out; omega)] at this
            rw [HS.out, flat_snoc, HD.out]
            exact this
          case measure => simp [intOf]; omega
    · have : i = k := by omega
      subst this
      have hs := sumB_le false (flat rows)
      rw [List.take_of_length_le (by omega)] at hB
      have c0 : wr.cell? ⟨w.heap.size, 0, none⟩ = some (.int .u64 (sumB false (flat rows) : Nat)) := cell_at hB 0
      clear hB h hr
      go_wp2_with fail
      refine (fold_any _ _ (by omega) (by omega)).mono ?_
      rintro e w3 ⟨rfl, rfl⟩
      go_wp2_with fail
      go_ret
      exact ⟨rfl, hb⟩

theorem nat_compl16 (c : Nat) (h : c < 65536) : 65535 ^^^ c = 65535 - c := by
  have h1 : (BitVec.allOnes 16 ^^^ BitVec.ofNat 16 c).toNat = (~~~ (BitVec.ofNat 16 c)).toNat := by rw [BitVec.allOnes_xor]
  rw [BitVec.toNat_xor, BitVec.toNat_not, BitVec.toNat_allOnes, BitVec.toNat_ofNat, Nat.mod_eq_of_lt h] at h1
  exact h1
theorem compl16 (c : Int) (h0 : 0 ≤ c) (h1 : c ≤ 65535) : bits .xor .u16 IntKind.u16.max c = 65535 - c := by
  obtain ⟨c, rfl⟩ := Int.eq_ofNat_of_zero_le h0
  rw [show IntKind.u16.max = ((65535 : Nat) : Int) from rfl, u16_xor_nat 65535 c (by omega) (by omega), nat_compl16 c (by omega)]
  omega

theorem of_any (R : Option Addr) (k c : Nat) (rows : List Bs) (w : World) (h : Row w w.heap.size 1 R k (rows.map Bs.v)) (hr : ∀ r ∈ rows, r.ok w) (hk : k ≤ 1099511627776) (ht : (flat rows).length ≤ 1099511627776) :
    Calls Tryd.prog 46 #[.slice R k c] w fun e w' => e = .returned (.int .u16 (65535 - rawN (flat rows) : Nat)) ∧ Below w.heap.size w w' := by
  have hf : rawN (flat rows) ≤ 65535 := foldN_le _
  go_enter Tryd.func46, Tryd.ntmps46
  go_wp2_with fail
  refine (raw_any R k c rows _ h hr hk ht).mono ?_
  rintro e w3 ⟨rfl, hb⟩
  have hx := compl16 (rawN (flat rows) : Nat) (by omega) (by omega)
  go_wp2_with fail
  go_ret
  exact ⟨ret_int (by omega), hb⟩

theorem check_any (R : Option Addr) (k c : Nat) (rows : List Bs) (w : World) (h : Row w w.heap.size 1 R k (rows.map Bs.v)) (hr : ∀ r ∈ rows, r.ok w) (hk : k ≤ 1099511627776) (ht : (flat rows).length ≤ 1099511627776) :
    Calls Tryd.prog 50 #[.slice R k c] w fun e w' => e = .returned (.bool (decide (rawN (flat rows) = 65535))) ∧ Below w.heap.size w w' := by
  have hf : rawN (flat rows) ≤ 65535 := foldN_le _
  go_enter Tryd.func50, Tryd.ntmps50
  go_wp2_with fail
  refine (raw_any R k c rows _ h hr hk ht).mono ?_
  rintro e w3 ⟨rfl, hb⟩
  go_wp2_with fail
  go_ret
  refine ⟨ret_bool ?_, hb⟩
  rw [Bool.eq_iff_iff]
  simp
  omega

theorem lit_row (cs : Array Value) (rows : List Bs) (k : Nat) (w : World) (hcs : cs.toList = rows.map Bs.v) (hk : rows.length = k) :
    Row (w.alloc (.cells cs 22)) (w.alloc (.cells cs 22)).heap.size 1 (some ⟨w.heap.size, 0, none⟩) k (rows.map Bs.v) := by
  have hsz : cs.size = k * 1 := by rw [← Array.length_toList, hcs]; simpa using hk
  have hrow := Row.new (e := 22) w cs hsz
  rw [hcs] at hrow
  simpa using hrow
theorem lit_ok (cs : Array Value) (rows : List Bs) (w : World) (hr : ∀ r ∈ rows, r.ok w) : ∀ r ∈ rows, r.ok (w.alloc (.cells cs 22)) := fun r hx => (hr r hx).below ((Below.refl _ _).alloc (Nat.le_refl _) _)
theorem lit_below {w w' : World} {cs : Array Value} {t : TypeId} (h : Below (w.alloc (.cells cs t)).heap.size (w.alloc (.cells cs t)) w') : Below w.heap.size w w' :=
  ((Below.refl w.heap.size w).alloc (Nat.le_refl _) _).trans (h.mono (by simp))

theorem raw_lit (cs : Array Value) (rows : List Bs) (k k' : Nat) (w : World) (hcs : cs.toList = rows.map Bs.v) (hk : rows.length = k) (hk2 : k ≤ 1099511627776) (hr : ∀ r ∈ rows, r.ok w) (ht : (flat rows).length ≤ 1099511627776) (g : Nat) (hg : w.heap.size = g) :
    Calls Tryd.prog 67 #[.slice (some ⟨g, 0, none⟩) k k'] (w.alloc (.cells cs 22)) fun e w' => e = .returned (.int .u16 (rawN (flat rows) : Nat)) ∧ Below w.heap.size w w' :=
  hg ▸ (raw_any _ k k' rows _ (lit_row cs rows k w hcs hk) (lit_ok cs rows w hr) hk2 ht).mono fun e w' ⟨he, hb⟩ => ⟨he, lit_below hb⟩

theorem of_lit (cs : Array Value) (rows : List Bs) (k k' : Nat) (w : World) (hcs : cs.toList = rows.map Bs.v) (hk : rows.length = k) (hk2 : k ≤ 1099511627776) (hr : ∀ r ∈ rows, r.ok w) (ht : (flat rows).length ≤ 1099511627776) (g : Nat) (hg : w.heap.size = g) :
    Calls Tryd.prog 46 #[.slice (some ⟨g, 0, none⟩) k k'] (w.alloc (.cells cs 22)) fun e w' => e = .returned (.int .u16 (65535 - rawN (flat rows) : Nat)) ∧ Below w.heap.size w w' :=
  hg ▸ (of_any _ k k' rows _ (lit_row cs rows k w hcs hk) (lit_ok cs rows w hr) hk2 ht).mono fun e w' ⟨he, hb⟩ => ⟨he, lit_below hb⟩

theorem check_lit (cs : Array Value) (rows : List Bs) (k k' : Nat) (w : World) (hcs : cs.toList = rows.map Bs.v) (hk : rows.length = k) (hk2 : k ≤ 1099511627776) (hr : ∀ r ∈ rows, r.ok w) (ht : (flat rows).length ≤ 1099511627776) (g : Nat) (hg : w.heap.size = g) :
    Calls Tryd.prog 50 #[.slice (some ⟨g, 0, none⟩) k k'] (w.alloc (.cells cs 22)) fun e w' => e = .returned (.bool (decide (rawN (flat rows) = 65535))) ∧ Below w.heap.size w w' :=
  hg ▸ (check_any _ k k' rows _ (lit_row cs rows k w hcs hk) (lit_ok cs rows w hr) hk2 ht).mono fun e w' ⟨he, hb⟩ => ⟨he, lit_below hb⟩

end Go.Proofs.YtbcjkjmjljfhpaaDoor

/- What stands ahead of a message in the sum: sum.Pseudo. No condition but sizes. -/
namespace Go.Proofs.YtbcjkjmjljfhpaaDoor
open Go.RowKit
set_option linter.unusedVariables false
set_option maxRecDepth 20000

theorem put_mid {α : Type} (X Y Z T : List α) (a b : Nat) (ha : X.length = a) (hb : a + Y.length = b) : (X ++ Y ++ Z).take a ++ T ++ (X ++ Y ++ Z).drop b = X ++ T ++ Z := by
  subst ha
  subst hb
  simp [List.append_assoc]
def pseudoF (src dst : List UInt8) (p : Nat) (size : Int) : List UInt8 :=
  if size < 0 then [] else
  if src.length = 4 ∧ dst.length = 4 ∧ size ≤ 65535 then src ++ dst ++ [0, UInt8.ofNat p] ++ toBe 2 size.toNat else
  if src.length = 16 ∧ dst.length = 16 ∧ size ≤ 4294967295 then src ++ dst ++ toBe 4 size.toNat ++ [0, 0, 0, UInt8.ofNat p] else []

theorem lit_below' {w w1 w3 : World} {A : Option Addr} {n c : Nat} {e t : TypeId} {xs : List Value} {cs : Array Value} (hb : Below w.heap.size w w1) (hg : (w1.alloc (.cells cs t)).grownBy w3 (blk A c)) (ho : Own w1 w.heap.size e 1 A n c xs) : Below w.heap.size w1 w3 :=
  ((Below.refl _ _).alloc hb.size _).grown hg (by have := hb.size; simp; omega) (fun g hg => (ho.lt g hg).1)

set_option maxHeartbeats 1000000 in
theorem pseudo_any (A A2 : Option Addr) (n c m c2 : Nat) (l l2 : List UInt8) (p size : Int) (w : World) (h1 : (Bs.mk A n c l).ok w) (h2 : (Bs.mk A2 m c2 l2).ok w) (hn : n ≤ 65536) (hm : m ≤ 65536) (hp0 : 0 ≤ p) (hp1 : p ≤ 255)
    (hs0 : -9223372036854775808 ≤ size) (hs1 : size ≤ 9223372036854775807) :
    Calls Tryd.prog 47 #[.slice A n c, .slice A2 m c2, .int .u8 p, .int .i64 size] w fun e w' => ∃ r : Bs, e = .returned r.v ∧ r.ok w' ∧ r.l = pseudoF l l2 p.toNat size ∧ Below w.heap.size w w' := by
  have hl := h1.len
  have hl2 := h2.len
  simp only at hl hl2
  have hfl : (flat [Bs.mk A n c l, Bs.mk A2 m c2 l2]).length = n + m := by simp [flat, hl, hl2]
  have hcat := concat_lit #[.slice A n c, .slice A2 m c2] [⟨A, n, c, l⟩, ⟨A2, m, c2, l2⟩] 2 2 w rfl rfl (by omega) (by simp only [List.mem_cons, List.not_mem_nil, or_false]; rintro r (rfl | rfl) <;> assumption) (by omega) _ rfl
  rw [hfl] at hcat
  have HC := Lib.hid hcat
  clear hcat
  by_cases hneg : size < 0
  · go_enter Tryd.func47, Tryd.ntmps47
    go_wp2_with fail
    refine HC.out.mono ?_
    rintro e w1 ⟨A', c', rfl, hown, hb⟩
    go_wp2_with fail
    go_ret
    exact ⟨⟨none, 0, 0, []⟩, rfl, ⟨Row.nil _ _ _ _, Nat.le_refl _, Nat.zero_le _⟩, by simp [pseudoF, hneg], hb⟩
  by_cases h4 : n = 4 ∧ m = 4 ∧ size ≤ 65535
  · obtain ⟨rfl, rfl, hs⟩ := h4
    go_enter Tryd.func47, Tryd.ntmps47
    go_wp2_with fail
    refine HC.out.mono ?_
    rintro e w1 ⟨A', c', rfl, hown, hb⟩
    have HO := Lib.hid hown
    clear hown
    go_wp2_with (at_builtin; refine wpList_append_Own _ rfl _ _ 22 rfl w.heap.size 5 _ 1 1 Tryd.underlying22 infoByte rfl (by decide) _ _ _ _ rfl (HO.out.alloc _) _ _ _ _ (bv [0, UInt8.ofNat p.toNat, 0, 0]) rfl (row_lit w1 _ _ 4 (by simp [bv]; omega) rfl) (bv_one _) (by simp only [maxLen]; omega) (by omega) (by have := hb.size; simp; omega) ?_; intro A3 c3 w3 hown3 hg3 _)
    rw [← bv_append] at hown3
    have hb3 := hb.trans (lit_below' hb hg3 HO.out)
    have hw := wrap64_id size (by omega) (by omega)
    go_wp2_with fail
    refine (put_yes _ _ _ _ _ _ _ _ hown3.row hown3.le hown3.cap (by omega) (by omega) (by omega) (by omega) (by omega) (by omega) (by simp; omega)).mono ?_
    rintro e w4 ⟨A4, c4, rfl, hown4, hb4⟩
    go_wp2_with fail
    go_ret
    refine ⟨⟨A4, 12, c4, _⟩, rfl, hown4.ok, ?_, hb3.trans (hb4.mono hb3.size)⟩
    simp only [pseudoF, if_neg (show ¬ size < 0 by omega), hl, hl2, hs]
    have hf : flat [⟨A, 4, c, l⟩, ⟨A2, 4, c2, l2⟩] = l ++ l2 := by simp [flat]
    rw [hf]
    have := put_mid (l ++ l2 ++ [0, UInt8.ofNat p.toNat]) [0, 0] [] (toBe 2 size.toNat) 10 12 (by simp [hl, hl2]) (by simp)
    simpa using this
  by_cases h16 : n = 16 ∧ m = 16 ∧ size ≤ 4294967295
  · obtain ⟨rfl, rfl, hs⟩ := h16
    clear h4
    go_enter Tryd.func47, Tryd.ntmps47
    go_wp2_with fail
    refine HC.out.mono ?_
    rintro e w1 ⟨A', c', rfl, hown, hb⟩
    have HO := Lib.hid hown
    clear hown
    go_wp2_with (at_builtin; refine wpList_append_Own _ rfl _ _ 22 rfl w.heap.size 5 _ 1 1 Tryd.underlying22 infoByte rfl (by decide) _ _ _ _ rfl (HO.out.alloc _) _ _ _ _ (bv [0, 0, 0, 0, 0, 0, 0, UInt8.ofNat p.toNat]) rfl (row_lit w1 _ _ 8 (by simp [bv]; omega) rfl) (bv_one _) (by simp only [maxLen]; omega) (by omega) (by have := hb.size; simp; omega) ?_; intro A3 c3 w3 hown3 hg3 _)
    rw [← bv_append] at hown3
    have hb3 := hb.trans (lit_below' hb hg3 HO.out)
    have hw := wrap64_id size (by omega) (by omega)
    go_wp2_with fail
    refine (put_yes _ _ _ _ _ _ _ _ hown3.row hown3.le hown3.cap (by omega) (by omega) (by omega) (by omega) (by omega) (by omega) (by simp; omega)).mono ?_
    rintro e w4 ⟨A4, c4, rfl, hown4, hb4⟩
    go_wp2_with fail
    go_ret
    refine ⟨⟨A4, 40, c4, _⟩, rfl, hown4.ok, ?_, hb3.trans (hb4.mono hb3.size)⟩
    simp only [pseudoF, if_neg (show ¬ size < 0 by omega), hl, hl2, hs]
    have hf : flat [⟨A, 16, c, l⟩, ⟨A2, 16, c2, l2⟩] = l ++ l2 := by simp [flat]
    rw [hf]
    have := put_mid (l ++ l2) [0, 0, 0, 0] [0, 0, 0, UInt8.ofNat p.toNat] (toBe 4 size.toNat) 32 36 (by simp [hl, hl2]) (by simp)
    simpa using this
  · have hz : pseudoF l l2 p.toNat size = [] := by
      unfold pseudoF
      rw [if_neg hneg, hl, hl2, if_neg h4, if_neg h16]
    rw [hz]
    have HZ := Lib.hid (And.intro h4 h16)
    have key : (((n : Int) == 4) = false ∨ (((n : Int) == 4) = true ∧ ((m : Int) == 4) = false) ∨ (((n : Int) == 4) = true ∧ ((m : Int) == 4) = true ∧ 65535 < size)) ∧ (((n : Int) == 16) = false ∨ (((n : Int) == 16) = true ∧ ((m : Int) == 16) = false) ∨ (((n : Int) == 16) = true ∧ ((m : Int) == 16) = true ∧ 4294967295 < size)) := by
      simp only [beq_iff_eq, beq_eq_false_iff_ne]
      omega
    clear h4 h16
    rcases key with ⟨a1 | ⟨a1, a2⟩ | ⟨a1, a2, a3⟩, b1 | ⟨b1, b2⟩ | ⟨b1, b2, b3⟩⟩
    all_goals first
      | (exfalso; simp at a1 b1; omega)
      | skip
    all_goals
      go_enter Tryd.func47, Tryd.ntmps47
      go_wp2_with fail
      refine HC.out.mono ?_
      rintro e w1 ⟨A', c', rfl, hown, hb⟩
      go_wp2_with fail
      go_ret
      exact ⟨⟨none, 0, 0, []⟩, rfl, ⟨Row.nil _ _ _ _, Nat.le_refl _, Nat.zero_le _⟩, rfl, hb⟩
end Go.Proofs.YtbcjkjmjljfhpaaDoor


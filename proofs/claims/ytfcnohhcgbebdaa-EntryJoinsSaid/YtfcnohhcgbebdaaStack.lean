/- What entry.Stack and the reference's compute. No condition but sizes. -/
import Derived.Test.YtfcnohhcgbebdaaEntry
namespace Go.Proofs.Ytfcnohhcgbebdaa
open Go.RowKit
set_option linter.unusedVariables false

/-- the k-th entry of bytes -/
def entAt (l : List UInt8) (k : Nat) : Ent := unpE (l.drop (4 * k))
def outs (l : List UInt8) (k : Nat) : List Ent := (List.range k).map (entAt l)
theorem outs_succ (l : List UInt8) (k : Nat) : outs l (k + 1) = outs l k ++ [entAt l k] := by simp [outs, List.range_succ]
theorem outs_length (l : List UInt8) (k : Nat) : (outs l k).length = k := by simp [outs]
/-- a stack: its entries, how many bytes, its error -/
def stackF (l : List UInt8) : Nat → Nat → List Ent × Nat × Int
  | 0, _ => ([], 0, 11)
  | f + 1, k => if (l.drop (4 * k)).length < 4 then ([], 0, 10) else if (entAt l k).bot then (outs l (k + 1), 4 * (k + 1), 0) else stackF l f (k + 1)
theorem unpE_fit (l : List UInt8) : (unpE l).fit := by
  unfold unpE
  split
  · exact ⟨by simp, by simp, by simp, by simp, by simp, by simp⟩
  · have h1 := be_lt (l.take 4)
    have h2 : be (l.take 4) < 4294967296 := by
      rw [List.length_take, show min 4 l.length = 4 by omega] at h1
      exact h1
    generalize be (l.take 4) = m at h2
    constructor <;> simp only <;> omega

theorem str_drop (l : List UInt8) (i : Nat) : Value.string ((ByteArray.mk l.toArray).extract i l.length) = str (l.drop i) := by
  unfold str
  congr 1
  apply ByteArray.ext
  simp
  rw [List.take_of_length_le (by rw [List.length_drop]; omega)]
theorem str_none (l : List UInt8) (i : Nat) (h : l.length < i) : Value.string ByteArray.empty = str (l.drop i) := by
  rw [List.drop_of_length_le (by omega)]
  rfl

set_option maxHeartbeats 1000000 in
theorem rstack_any (l : List UInt8) (w : World) (hn : l.length ≤ 1099511627776) :
    Calls Try.prog 14 #[str l] w fun e w' => ∃ A c, e = .returned (.tuple #[.slice A (stackF l 16 0).1.length c, .int .i64 (stackF l 16 0).2.1, .int .i64 (stackF l 16 0).2.2]) ∧ Own w' w.heap.size 23 4 A (stackF l 16 0).1.length c (evs (stackF l 16 0).1) ∧ Below w.heap.size w w' := by
  go_enter Try.func14, Try.ntmps14
  go_wp2_with fail
  go_loopw [5, 6] (fun o i wr => ∃ (k : Nat) (A2 : Option Addr) (c2 : Nat), k ≤ 16 ∧ o = .slice A2 k c2 ∧ i = .int .i64 (k : Nat) ∧ stackF l 16 0 = stackF l (16 - k) k ∧ Own wr w.heap.size 23 4 A2 k c2 (evs (outs l k)) ∧ Below w.heap.size w wr) (fun _ i _ => 16 - (intOf i).toNat)
  case atStart => exact ⟨0, none, 0, by omega, rfl, rfl, rfl, Own.nil _ _ _ _ _, Below.refl _ _⟩
  case round =>
    obtain ⟨k, A2, c2, hk, rfl, rfl, hst, hown, hb⟩ := hrel
    have HO := Lib.hid hown
    have HS := Lib.hid hst
    clear hown hst
    by_cases hlt : k < 16
    · have key : ∃ s : Value, s = str (l.drop (4 * k)) ∧ ((l.length < 4 * k ∧ s = .string ByteArray.empty) ∨ (4 * k ≤ l.length ∧ s = .string ((ByteArray.mk l.toArray).extract (4 * (k : Int)).toNat l.length))) := by
        rcases Nat.lt_or_ge l.length (4 * k) with h | h
        · exact ⟨_, str_none l _ h, .inl ⟨h, rfl⟩⟩
        · exact ⟨_, by rw [show (4 * (k : Int)).toNat = 4 * k by omega]; exact str_drop l _, .inr ⟨h, rfl⟩⟩
      have hsucc : stackF l (16 - k) k = if (l.drop (4 * k)).length < 4 then ([], 0, 10) else if (entAt l k).bot then (outs l (k + 1), 4 * (k + 1), 0) else stackF l (16 - (k + 1)) (k + 1) := by
        rw [show 16 - k = (16 - (k + 1)) + 1 by omega]
        rfl
      rw [hsucc] at HS
      clear hsucc
      have U := fun w => runpack_any (l.drop (4 * k)) w (by rw [List.length_drop]; omega)
      have hfit := unpE_fit (l.drop (4 * k))
      have hE : entAt l k = unpE (l.drop (4 * k)) := rfl
      have hO := outs_succ l k
      rw [hE] at HS hO
      have hN : unpN (l.drop (4 * k)) = if (l.drop (4 * k)).length < 4 then 10 else 0 := rfl
      obtain ⟨s, hs1, hs2⟩ := key
      rw [← hs1] at U
      generalize unpE (l.drop (4 * k)) = x at *
      clear hE hs1
      by_cases hsh : (l.drop (4 * k)).length < 4
      · rw [if_pos hsh] at HS hN
        rw [hN] at U
        have HU := Lib.hid U
        clear U hN hO hfit hsh
        rcases hs2 with ⟨h, rfl⟩ | ⟨h, rfl⟩
        · have hI : (l.length : Int) < 4 * (k : Int) := by omega
          go_wp2_with fail
          refine (HU.out _).mono ?_
          rintro e w1 ⟨rfl, hb1⟩
          have hB1 := hb.trans (hb1.mono hb.size)
          go_wp2_with fail
          go_ret3
          rw [HS.out]
          exact ⟨none, 0, rfl, Own.nil _ _ _ _ _, hB1.alloc hB1.size _⟩
        · have hI : 4 * (k : Int) ≤ (l.length : Int) := by omega
          go_wp2_with fail
          refine (HU.out _).mono ?_
          rintro e w1 ⟨rfl, hb1⟩
          have hB1 := hb.trans (hb1.mono hb.size)
          go_wp2_with fail
          go_ret3
          rw [HS.out]
          exact ⟨none, 0, rfl, Own.nil _ _ _ _ _, hB1.alloc hB1.size _⟩
      · rw [if_neg hsh] at HS hN
        rw [hN] at U
        have HU := Lib.hid U
        rw [List.length_drop] at hsh
        have hI : 4 * (k : Int) ≤ (l.length : Int) := by omega
        rcases hs2 with ⟨h, rfl⟩ | ⟨h, rfl⟩
        · omega
        have HOO := Lib.hid hO
        obtain ⟨xl, xc, xb, xt⟩ := x
        obtain ⟨f0, f1, f2, f3, f4, f5⟩ := hfit
        simp only at f0 f1 f2 f3 f4 f5 HU HS
        clear U hN hO hsh
        cases xb
        · go_wp2_with fail
          refine (HU.out _).mono ?_
          rintro e w1 ⟨rfl, hb1⟩
          have hB1 := hb.trans (hb1.mono hb.size)
          have HO1 := Lib.hid ((HO.out).below hb1)
          have hrow : Row ((w1.alloc (.cells #[.int .i64 xl, .int .u8 xc, .bool false, .int .u8 xt] 23)).alloc (.cells #[.int .i64 xl, .int .u8 xc, .bool false, .int .u8 xt] 23)) (w1.heap.size + 1 + 1) 4 (some ⟨w1.heap.size + 1, 0, none⟩) 1 (Ent.cells ⟨xl, xc, false, xt⟩) := by
            have := Row.new (n := 1) (sz := 4) (e := 23) (w1.alloc (.cells #[.int .i64 xl, .int .u8 xc, .bool false, .int .u8 xt] 23)) #[.int .i64 xl, .int .u8 xc, .bool false, .int .u8 xt] rfl
            rw [World.size_alloc] at this
            exact this
          have HR := Lib.hid hrow
          clear hrow
          go_wp2_with (at_builtin; refine wpList_append_Own _ rfl _ _ 34 rfl w.heap.size 23 _ 4 16 Try.underlying34 infoEntry rfl (by decide) _ _ _ _ rfl ((HO1.out.alloc _).alloc _) _ _ _ _ (Ent.cells ⟨xl, xc, false, xt⟩) rfl HR.out (by simp [Ent.cells, Value.oneCell']) (by simp only [maxLen]; omega) (by omega) (by have := hB1.size; simp; omega) ?_; intro A3 c3 w3 hown3 hg3 _; have hbox : w3.heap[w1.heap.size]? = some (.cells #[.int .i64 xl, .int .u8 xc, .bool false, .int .u8 xt] 23 (0, 0)) := (hg3.block w1.heap.size (by simp; omega) (fun e => absurd (HO1.out.lt _ e.symm).2 (by omega))).trans ((heap_alloc_old _ _ (by simp)).trans (heap_new _ _ _)); have hcb : w3.cell? ⟨w1.heap.size, 2, none⟩ = some (.bool false) := cell_at hbox 2; have HBX := Lib.hid hbox; clear hbox)
          have hB3 : Below w.heap.size w w3 := ((hB1.alloc hB1.size _).alloc (by have := hB1.size; simp; omega) _).grown hg3 (by have := hB1.size; simp; omega) (fun g hg => (HO1.out.lt g hg).1)
          go_roundw
          case rel =>
            refine ⟨k + 1, A3, c3, by omega, rfl, by simp, by rw [HS.out]; rfl, ?_, hB3⟩
            rw [HOO.out, evs_append]
            have e1 : evs [(⟨xl, xc, false, xt⟩ : Ent)] = Ent.cells ⟨xl, xc, false, xt⟩ := by simp [evs]
            rw [e1]
            exact hown3
          case measure => simp [intOf]; omega
        · go_wp2_with fail
          refine (HU.out _).mono ?_
          rintro e w1 ⟨rfl, hb1⟩
          have hB1 := hb.trans (hb1.mono hb.size)
          have HO1 := Lib.hid ((HO.out).below hb1)
          have hrow : Row ((w1.alloc (.cells #[.int .i64 xl, .int .u8 xc, .bool true, .int .u8 xt] 23)).alloc (.cells #[.int .i64 xl, .int .u8 xc, .bool true, .int .u8 xt] 23)) (w1.heap.size + 1 + 1) 4 (some ⟨w1.heap.size + 1, 0, none⟩) 1 (Ent.cells ⟨xl, xc, true, xt⟩) := by
            have := Row.new (n := 1) (sz := 4) (e := 23) (w1.alloc (.cells #[.int .i64 xl, .int .u8 xc, .bool true, .int .u8 xt] 23)) #[.int .i64 xl, .int .u8 xc, .bool true, .int .u8 xt] rfl
            rw [World.size_alloc] at this
            exact this
          have HR := Lib.hid hrow
          clear hrow
          go_wp2_with (at_builtin; refine wpList_append_Own _ rfl _ _ 34 rfl w.heap.size 23 _ 4 16 Try.underlying34 infoEntry rfl (by decide) _ _ _ _ rfl ((HO1.out.alloc _).alloc _) _ _ _ _ (Ent.cells ⟨xl, xc, true, xt⟩) rfl HR.out (by simp [Ent.cells, Value.oneCell']) (by simp only [maxLen]; omega) (by omega) (by have := hB1.size; simp; omega) ?_; intro A3 c3 w3 hown3 hg3 _; have hbox : w3.heap[w1.heap.size]? = some (.cells #[.int .i64 xl, .int .u8 xc, .bool true, .int .u8 xt] 23 (0, 0)) := (hg3.block w1.heap.size (by simp; omega) (fun e => absurd (HO1.out.lt _ e.symm).2 (by omega))).trans ((heap_alloc_old _ _ (by simp)).trans (heap_new _ _ _)); have hcb : w3.cell? ⟨w1.heap.size, 2, none⟩ = some (.bool true) := cell_at hbox 2; have HBX := Lib.hid hbox; clear hbox)
          have hB3 : Below w.heap.size w w3 := ((hB1.alloc hB1.size _).alloc (by have := hB1.size; simp; omega) _).grown hg3 (by have := hB1.size; simp; omega) (fun g hg => (HO1.out.lt g hg).1)
          go_ret3
          have hst : stackF l 16 0 = (outs l (k + 1), 4 * (k + 1), 0) := HS.out.trans (if_pos (by trivial))
          have hl2 : (stackF l 16 0).1.length = k + 1 := by rw [hst]; exact outs_length _ _
          have hn2 : (((stackF l 16 0).2.1 : Nat) : Int) = 4 * ((k : Int) + 1) := by rw [hst]; simp
          have hs1 : (stackF l 16 0).1 = outs l (k + 1) := by rw [hst]
          have hs2 : (stackF l 16 0).2.2 = 0 := by rw [hst]
          rw [hl2, hn2, hs1, hs2]
          refine ⟨A3, c3, rfl, ?_, hB3⟩
          rw [HOO.out, evs_append]
          have e1 : evs [(⟨xl, xc, true, xt⟩ : Ent)] = Ent.cells ⟨xl, xc, true, xt⟩ := by simp [evs]
          rw [e1]
          exact hown3
    · obtain rfl : k = 16 := by omega
      go_wp2_with fail
      go_ret3
      rw [HS.out]
      exact ⟨none, 0, rfl, Own.nil _ _ _ _ _, hb⟩
end Go.Proofs.Ytfcnohhcgbebdaa

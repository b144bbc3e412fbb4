/- Texts of this claim put together, in build order: each one's own remark stands ahead of it. -/
import Derived.Test.YtbcjkjmjljfhpaaDoorG23
import Derived.Test.YtbcjkjmjljfhpaaDoorG01
import Derived.Test.YtbcjkjmjljfhpaaDoorG07
import Derived.Test.YtbcjkjmjljfhpaaDoorG20
/- What the reference's kind and Is (layer 24) compute. No condition but sizes. -/
namespace Go.Proofs.YtbcjkjmjljfhpaaDoor
open Go.RowKit
set_option linter.unusedVariables false
set_option maxRecDepth 20000
set_option linter.unusedSimpArgs false

set_option maxHeartbeats 4000000 in
theorem rkind24_any (u : Nat) (w : World) (hu : u ≤ 255) : Calls Tryd.prog 36 #[.int .u8 (u : Int)] w fun e w' => e = .returned (.int .i64 (kindF u)) ∧ Below w.heap.size w w' := by
  by_cases h3 : u = 3
  · subst h3
    go_enter Tryd.func36, Tryd.ntmps36
    go_wp2
    go_ret
    exact ⟨rfl, Below.refl _ _⟩
  · by_cases h2 : u = 2
    · subst h2
      go_enter Tryd.func36, Tryd.ntmps36
      go_wp2
      go_ret
      exact ⟨rfl, Below.refl _ _⟩
    · by_cases h1 : u = 1
      · subst h1
        go_enter Tryd.func36, Tryd.ntmps36
        go_wp2
        go_ret
        exact ⟨rfl, Below.refl _ _⟩
      · have b3 : ((u : Int) == 3) = false := by simp; omega
        have b2 : ((u : Int) == 2) = false := by simp; omega
        have b1 : ((u : Int) == 1) = false := by simp; omega
        have HF := Lib.hid (show kindF u = -1 by unfold kindF; rw [if_neg h3, if_neg h2, if_neg h1])
        clear h1 h2 h3
        go_enter Tryd.func36, Tryd.ntmps36
        go_wp2
        go_ret
        exact ⟨by rw [HF.out]; rfl, Below.refl _ _⟩
end Go.Proofs.YtbcjkjmjljfhpaaDoor

/- What the reference's Is (layer 24) computes (c25's text Perm2, in part). No condition but sizes. -/
namespace Go.Proofs.YtbcjkjmjljfhpaaDoor
open Go.RowKit
set_option linter.unusedVariables false
set_option maxRecDepth 20000
set_option linter.unusedSimpArgs false

theorem exec_neE {w : World} {o : Oper} {c : Act} (x : Operand) (ty : TypeId) (r : List UInt8) (b : Bool) (hb : r.isEmpty = b) (ho : o.op = .binOp .neq 9 x (.const (str [])) ty) (hx : c.eval x = str r) : (execOp c.eval o).run Tryd.prog w = .ok (.value (.bool (!b))) w := by
  subst hb
  unfold execOp
  simp only [ho, hx]
  cases r with
  | nil => go_simp
  | cons u r => go_simp
def headIs (f : Int → Bool) : List UInt8 → Bool
  | [] => false
  | u :: _ => f (u.toNat : Int)
def is6F (l : List UInt8) : Bool := (par6 l).2 == 0 && ((par6 l).1.next == 58 && headIs (fun x => decide (x < 128)) (body6 l))
set_option maxHeartbeats 4000000 in
theorem ris6_any (l : List UInt8) (w : World) (hn : l.length ≤ 1099511627776) :
    Calls Tryd.prog 15 #[str l] w fun e w' => e = .returned (.bool (is6F l)) ∧ Below w.heap.size w w' := by
  have P := rparse6_any l w hn
  have Q := fun W => rbody6_any l W hn
  have hok := par6_ok l
  have hd : is6F l = is6F l := rfl
  conv at hd => rhs; unfold is6F
  cases hp : par6 l with
  | mk h0 er =>
  rw [hp] at P hok hd
  simp only at P hok hd
  obtain ⟨p, hpp⟩ : ∃ p, h0.next = p := ⟨_, rfl⟩
  rw [hpp] at hd
  obtain ⟨bd, hbd⟩ : ∃ bd, body6 l = bd := ⟨_, rfl⟩
  rw [hbd] at hd
  simp only [hbd] at Q
  have HP := Lib.hid P
  have HQ := Lib.hid Q
  have HOK := Lib.hid hok
  have HE := Lib.hid hpp
  have HD := Lib.hid hd
  clear P Q hok hpp hd hp hbd
  by_cases hA : er = 0
  · subst hA
    by_cases hB : p = 58
    · subst hB
      cases bd with
      | nil =>
        have HN : Hid (([] : List UInt8).isEmpty = true) := Lib.hid rfl
        go_enter Tryd.func15, Tryd.ntmps15
        go_wp2_with fail
        refine HP.out.mono ?_
        rintro e w1 ⟨rfl, hB1⟩
        go_wp2_with (first
          | (refine wpList_alloc_blk rfl 58 rfl H6.zero.cells zero6 ?_; intro w2 hbw2 hBw2 hsw2)
          | (refine wpList_store_all rfl 58 _ _ rfl w1.heap.size h0.cells rfl rfl 58 _ hbw2 (size6 _ HOK.out) (H6.cells_same _ _ HOK.out H6.zero_ok) (H6.one _) ?_; intro w3 hbw3 hgw3 hsw3; have hBw3 : Below w1.heap.size w1 w3 := bgrown hBw2 hgw3 (by omega) (by omega)); have c3 : w3.cell? ⟨w1.heap.size, 3, none⟩ = some (.int .u8 58) := (hbw3.cell 3).trans (by show some (Value.int .u8 h0.next) = _; rw [HE.out]))
        refine (HQ.out w3).mono ?_
        rintro e w4 ⟨rfl, hB4⟩
        have HW := Lib.hid (bthen (bthen hB1 hBw3) hB4)
        have hbw4 := hbw3.on hB4
        clear c3 hbw3
        have c3 : w4.cell? ⟨w1.heap.size, 3, none⟩ = some (.int .u8 58) := (hbw4.cell 3).trans (by show some (Value.int .u8 h0.next) = _; rw [HE.out])
        go_wp2_with (first
          | (refine wpList_value (by rfl) (exec_neE _ _ bd _ HN.out rfl rfl) ?_))
        go_ret
        exact ⟨by rw [HD.out]; simp [headIs], HW.out⟩
      | cons u bd =>
        have HN : Hid ((u :: bd).isEmpty = false) := Lib.hid rfl
        have hg := ba_get (u :: bd) 0 u rfl
        have hlb : 0 < (u :: bd).length := by simp
        go_enter Tryd.func15, Tryd.ntmps15
        go_wp2_with fail
        refine HP.out.mono ?_
        rintro e w1 ⟨rfl, hB1⟩
        go_wp2_with (first
          | (refine wpList_alloc_blk rfl 58 rfl H6.zero.cells zero6 ?_; intro w2 hbw2 hBw2 hsw2)
          | (refine wpList_store_all rfl 58 _ _ rfl w1.heap.size h0.cells rfl rfl 58 _ hbw2 (size6 _ HOK.out) (H6.cells_same _ _ HOK.out H6.zero_ok) (H6.one _) ?_; intro w3 hbw3 hgw3 hsw3; have hBw3 : Below w1.heap.size w1 w3 := bgrown hBw2 hgw3 (by omega) (by omega)); have c3 : w3.cell? ⟨w1.heap.size, 3, none⟩ = some (.int .u8 58) := (hbw3.cell 3).trans (by show some (Value.int .u8 h0.next) = _; rw [HE.out]))
        refine (HQ.out w3).mono ?_
        rintro e w4 ⟨rfl, hB4⟩
        have HW := Lib.hid (bthen (bthen hB1 hBw3) hB4)
        have hbw4 := hbw3.on hB4
        clear c3 hbw3
        have c3 : w4.cell? ⟨w1.heap.size, 3, none⟩ = some (.int .u8 58) := (hbw4.cell 3).trans (by show some (Value.int .u8 h0.next) = _; rw [HE.out])
        go_wp2_with (first
          | (refine wpList_value (by rfl) (exec_neE _ _ bd _ HN.out rfl rfl) ?_))
        go_ret
        exact ⟨by rw [HD.out]; simp [headIs], HW.out⟩
    · have hB1' : (p == 58) = false := by simpa using hB
      have hB2' : (p != 58) = true := by simpa [bne] using hB
      go_enter Tryd.func15, Tryd.ntmps15
      go_wp2_with fail
      refine HP.out.mono ?_
      rintro e w1 ⟨rfl, hB1⟩
      go_wp2_with (first
        | (refine wpList_alloc_blk rfl 58 rfl H6.zero.cells zero6 ?_; intro w2 hbw2 hBw2 hsw2)
        | (refine wpList_store_all rfl 58 _ _ rfl w1.heap.size h0.cells rfl rfl 58 _ hbw2 (size6 _ HOK.out) (H6.cells_same _ _ HOK.out H6.zero_ok) (H6.one _) ?_; intro w3 hbw3 hgw3 hsw3; have hBw3 : Below w1.heap.size w1 w3 := bgrown hBw2 hgw3 (by omega) (by omega)); have c3 : w3.cell? ⟨w1.heap.size, 3, none⟩ = some (.int .u8 p) := (hbw3.cell 3).trans (by show some (Value.int .u8 h0.next) = _; rw [HE.out]))
      refine (HQ.out w3).mono ?_
      rintro e w4 ⟨rfl, hB4⟩
      have HW := Lib.hid (bthen (bthen hB1 hBw3) hB4)
      have hbw4 := hbw3.on hB4
      clear c3 hbw3
      have c3 : w4.cell? ⟨w1.heap.size, 3, none⟩ = some (.int .u8 p) := (hbw4.cell 3).trans (by show some (Value.int .u8 h0.next) = _; rw [HE.out])
      go_wp2_with (first
        | (refine wpList_value (by rfl) (exec_neE _ _ bd _ rfl rfl rfl) ?_))
      go_ret
      exact ⟨by rw [HD.out]; simp [hB1'], HW.out⟩
  · have hA1 : (er == 0) = false := by simpa using hA
    have hA2 : (er != 0) = true := by simpa [bne] using hA
    go_enter Tryd.func15, Tryd.ntmps15
    go_wp2_with fail
    refine HP.out.mono ?_
    rintro e w1 ⟨rfl, hB1⟩
    go_wp2_with (first
      | (refine wpList_alloc_blk rfl 58 rfl H6.zero.cells zero6 ?_; intro w2 hbw2 hBw2 hsw2)
      | (refine wpList_store_all rfl 58 _ _ rfl w1.heap.size h0.cells rfl rfl 58 _ hbw2 (size6 _ HOK.out) (H6.cells_same _ _ HOK.out H6.zero_ok) (H6.one _) ?_; intro w3 hbw3 hgw3 hsw3; have hBw3 : Below w1.heap.size w1 w3 := bgrown hBw2 hgw3 (by omega) (by omega)); have c3 : w3.cell? ⟨w1.heap.size, 3, none⟩ = some (.int .u8 p) := (hbw3.cell 3).trans (by show some (Value.int .u8 h0.next) = _; rw [HE.out]))
    refine (HQ.out w3).mono ?_
    rintro e w4 ⟨rfl, hB4⟩
    have HW := Lib.hid (bthen (bthen hB1 hBw3) hB4)
    have hbw4 := hbw3.on hB4
    clear c3 hbw3
    have c3 : w4.cell? ⟨w1.heap.size, 3, none⟩ = some (.int .u8 p) := (hbw4.cell 3).trans (by show some (Value.int .u8 h0.next) = _; rw [HE.out])
    go_wp2_with (first
      | (refine wpList_value (by rfl) (exec_neE _ _ bd _ rfl rfl rfl) ?_))
    go_ret
    exact ⟨by rw [HD.out]; simp [hA1], HW.out⟩
theorem is6F_isF6 (l : List UInt8) : is6F l = isF6 l := by
  unfold is6F isF6
  have hh : headIs (fun x => decide (x < 128)) (body6 l) = headLow (body6 l) := by
    cases body6 l with
    | nil => rfl
    | cons u t =>
      show decide ((u.toNat : Int) < 128) = decide (u.toNat < 128)
      by_cases h : u.toNat < 128
      · rw [decide_eq_true h, decide_eq_true (by omega)]
      · rw [decide_eq_false h, decide_eq_false (by omega)]
  rw [hh]
  have e1 : ((par6 l).2 == 0) = decide ((par6 l).2 = 0) := rfl
  have e2 : ((par6 l).1.next == 58) = decide ((par6 l).1.next = 58) := rfl
  rw [e1, e2, Bool.and_assoc]
end Go.Proofs.YtbcjkjmjljfhpaaDoor

/- What the statements of layer 24 call: plain. No condition but sizes. -/
namespace Go.Proofs.YtbcjkjmjljfhpaaDoor
open Go.RowKit
set_option linter.unusedVariables false
set_option maxRecDepth 20000
set_option linter.unusedSimpArgs false

theorem oneMm (x : Mm) : ∀ v ∈ x.cells, v.oneCell' = true := by
  intro v hv
  simp [Mm.cells] at hv
  rcases hv with rfl | rfl | rfl | rfl <;> rfl
theorem sizeMm (x : Mm) : (Tryd.prog.info? 34).map (·.size) = some x.cells.length := by show _ = some 4; kernel_rfl
def Mm.zero : Mm := ⟨0, 0, [], none, 0, 0, []⟩
theorem zeroMm (w : World) : (zeroValue 34).run Tryd.prog w = .ok (.agg Mm.zero.cells.toArray) w := by kernel_rfl
set_option maxHeartbeats 4000000 in
theorem plain24_any (m : Mp) (w : World) (hm : m.ok w) : Calls Tryd.prog 10 #[.agg m.cells.toArray] w fun e w' => e = .returned (.agg m.m.cells.toArray) ∧ Below w.heap.size w w' := by
  have HM := Lib.hid hm
  obtain ⟨kd, mt, P, pn, pc, beg, A, n, c, st⟩ := m
  clear hm
  show Calls Tryd.prog 10 #[.agg #[.int .i64 kd, .int .i64 mt, .slice P pn pc, .slice A n c]] w fun e w' => e = .returned (.agg (Mm.cells ⟨kd, mt, beg, A, n, c, st⟩).toArray) ∧ Below w.heap.size w w'
  obtain ⟨g0, hg0⟩ : ∃ g, w.heap.size = g := ⟨_, rfl⟩
  go_enter Tryd.func10, Tryd.ntmps10
  go_upto_region 1 with (first
    | (refine wpList_box_blk (by rfl) 25 (.tmp 0) rfl [.int .i64 kd, .int .i64 mt, .slice P pn pc, .slice A n c] rfl ?_; intro w1 hb1 hB1 hs1)
    | (refine wpList_alloc_blk (by rfl) 34 rfl Mm.zero.cells zeroMm ?_; intro w2 hb2 hB2 hs2))
  obtain ⟨g1, hg1⟩ : ∃ g, w1.heap.size = g := ⟨_, rfl⟩
  rw [hg0] at hb1
  rw [hg1] at hb2
  try rw [hg0]
  try rw [hg1]
  have hk := hb1.on hB2
  have c0 : w2.cell? ⟨g0, 0, none⟩ = some (.int .i64 kd) := hk.cell 0
  have c1 : w2.cell? ⟨g0, 1, none⟩ = some (.int .i64 mt) := hk.cell 1
  have c2 : w2.cell? ⟨g0, 2, none⟩ = some (.slice P pn pc) := hk.cell 2
  have c3 : w2.cell? ⟨g0, 3, none⟩ = some (.slice A n c) := hk.cell 3
  have hB := bthen hB1 hB2
  have HR := Lib.hid (HM.out.brow.below hB)
  have HZ := Lib.hid hb2
  have HB := Lib.hid hB
  have hle : w.heap.size ≤ g1 := by omega
  clear hb1 hB1 hs1 hb2 hB2 hs2 hk hB HM hg0 hg1
  go_wp2_with (first
    | (refine wpList_str (by rfl) (.tmp 8) 22 9 5 rfl Tryd.underlying22 Tryd.underlying5 Tryd.underlying9 _ _ _ _ beg (by rfl) HR.out ?_)
    | (refine wpList_store_all (by rfl) 34 _ _ rfl g1 (Mm.cells ⟨kd, mt, beg, A, n, c, st⟩) rfl rfl 34 _ HZ.out (sizeMm _) rfl (oneMm _) ?_; intro w3 hb3 hg3 hs3))
  have hB3 : Below w.heap.size w w3 := bgrown HB.out hg3 HB.out.size hle
  exact bodyPost_ret (results_cell1 rfl _ _ g1 _ _ _ rfl hb3 Tryd.underlying34 rfl (sizeMm _)) rfl ⟨rfl, hB3⟩
end Go.Proofs.YtbcjkjmjljfhpaaDoor

/- What the statements of layer 24 call: same, where both are the same. No condition but sizes. -/
namespace Go.Proofs.YtbcjkjmjljfhpaaDoor
open Go.RowKit
set_option linter.unusedVariables false
set_option maxRecDepth 20000
set_option linter.unusedSimpArgs false

theorem exec_eqS24 {w : World} {o : Oper} {c : Act} (x y : Operand) (ty : TypeId) (ho : o.op = .binOp .eql 9 x y ty) (s : List UInt8) (hx : c.eval x = str s) (hy : c.eval y = str s) : (execOp c.eval o).run Tryd.prog w = .ok (.value (.bool true)) w := by
  unfold execOp
  simp only [ho, hx, hy]
  go_simp
set_option maxHeartbeats 4000000 in
theorem same24_yes (x y : Mm) (w : World) (hx : x.ok w) (hy : y.ok w) (hk : x.kind = y.kind) (hm : x.mtu = y.mtu) (hb : x.beg = y.beg) (hs : x.st = y.st) (hn : x.n ≤ 1000000) :
    Calls Tryd.prog 13 #[.agg x.cells.toArray, .agg y.cells.toArray] w fun e w' => e = .returned (.bool true) ∧ Below w.heap.size w w' := by
  have hnn : x.n = y.n := by rw [← ent_len hx.row, ← ent_len hy.row, hs]
  have HRX := Lib.hid hx.row
  have HRY := Lib.hid hy.row
  obtain ⟨kd, mt, beg, A, n, c, st⟩ := x
  obtain ⟨kd2, mt2, beg2, A2, n2, c2, st2⟩ := y
  dsimp only at hk hm hb hs hnn HRX HRY hn
  subst hk hm hb hs hnn
  have HEX := Lib.hid (fun (W : World) (h1 : Row W W.heap.size 4 A n (evs st)) (h2 : Row W W.heap.size 4 A2 n (evs st)) => exact_same A A2 n c c2 st W _ h1 h2 (by omega))
  clear hx hy
  show Calls Tryd.prog 13 #[.agg #[.int .i64 kd, .int .i64 mt, str beg, .slice A n c], .agg #[.int .i64 kd, .int .i64 mt, str beg, .slice A2 n c2]] w _
  obtain ⟨g0, hg0⟩ : ∃ g, w.heap.size = g := ⟨_, rfl⟩
  go_enter Tryd.func13, Tryd.ntmps13
  go_upto_region 1 with (first
    | (refine wpList_box_blk (by rfl) 34 (.tmp 0) rfl [.int .i64 kd, .int .i64 mt, str beg, .slice A n c] rfl ?_; intro w1 hb1 hB1 hs1; clear hs1)
    | (refine wpList_box_blk (by rfl) 34 (.tmp 1) rfl [.int .i64 kd, .int .i64 mt, str beg, .slice A2 n c2] rfl ?_; intro w2 hb2 hB2 hs2))
  obtain ⟨g1, hg1⟩ : ∃ g, w1.heap.size = g := ⟨_, rfl⟩
  rw [hg0] at hb1
  rw [hg1] at hb2
  try rw [hg0]
  try rw [hg1]
  have hk := hb1.on hB2
  have c0 : w2.cell? ⟨g0, 0, none⟩ = some (.int .i64 kd) := hk.cell 0
  have c1 : w2.cell? ⟨g0, 1, none⟩ = some (.int .i64 mt) := hk.cell 1
  have cc2 : w2.cell? ⟨g0, 2, none⟩ = some (str beg) := hk.cell 2
  have c3 : w2.cell? ⟨g0, 3, none⟩ = some (.slice A n c) := hk.cell 3
  have d0 : w2.cell? ⟨g1, 0, none⟩ = some (.int .i64 kd) := hb2.cell 0
  have d1 : w2.cell? ⟨g1, 1, none⟩ = some (.int .i64 mt) := hb2.cell 1
  have d2 : w2.cell? ⟨g1, 2, none⟩ = some (str beg) := hb2.cell 2
  have d3 : w2.cell? ⟨g1, 3, none⟩ = some (.slice A2 n c2) := hb2.cell 3
  have hB := bthen hB1 hB2
  have HB := Lib.hid hB
  clear hb1 hB1 hb2 hB2 hs2 hk hB hg0 hg1
  go_wp2_with (first
    | (refine wpList_value (by rfl) (exec_eqS24 _ _ _ rfl beg (by rfl) (by rfl)) ?_))

  refine (HEX.out w2 ((HRX.out.below HB.out).more HB.out.size) ((HRY.out.below HB.out).more HB.out.size)).mono ?_
  rintro e w3 ⟨rfl, hb3⟩
  have HB3 := Lib.hid (bthen HB.out hb3)
  clear c0 c1 cc2 c3 d0 d1 d2 d3 hb3
  go_wp2
  go_ret
  exact ⟨rfl, HB3.out⟩
end Go.Proofs.YtbcjkjmjljfhpaaDoor

/- Plain laws of ICMPv6's sum: what whole lays reads as right. No condition. -/
namespace Go.Proofs.YtbcjkjmjljfhpaaDoor
open Go.RowKit
set_option linter.unusedVariables false
set_option maxRecDepth 20000

theorem set_two (X rest : List UInt8) (a b u v : UInt8) : ((X ++ a :: b :: rest).set X.length u).set (X.length + 1) v = X ++ u :: v :: rest := by
  rw [List.set_append_right _ _ (Nat.le_refl _), List.set_append_right _ _ (by omega)]
  simp
theorem toBe_two (c : Nat) (hc : c ≤ 65535) : toBe 2 c = [UInt8.ofNat (c / 256), UInt8.ofNat (c % 256)] := by
  have e : c / 256 % 256 = c / 256 := Nat.mod_eq_of_lt (by omega)
  simp [toBe, e]
theorem sum24 (X rest : List UInt8) (hX : X.length = 42) : rawN (X ++ (toBe 2 (65535 - rawN (X ++ 0 :: 0 :: rest)) ++ rest)) = 65535 := by
  obtain ⟨c, hc⟩ : ∃ c, c = 65535 - rawN (X ++ 0 :: 0 :: rest) := ⟨_, rfl⟩
  have h0 : ((X ++ 0 :: 0 :: rest).set (2 * 21) 0).set (2 * 21 + 1) 0 = X ++ 0 :: 0 :: rest := by
    have := set_two X rest 0 0 0 0
    rw [hX] at this
    exact this
  have h := sum_right (X ++ 0 :: 0 :: rest) 21 (by simp; omega) c (by rw [h0]; exact hc)
  rw [h0] at h
  have h1 := set_two X rest 0 0 (UInt8.ofNat (c / 256)) (UInt8.ofNat (c % 256))
  rw [hX] at h1
  rw [show (2 * 21 : Nat) = 42 from rfl, h1] at h
  rw [← hc, toBe_two c (by omega)]
  exact h
theorem ps24_length (m : Mm) (src dst : List UInt8) (hs : src.length = 16) (hd : dst.length = 16) (hb : (rest24 m).length ≤ 4000000000) : (ps24 m src dst).length = 40 := by
  unfold ps24 pseudoF
  rw [if_neg (by omega), if_neg (by omega), if_pos ⟨hs, hd, by omega⟩]
  simp [hs, hd, toBe_length]
theorem body24_length (m : Mm) (src dst : List UInt8) : (body24 m src dst).length = (rest24 m).length + 4 := by
  unfold body24
  simp only [List.length_append, front24_length, toBe_length]
  omega
theorem rest24_ge (m : Mm) : 4 ≤ (rest24 m).length := by
  have h4 : (four24 m).length = 4 := by
    unfold four24
    split
    · rw [toBe_length]
    · rfl
  unfold rest24
  simp only [List.length_append, h4]
  omega
/-- what put lays reads -/
theorem readF_put (m : Mm) (src dst more : List UInt8) (hs : src.length = 16) (hd : dst.length = 16) (hb : (body24 m src dst).length ≤ 65495) :
    readF (pkt6 (head24 src dst) (body24 m src dst) ++ more) = (body24 m src dst, 0) := by
  have hP := par6_pkt (head24 src dst) (head24_fit src dst hs hd) (by simp [head24]) (by simp [head24]) (body24 m src dst) more hb
  have hB := body6_pkt (head24 src dst) (head24_fit src dst hs hd) (by simp [head24]) (by simp [head24]) (body24 m src dst) more hb
  have hl := body24_length m src dst
  have hr := rest24_ge m
  have hps : psF (pkt6 (head24 src dst) (body24 m src dst) ++ more) = ps24 m src dst := by
    unfold psF ps24
    rw [hP, hB, hl]
    show pseudoF src dst 58 _ = pseudoF src dst 58 _
    congr 1
  have hsum : rawN (ps24 m src dst ++ body24 m src dst) = 65535 := by
    have hX : (ps24 m src dst ++ front24 m.kind).length = 42 := by rw [List.length_append, ps24_length m src dst hs hd (by omega), front24_length]
    have h := sum24 (ps24 m src dst ++ front24 m.kind) (rest24 m) hX
    have e : ps24 m src dst ++ body24 m src dst = (ps24 m src dst ++ front24 m.kind) ++ (toBe 2 (65535 - rawN ((ps24 m src dst ++ front24 m.kind) ++ 0 :: 0 :: rest24 m)) ++ rest24 m) := by
      unfold body24
      simp
    rw [e]
    exact h
  unfold readF
  rw [hP, hB, hps, hsum, if_neg (by simp), if_neg (by simp [head24]), if_neg (by omega), if_neg (by simp)]
end Go.Proofs.YtbcjkjmjljfhpaaDoor

/- Plain laws of ICMPv6's messages: what a put body tells. No condition. -/
namespace Go.Proofs.YtbcjkjmjljfhpaaDoor
open Go.RowKit
set_option linter.unusedVariables false
set_option maxRecDepth 20000

theorem body24_kind (m : Mm) (src dst : List UInt8) (h0 : 0 ≤ m.kind) (h2 : m.kind ≤ 2) : kindF ((body24 m src dst).getD 0 0).toNat = m.kind ∧ ((body24 m src dst).getD 1 0).toNat = 0 := by
  have hk : m.kind = 0 ∨ m.kind = 1 ∨ m.kind = 2 := by omega
  unfold body24
  rcases hk with h | h | h <;> rw [h] <;> exact ⟨rfl, rfl⟩
theorem body24_drop (m : Mm) (src dst : List UInt8) : (body24 m src dst).drop 4 = rest24 m := by
  unfold body24
  exact List.drop_left' (by simp [front24_length, toBe_length])
theorem four24_length (m : Mm) : (four24 m).length = 4 := by
  unfold four24
  split
  · rw [toBe_length]
  · rfl
theorem body24_drop8 (m : Mm) (src dst : List UInt8) : (body24 m src dst).drop 8 = begin24 m.beg (decide (0 < m.n)) ++ ext23 m.n (stack22 m.st).1 := by
  have e : (body24 m src dst).drop 8 = ((body24 m src dst).drop 4).drop 4 := by rw [List.drop_drop]
  rw [e, body24_drop]
  unfold rest24
  rw [List.append_assoc]
  exact List.drop_left' (four24_length m)
theorem body24_four (m : Mm) (src dst : List UInt8) (h0 : 0 ≤ m.mtu) (h1 : m.mtu ≤ 65535) : (numF (body24 m src dst) 4 4 : Int) = if m.n = 0 then m.mtu else 268435456 := by
  unfold numF
  rw [body24_drop]
  unfold rest24
  rw [List.append_assoc, List.take_left' (four24_length m)]
  unfold four24
  split
  · rw [be_toBe]
    omega
  · rfl
end Go.Proofs.YtbcjkjmjljfhpaaDoor

/- Plain laws of ICMPv6's messages: what a put message without a stack tells. No condition. -/
namespace Go.Proofs.YtbcjkjmjljfhpaaDoor
open Go.RowKit
set_option linter.unusedVariables false
set_option maxRecDepth 20000

theorem gotF_put0 (m : Mm) (src dst : List UInt8) (hb : ¬ m.bad6) (hn : m.n = 0) :
    gotF (body24 m src dst) m.kind (numF (body24 m src dst) 4 4) = ((m.kind, m.mtu, m.beg.take 1232, []), 0) := by
  obtain ⟨hk0, hk2, hm0, hm6, hmz, hnz⟩ := bad_or hb
  have h4 := body24_four m src dst hm0 hm6
  rw [if_pos hn] at h4
  obtain ⟨four, hf⟩ : ∃ f, numF (body24 m src dst) 4 4 = f := ⟨_, rfl⟩
  rw [hf] at h4 ⊢
  obtain ⟨hkd, h1⟩ := body24_kind m src dst hk0 hk2
  have h8 : (body24 m src dst).drop 8 = m.beg.take 1232 := by
    rw [body24_drop8, hn]
    simp [ext23, begin24]
  have hlen : ¬ 1240 < (body24 m src dst).length := by
    have e := congrArg List.length h8
    rw [List.length_drop, List.length_take] at e
    omega
  have hbk : badK m.kind four = false := by
    cases hB : badK m.kind four
    · rfl
    · have := (badK_iff _ _).1 hB
      omega
  have hfl : fullB m.kind four = false := by
    cases hB : fullB m.kind four
    · rfl
    · have := (full_iff _ _).1 hB
      omega
  unfold gotF
  rw [hbk, h1, hfl, h8, if_neg (by simp), if_neg (by simp), if_neg hlen, h4]
theorem getF6_put (m : Mm) (src dst more : List UInt8) (hb : ¬ m.bad6) (hs : src.length = 16) (hd : dst.length = 16) (hl : (body24 m src dst).length ≤ 65495) :
    getF6 (pkt6 (head24 src dst) (body24 m src dst) ++ more) = gotF (body24 m src dst) m.kind (numF (body24 m src dst) 4 4) := by
  obtain ⟨hk0, hk2, _⟩ := bad_or hb
  unfold getF6
  rw [readF_put m src dst more hs hd hl, if_neg (by simp), (body24_kind m src dst hk0 hk2).1]
end Go.Proofs.YtbcjkjmjljfhpaaDoor

/- Plain laws of ICMPv6's messages: what a put message tells; a turned bit. No condition. -/
namespace Go.Proofs.YtbcjkjmjljfhpaaDoor
open Go.RowKit
set_option linter.unusedVariables false
set_option maxRecDepth 20000

theorem begin24_full (s : List UInt8) : (begin24 s true).length = 128 := by
  unfold begin24
  rw [if_pos rfl]
  unfold begin23
  split
  · rw [List.length_take]; omega
  · rw [if_pos rfl]
    simp [zerosN]
    omega
theorem stack22_yes {l : List Ent} (h : (stack22 l).2 = 0) : l.length ≤ 16 ∧ (∀ x ∈ l, x.good) ∧ (stack22 l).1 = hd22 (obsB [⟨1, 1, l.flatMap packL⟩]) := by
  unfold stack22 at h ⊢
  split at h
  · cases h
  · rename_i h16
    rw [if_neg h16]
    split at h
    · rename_i hg
      rw [if_pos hg]
      refine ⟨by omega, fun x hx => by have := List.all_eq_true.1 hg x hx; simpa using this, ?_⟩
      simp [obsB]
    · cases h
theorem told_stack (l : List Ent) (hf : ∀ x ∈ l, x.fit) (h : (stack22 l).2 = 0) : toldG (stack22 l).1 = (l, 0) := by
  obtain ⟨h16, hg, e⟩ := stack22_yes h
  rw [e]
  have hpl := packs_len l hg
  refine told_of _ ?_ l hf hg h16 rfl
  intro x hx
  simp only [List.mem_cons, List.not_mem_nil, or_false] at hx
  subst hx
  refine ⟨?_, ⟨by show (0 : Int) ≤ 1; decide, by show (1 : Int) ≤ 255; decide⟩, ⟨by show (0 : Int) ≤ 1; decide, by show (1 : Int) ≤ 255; decide⟩⟩
  unfold Ob.good
  simp only [Bool.and_eq_true, decide_eq_true_eq]
  rw [hpl]
  omega
theorem gotF_put (m : Mm) (src dst : List UInt8) (hb : ¬ m.bad6) (hs : (stack22 m.st).2 = 0) (hl : m.st.length = m.n) (hf : ∀ x ∈ m.st, x.fit) :
    gotF (body24 m src dst) m.kind (numF (body24 m src dst) 4 4) = ((m.kind, m.mtu, begin24 m.beg (decide (0 < m.n)), m.st), 0) := by
  by_cases hn : m.n = 0
  · rw [gotF_put0 m src dst hb hn]
    have h0 : m.st = [] := List.eq_nil_of_length_eq_zero (by omega)
    rw [h0, hn]
    simp [begin24]
  · obtain ⟨hk0, hk2, hm0, hm6, hmz, hnz⟩ := bad_or hb
    have h4 := body24_four m src dst hm0 hm6
    rw [if_neg hn] at h4
    obtain ⟨four, hf4⟩ : ∃ f, numF (body24 m src dst) 4 4 = f := ⟨_, rfl⟩
    rw [hf4] at h4 ⊢
    have h4' : four = 268435456 := by omega
    have hk1 : m.kind ≠ 1 := fun e => hn (hnz e)
    obtain ⟨hkd, h1⟩ := body24_kind m src dst hk0 hk2
    have h8 : (body24 m src dst).drop 8 = begin24 m.beg true ++ (stack22 m.st).1 := by
      rw [body24_drop8, decide_eq_true (by omega)]
      unfold ext23
      rw [if_neg hn]
    have hbl := begin24_full m.beg
    have h136 : (body24 m src dst).drop 136 = (stack22 m.st).1 := by
      have e : (body24 m src dst).drop 136 = ((body24 m src dst).drop 8).drop 128 := by rw [List.drop_drop]
      rw [e, h8]
      exact List.drop_left' hbl
    have hlen : ¬ (body24 m src dst).length < 136 := by
      have e := congrArg List.length h8
      rw [List.length_drop, List.length_append, hbl] at e
      omega
    have hbk : badK m.kind four = false := by
      cases hB : badK m.kind four
      · rfl
      · have := (badK_iff _ _).1 hB
        omega
    have hfl : fullB m.kind four = true := (full_iff _ _).2 ⟨hk1, h4'⟩
    have hmt := hmz hk1
    unfold gotF
    rw [hbk, h1, hfl, if_neg (by simp), if_pos rfl, if_neg hlen, h136, told_stack m.st hf hs, if_neg (by simp), h8, List.take_left' hbl, decide_eq_true (by omega : 0 < m.n), hmt]
theorem put24_yes (m : Mm) (src dst : List UInt8) (hs : src.length = 16) (hd : dst.length = 16) (he : (put24 m src dst).2 = 0) :
    ¬ m.bad6 ∧ (stack22 m.st).2 = 0 ∧ put24 m src dst = (pkt6 (head24 src dst) (body24 m src dst), 0) := by
  have hle := body24_le m src dst
  have hp := put6_yes (head24 src dst) (by simp [head24]) (by simp [head24]) (body24 m src dst) (by omega)
  unfold put24 at he ⊢
  split at he
  · cases he
  · rename_i hb
    rw [if_neg hb]
    split at he
    · rename_i h1
      exact absurd he h1
    · rename_i h1
      rw [if_neg h1]
      have h1' : (stack22 m.st).2 = 0 := by omega
      exact ⟨hb, h1', hp⟩
theorem put24_no (m : Mm) (src dst : List UInt8) (he : (put24 m src dst).2 ≠ 0) (hs : src.length = 16) (hd : dst.length = 16) : (put24 m src dst).1 = [] := by
  have hle := body24_le m src dst
  have hp := put6_yes (head24 src dst) (by simp [head24]) (by simp [head24]) (body24 m src dst) (by omega)
  unfold put24 at he ⊢
  split
  · rfl
  · rename_i hb
    rw [if_neg hb] at he
    split
    · rfl
    · rename_i h1
      rw [if_neg h1, hp] at he
      exact absurd rfl he
/-- what is put is got -/
theorem getF6_back (m : Mm) (src dst : List UInt8) (hs : src.length = 16) (hd : dst.length = 16) (he : (put24 m src dst).2 = 0) (hl : m.st.length = m.n) (hf : ∀ x ∈ m.st, x.fit) :
    getF6 (put24 m src dst).1 = ((m.kind, m.mtu, begin24 m.beg (decide (0 < m.n)), m.st), 0) := by
  obtain ⟨hb, h2, h3⟩ := put24_yes m src dst hs hd he
  have hle := body24_le m src dst
  have h := getF6_put m src dst [] hb hs hd (by omega)
  rw [List.append_nil] at h
  rw [h3]
  show getF6 (pkt6 _ _) = _
  rw [h, gotF_put m src dst hb h2 hl hf]
end Go.Proofs.YtbcjkjmjljfhpaaDoor


/- Texts of this claim put together, in build order: each one's own remark stands ahead of it. -/
import Derived.Test.YtbcjkjmjljfhpaaDoorG18
import Derived.Test.YtbcjkjmjljfhpaaDoorG05
/- What the reference's Put of errors of IPv6 (layer 24) computes. No condition but sizes. -/
namespace Go.Proofs.YtbcjkjmjljfhpaaDoor
open Go.RowKit
set_option linter.unusedVariables false
set_option maxRecDepth 20000
set_option linter.unusedSimpArgs false

def Mm.bad6 (m : Mm) : Prop := m.kind < 0 ∨ 2 < m.kind ∨ m.mtu < 0 ∨ 65535 < m.mtu ∨ (m.kind ≠ 1 ∧ 0 < m.mtu) ∨ (m.kind = 1 ∧ 0 < m.n)
instance (m : Mm) : Decidable m.bad6 := by unfold Mm.bad6; infer_instance
def front24 (k : Int) : List UInt8 := if k = 0 then [3, 0] else if k = 1 then [2, 0] else [1, 0]
def four24 (m : Mm) : List UInt8 := if m.n = 0 then toBe 4 m.mtu.toNat else [16, 0, 0, 0]
def rest24 (m : Mm) : List UInt8 := four24 m ++ begin24 m.beg (decide (0 < m.n)) ++ ext23 m.n (stack22 m.st).1
def ps24 (m : Mm) (src dst : List UInt8) : List UInt8 := pseudoF src dst 58 (((rest24 m).length : Int) + 4)
def body24 (m : Mm) (src dst : List UInt8) : List UInt8 := front24 m.kind ++ toBe 2 (65535 - rawN (ps24 m src dst ++ front24 m.kind ++ [0, 0] ++ rest24 m)) ++ rest24 m
def head24 (src dst : List UInt8) : H6 := ⟨192, 0, 0, 58, 255, src, dst⟩
theorem head24_fit (src dst : List UInt8) (hs : src.length = 16) (hd : dst.length = 16) : (head24 src dst).fit := ⟨⟨hs, hd⟩, by simp [head24], by simp [head24], by simp [head24], by simp [head24], by simp [head24]⟩
def put24 (m : Mm) (src dst : List UInt8) : List UInt8 × Int :=
  if m.bad6 then ([], 1) else if (stack22 m.st).2 ≠ 0 then ([], (stack22 m.st).2) else put6 (head24 src dst) (body24 m src dst)
theorem exec_build24 {w : World} {o : Oper} {q : Act} (x5 x6 : Operand) (ho : o.op = .build 58 #[(0, .const (.int .u8 192)), (3, .const (.int .u8 58)), (4, .const (.int .u8 255)), (5, x5), (6, x6)]) (s t : List UInt8) (hs : s.length = 16) (ht : t.length = 16)
    (h5 : q.eval x5 = .agg (bv s).toArray) (h6 : q.eval x6 = .agg (bv t).toArray) :
    (execOp q.eval o).run Tryd.prog w = .ok (.value (.agg (head24 s t).cells.toArray)) w := by
  have hr : (Instr.build 58 #[(0, .int .u8 192), (3, .int .u8 58), (4, .int .u8 255), (5, .agg (bv s).toArray), (6, .agg (bv t).toArray)]).run Tryd.prog w = .ok (.agg (head24 s t).cells.toArray) w := by
    obtain ⟨s0, s1, s2, s3, s4, s5, s6, s7, s8, s9, s10, s11, s12, s13, s14, s15, rfl⟩ := list16 s hs
    obtain ⟨t0, t1, t2, t3, t4, t5, t6, t7, t8, t9, t10, t11, t12, t13, t14, t15, rfl⟩ := list16 t ht
    kernel_rfl
  unfold execOp
  simp only [ho, List.map_toArray, List.map_cons, List.map_nil, h5, h6, Sem.run_bind]
  simp only [Act.eval, hr, Result.andThen_ok]
  rfl
theorem front24_length (k : Int) : (front24 k).length = 2 := by
  unfold front24
  split
  · rfl
  · split <;> rfl
theorem rest24_le (m : Mm) : (rest24 m).length ≤ 1400 := by
  have h1 := begin24_le m.beg (decide (0 < m.n))
  have h2 := ext23_le m.n (stack22 m.st).1
  have h3 := stack22_le m.st
  have h4 : (four24 m).length = 4 := by
    unfold four24
    split
    · rw [toBe_length]
    · rfl
  simp only [rest24, List.length_append, h4]
  omega
theorem pseudoF_le (s d : List UInt8) (p : Nat) (z : Int) : (pseudoF s d p z).length ≤ 40 := by
  unfold pseudoF
  split
  · simp
  · split
    · rename_i h; simp [toBe_length, h.1, h.2.1]
    · split
      · rename_i h; simp [toBe_length, h.1, h.2.1]
      · simp
theorem body24_le (m : Mm) (s d : List UInt8) : (body24 m s d).length ≤ 1404 := by
  have := rest24_le m
  simp only [body24, List.length_append, toBe_length, front24_length]
  omega

set_option maxHeartbeats 4000000 in
theorem rput24_any (m : Mm) (w : World) (hm : m.ok w) (hbl : m.beg.length ≤ 1099511627776) (hnn : m.n ≤ 1099511627776) (src dst : List UInt8) (hsl : src.length = 16) (hdl : dst.length = 16) :
    Calls Tryd.prog 9 #[.agg m.cells.toArray, .agg (bv src).toArray, .agg (bv dst).toArray] w fun e w' => e = .returned (.tuple #[str (put24 m src dst).1, .int .i64 (put24 m src dst).2]) ∧ Below w.heap.size w w' := by
  have HSL := Lib.hid hsl
  have HDL := Lib.hid hdl
  clear hsl hdl
  by_cases hbad : m.bad6
  · have HNO : Hid (put24 m src dst = ([], 1)) := Lib.hid (by unfold put24; rw [if_pos hbad])
    clear hm
    have hcase : m.kind < 0 ∨ (¬ m.kind < 0 ∧ 2 < m.kind) ∨ (¬ m.kind < 0 ∧ ¬ 2 < m.kind ∧ m.mtu < 0) ∨ (¬ m.kind < 0 ∧ ¬ 2 < m.kind ∧ ¬ m.mtu < 0 ∧ 65535 < m.mtu) ∨ (¬ m.kind < 0 ∧ ¬ 2 < m.kind ∧ ¬ m.mtu < 0 ∧ ¬ 65535 < m.mtu ∧ m.kind ≠ 1 ∧ 0 < m.mtu) ∨ (¬ m.kind < 0 ∧ ¬ 2 < m.kind ∧ ¬ m.mtu < 0 ∧ ¬ 65535 < m.mtu ∧ m.kind = 1 ∧ 0 < m.n) := by unfold Mm.bad6 at hbad; omega
    rcases hcase with h1 | ⟨h1, h2⟩ | ⟨h1, h2, h3⟩ | ⟨h1, h2, h3, h4⟩ | ⟨h1, h2, h3, h4, h5, h6⟩ | ⟨h1, h2, h3, h4, h5, h6⟩
    · go_enter Tryd.func9, Tryd.ntmps9
      go_upto_region 1 with (first
        | (refine wpList_box_blk (by rfl) 34 _ rfl m.cells rfl ?_; intro w1 hk1 hB1 hs1)
        | (refine wpList_box_blk (by rfl) 26 _ rfl (bv src) rfl ?_; intro w2 hk2 hB2 hs2)
        | (refine wpList_box_blk (by rfl) 26 _ rfl (bv dst) rfl ?_; intro w3 hk3 hB3 hs3))
      have hk13 := (hk1.on hB2).on hB3
      have d0 : w3.cell? ⟨w.heap.size, 0, none⟩ = some (.int .i64 m.kind) := hk13.cell 0
      have d1 : w3.cell? ⟨w.heap.size, 1, none⟩ = some (.int .i64 m.mtu) := hk13.cell 1
      have d3 : w3.cell? ⟨w.heap.size, 3, none⟩ = some (.slice m.A m.n m.c) := hk13.cell 3
      go_wp2_with fail
      go_ret2
      exact ⟨by rw [HNO.out]; rfl, bthen (bthen hB1 hB2) hB3⟩
    · go_enter Tryd.func9, Tryd.ntmps9
      go_upto_region 1 with (first
        | (refine wpList_box_blk (by rfl) 34 _ rfl m.cells rfl ?_; intro w1 hk1 hB1 hs1)
        | (refine wpList_box_blk (by rfl) 26 _ rfl (bv src) rfl ?_; intro w2 hk2 hB2 hs2)
        | (refine wpList_box_blk (by rfl) 26 _ rfl (bv dst) rfl ?_; intro w3 hk3 hB3 hs3))
      have hk13 := (hk1.on hB2).on hB3
      have d0 : w3.cell? ⟨w.heap.size, 0, none⟩ = some (.int .i64 m.kind) := hk13.cell 0
      have d1 : w3.cell? ⟨w.heap.size, 1, none⟩ = some (.int .i64 m.mtu) := hk13.cell 1
      have d3 : w3.cell? ⟨w.heap.size, 3, none⟩ = some (.slice m.A m.n m.c) := hk13.cell 3
      go_wp2_with fail
      go_ret2
      exact ⟨by rw [HNO.out]; rfl, bthen (bthen hB1 hB2) hB3⟩
    · go_enter Tryd.func9, Tryd.ntmps9
      go_upto_region 1 with (first
        | (refine wpList_box_blk (by rfl) 34 _ rfl m.cells rfl ?_; intro w1 hk1 hB1 hs1)
        | (refine wpList_box_blk (by rfl) 26 _ rfl (bv src) rfl ?_; intro w2 hk2 hB2 hs2)
        | (refine wpList_box_blk (by rfl) 26 _ rfl (bv dst) rfl ?_; intro w3 hk3 hB3 hs3))
      have hk13 := (hk1.on hB2).on hB3
      have d0 : w3.cell? ⟨w.heap.size, 0, none⟩ = some (.int .i64 m.kind) := hk13.cell 0
      have d1 : w3.cell? ⟨w.heap.size, 1, none⟩ = some (.int .i64 m.mtu) := hk13.cell 1
      have d3 : w3.cell? ⟨w.heap.size, 3, none⟩ = some (.slice m.A m.n m.c) := hk13.cell 3
      go_wp2_with fail
      go_ret2
      exact ⟨by rw [HNO.out]; rfl, bthen (bthen hB1 hB2) hB3⟩
    · go_enter Tryd.func9, Tryd.ntmps9
      go_upto_region 1 with (first
        | (refine wpList_box_blk (by rfl) 34 _ rfl m.cells rfl ?_; intro w1 hk1 hB1 hs1)
        | (refine wpList_box_blk (by rfl) 26 _ rfl (bv src) rfl ?_; intro w2 hk2 hB2 hs2)
        | (refine wpList_box_blk (by rfl) 26 _ rfl (bv dst) rfl ?_; intro w3 hk3 hB3 hs3))
      have hk13 := (hk1.on hB2).on hB3
      have d0 : w3.cell? ⟨w.heap.size, 0, none⟩ = some (.int .i64 m.kind) := hk13.cell 0
      have d1 : w3.cell? ⟨w.heap.size, 1, none⟩ = some (.int .i64 m.mtu) := hk13.cell 1
      have d3 : w3.cell? ⟨w.heap.size, 3, none⟩ = some (.slice m.A m.n m.c) := hk13.cell 3
      go_wp2_with fail
      go_ret2
      exact ⟨by rw [HNO.out]; rfl, bthen (bthen hB1 hB2) hB3⟩
    · have h5' : (m.kind != 1) = true := by simpa [bne] using h5
      clear h5
      go_enter Tryd.func9, Tryd.ntmps9
      go_upto_region 1 with (first
        | (refine wpList_box_blk (by rfl) 34 _ rfl m.cells rfl ?_; intro w1 hk1 hB1 hs1)
        | (refine wpList_box_blk (by rfl) 26 _ rfl (bv src) rfl ?_; intro w2 hk2 hB2 hs2)
        | (refine wpList_box_blk (by rfl) 26 _ rfl (bv dst) rfl ?_; intro w3 hk3 hB3 hs3))
      have hk13 := (hk1.on hB2).on hB3
      have d0 : w3.cell? ⟨w.heap.size, 0, none⟩ = some (.int .i64 m.kind) := hk13.cell 0
      have d1 : w3.cell? ⟨w.heap.size, 1, none⟩ = some (.int .i64 m.mtu) := hk13.cell 1
      have d3 : w3.cell? ⟨w.heap.size, 3, none⟩ = some (.slice m.A m.n m.c) := hk13.cell 3
      go_wp2_with fail
      go_ret2
      exact ⟨by rw [HNO.out]; rfl, bthen (bthen hB1 hB2) hB3⟩
    · have h5' : (m.kind != 1) = false := by rw [h5]; rfl
      have h5'' : (m.kind == 1) = true := by rw [h5]; rfl
      have h6' : (0 : Int) < (m.n : Int) := by omega
      clear h5
      go_enter Tryd.func9, Tryd.ntmps9
      go_upto_region 1 with (first
        | (refine wpList_box_blk (by rfl) 34 _ rfl m.cells rfl ?_; intro w1 hk1 hB1 hs1)
        | (refine wpList_box_blk (by rfl) 26 _ rfl (bv src) rfl ?_; intro w2 hk2 hB2 hs2)
        | (refine wpList_box_blk (by rfl) 26 _ rfl (bv dst) rfl ?_; intro w3 hk3 hB3 hs3))
      have hk13 := (hk1.on hB2).on hB3
      have d0 : w3.cell? ⟨w.heap.size, 0, none⟩ = some (.int .i64 m.kind) := hk13.cell 0
      have d1 : w3.cell? ⟨w.heap.size, 1, none⟩ = some (.int .i64 m.mtu) := hk13.cell 1
      have d3 : w3.cell? ⟨w.heap.size, 3, none⟩ = some (.slice m.A m.n m.c) := hk13.cell 3
      go_wp2_with fail
      go_ret2
      exact ⟨by rw [HNO.out]; rfl, bthen (bthen hB1 hB2) hB3⟩
  · have g1 : ¬ m.kind < 0 ∧ ¬ 2 < m.kind ∧ ¬ m.mtu < 0 ∧ ¬ 65535 < m.mtu ∧ ((m.kind = 1 ∧ m.n = 0) ∨ (m.kind ≠ 1 ∧ ¬ 0 < m.mtu)) := by unfold Mm.bad6 at hbad; omega
    obtain ⟨h1, h2, h3, h4, h5⟩ := g1
    have SX := fun W (hB : Below w.heap.size w W) => rstack22_any m.A m.n m.c m.st W ((hm.row.below hB).more hB.size) hm.fit hnn
    cases hst : stack22 m.st with
    | mk ST SE =>
    have hstl := stack22_le m.st
    rw [hst] at hstl
    simp only [hst] at SX hstl
    have HSX := Lib.hid SX
    by_cases hse : SE = 0
    · subst hse
      have HM := Lib.hid hbl
      by_cases hn0 : m.n = 0
      · have hn1 : ¬ (0 : Int) < (m.n : Int) := by omega
        have hn2 : ¬ 0 < m.n := by omega
        obtain ⟨BG, hBG⟩ : ∃ z, begin24 m.beg false = z := ⟨_, rfl⟩
        have hbgl := begin24_le m.beg false
        rw [hBG] at hbgl
        have HBG := Lib.hid hBG
        have hrr : rest24 m = toBe 4 m.mtu.toNat ++ BG ++ [] := by
          unfold rest24 four24 ext23
          rw [hst]
          simp only [hn0, decide_true, decide_false, if_true, if_false, Nat.lt_irrefl]
          rw [hBG]
        simp only [List.append_assoc, List.cons_append, List.nil_append, List.append_nil] at hrr
        obtain ⟨R, hR⟩ : ∃ z, rest24 m = z := ⟨_, rfl⟩
        have hrl := rest24_le m
        have hps : ps24 m src dst = pseudoF src dst 58 (((rest24 m).length : Int) + 4) := rfl
        rw [hR] at hrl hrr hps
        obtain ⟨FR, hFR⟩ : ∃ z, front24 m.kind = z := ⟨_, rfl⟩
        have hfl := front24_length m.kind
        rw [hFR] at hfl
        obtain ⟨PS, hPS⟩ : ∃ z, pseudoF src dst 58 ((R.length : Int) + 4) = z := ⟨_, rfl⟩
        have hpl := pseudoF_le src dst 58 ((R.length : Int) + 4)
        rw [hPS] at hpl hps
        obtain ⟨N, hN⟩ : ∃ z, 65535 - rawN (PS ++ FR ++ [0, 0] ++ R) = z := ⟨_, rfl⟩
        have RO := fun W => rof_any (PS ++ FR ++ [0, 0] ++ R) W (by simp; omega)
        rw [hN] at RO
        simp only [List.append_assoc, List.cons_append, List.nil_append] at RO
        have hN1 : N ≤ 65535 := by omega
        have hno : put24 m src dst = put6 (head24 src dst) (FR ++ toBe 2 N ++ R) := by
          unfold put24 body24
          rw [if_neg hbad, hst, if_neg (by simp), hps, hR, hFR, hN]
        cases hpk : put6 (head24 src dst) (FR ++ toBe 2 N ++ R) with
        | mk PK PE =>
        rw [hpk] at hno
        have HRR := Lib.hid hrr.symm
        have HFR := Lib.hid hFR
        have HPS := Lib.hid hPS
        have HRO := Lib.hid RO
        have HNO := Lib.hid hno
        have HPK := Lib.hid hpk
        have HHF := Lib.hid (head24_fit src dst HSL.out HDL.out)
        have hwr : IntKind.u64.wrap (N : Int) = (N : Int) := by rw [IntKind.wrap_u64]; omega
        have hwm : IntKind.u64.wrap m.mtu = m.mtu := by rw [IntKind.wrap_u64]; omega
        clear hm SX hst hbad hBG hrr hR hFR hN RO hno hpk hps hPS
        rcases h5 with ⟨h5, h6⟩ | ⟨h5, h6⟩
        · have h5' : (m.kind != 1) = false := by rw [h5]; rfl
          have h5'' : (m.kind == 1) = true := by rw [h5]; rfl
          clear h5 h6 hn0
          go_enter Tryd.func9, Tryd.ntmps9
          go_upto_region 1 with (first
            | (refine wpList_box_blk (by rfl) 34 _ rfl m.cells rfl ?_; intro w1 hk1 hB1 hs1)
            | (refine wpList_box_blk (by rfl) 26 _ rfl (bv src) rfl ?_; intro w2 hk2 hB2 hs2)
            | (refine wpList_box_blk (by rfl) 26 _ rfl (bv dst) rfl ?_; intro w3 hk3 hB3 hs3))
          have hk13 := (hk1.on hB2).on hB3
          have d0 : w3.cell? ⟨w.heap.size, 0, none⟩ = some (.int .i64 m.kind) := hk13.cell 0
          have d1 : w3.cell? ⟨w.heap.size, 1, none⟩ = some (.int .i64 m.mtu) := hk13.cell 1
          have d3 : w3.cell? ⟨w.heap.size, 3, none⟩ = some (.slice m.A m.n m.c) := hk13.cell 3
          go_wp2_with fail
          have HW := Lib.hid (bthen (bthen hB1 hB2) hB3)
          have HB := Lib.hid ((hk1.on hB2).on hB3)
          rw [hs1] at hk2
          have HS := Lib.hid (hk2.on hB3)
          rw [hs2, hs1] at hk3
          have HD := Lib.hid hk3
          clear d0 d1 d3 hk13 hk1 hk2 hk3 hs1 hs2 hs3 hB1 hB2 hB3
          refine (HSX.out w3 HW.out).mono ?_
          rintro e w4 ⟨rfl, hb⟩
          replace HW := Lib.hid (bthen HW.out hb)
          replace HB := Lib.hid (HB.out.on hb)
          replace HS := Lib.hid (HS.out.on hb)
          replace HD := Lib.hid (HD.out.on hb)
          clear hb
          have d1 : w4.cell? ⟨w.heap.size, 1, none⟩ = some (.int .i64 m.mtu) := HB.out.cell 1
          go_wp2_with fail
          clear d1
          refine (bytes_any m.mtu 4 w4 (by omega) (by omega) (by omega) (by omega)).mono ?_
          rintro e w5 ⟨rfl, hb⟩
          rw [show ((4 : Int)).toNat = 4 from rfl]
          replace HW := Lib.hid (bthen HW.out hb)
          replace HB := Lib.hid (HB.out.on hb)
          replace HS := Lib.hid (HS.out.on hb)
          replace HD := Lib.hid (HD.out.on hb)
          clear hb
          have d0 : w5.cell? ⟨w.heap.size, 0, none⟩ = some (.int .i64 m.kind) := HB.out.cell 0
          go_upto_region 11 with fail
          go_cut [12] (fun c wx => c = str FR ∧ Below w5.heap.size w5 wx)
          case first =>
            rcases (show m.kind = 0 ∨ m.kind = 1 ∨ m.kind = 2 by omega) with hk | hk | hk
            all_goals
              have hfr := HFR.out
              rw [hk] at hfr
              have dA : ∀ (C : Array Value) (T : TypeId), (w5.alloc (.cells C T)).cell? ⟨w.heap.size, 0, none⟩ = some (.int .i64 m.kind) := fun C T => (HB.out.on (alloc_below _ _)).cell 0
              simp only [hk] at dA
              go_wp2_with fail
              go_meet
              exact ⟨by rw [← hfr]; rfl, alloc_below _ _⟩
          case rest =>
            obtain ⟨hu, hb⟩ := hcut
            subst hu
            clear d0
            have hwc : Below w5.heap.size w5 wc := hb
            replace HW := Lib.hid (bthen HW.out hb)
            replace HB := Lib.hid (HB.out.on hb)
            replace HS := Lib.hid (HS.out.on hb)
            replace HD := Lib.hid (HD.out.on hb)
            clear hb
            clear hwc
            have d2 : wc.cell? ⟨w.heap.size, 2, none⟩ = some (str m.beg) := HB.out.cell 2
            go_wp2_with fail
            clear d2
            refine (begin24_any m.beg false HM.out wc).mono ?_
            rintro e w6 ⟨rfl, rfl⟩
            rw [HBG.out]
            go_wp2_with (first
              | (refine wpList_value (by rfl) (exec_add _ _ _ _ rfl Tryd.underlying9 (toBe 4 m.mtu.toNat) BG rfl rfl (by simp [toBe_length] <;> omega)) ?_)
              | (refine wpList_value (by rfl) (exec_add _ _ _ _ rfl Tryd.underlying9 (toBe 4 m.mtu.toNat ++ BG) ([]) rfl rfl (by simp [toBe_length] <;> omega)) ?_))
            rw [HRR.out]
            refine wp_region_rel (fun A B => A.grownBy B none) (fun A => grown_refl A _) (fun A B C h k => grown_trans h k) (relAt (List.cons (fun v _ => v = .agg (bv src).toArray) (List.cons (fun v _ => v = str src) (List.cons (fun v _ => v = .agg (bv dst).toArray) (List.cons (fun v _ => v = str dst) (List.cons (fun v _ => v = str R) (List.cons (fun v _ => v = .int .i64 (R.length : Int)) (List.cons (fun v _ => v = .int .i64 ((R.length : Int) + 4)) (List.cons (fun v _ => v = str PS) (List.cons (fun v _ => v = str PS) ([]))))))))))) (MonoL.at_ (.cons (mono_val _) (.cons (mono_val _) (.cons (mono_val _) (.cons (mono_val _) (.cons (mono_val _) (.cons (mono_val _) (.cons (mono_val _) (.cons (mono_val _) (.cons (mono_val _) .nil)))))))))) (by kernel_rfl) (by kernel_rfl) ⟨?_, ?_, ?_, ?_, ?_, ?_, ?_, ?_, ?_, trivial⟩ ?_
            · intro a vs W hX hR he hf K hK
              rw [if_pos (wanted_none rfl)]
              have e4 : a.eval (.tmp 4) = .pointer (some ⟨w.heap.size + 1, 0, none⟩) := hf 4 (by kernel_rfl)
              have hbW := bthen (below_drew _) (grow_below hX)
              exact wp_value (exec_load 26 _ rfl (w.heap.size + 1) e4 26 (bv src) _ (HS.out.on hbW) Tryd.underlying26 rfl (size24 _ HSL.out)) (hK _ _ rfl (grown_refl W _))
            · intro a vs W hX hR he hf K hK
              rw [if_pos (wanted_none rfl)]
              have e83 : a.eval (.tmp 83) = .agg (bv src).toArray := (he 0 83 (by kernel_rfl) rfl).trans (hR 0 (by kernel_rfl))
              refine wp_enter (f := 26) (args := #[.agg (bv src).toArray]) (by simp only [execOp, e83]; go_simp; simpa [Act.eval] using e83) ((text_any src W HSL.out).mono ?_)
              rintro e w' ⟨rfl, hb⟩
              exact ⟨_, rfl, hK _ _ rfl (below_grow hb _)⟩
            · intro a vs W hX hR he hf K hK
              rw [if_pos (wanted_none rfl)]
              have e5 : a.eval (.tmp 5) = .pointer (some ⟨w.heap.size + 1 + 1, 0, none⟩) := hf 5 (by kernel_rfl)
              have hbW := bthen (below_drew _) (grow_below hX)
              exact wp_value (exec_load 26 _ rfl (w.heap.size + 1 + 1) e5 26 (bv dst) _ (HD.out.on hbW) Tryd.underlying26 rfl (size24 _ HDL.out)) (hK _ _ rfl (grown_refl W _))
            · intro a vs W hX hR he hf K hK
              rw [if_pos (wanted_none rfl)]
              have e85 : a.eval (.tmp 85) = .agg (bv dst).toArray := (he 2 85 (by kernel_rfl) rfl).trans (hR 2 (by kernel_rfl))
              refine wp_enter (f := 26) (args := #[.agg (bv dst).toArray]) (by simp only [execOp, e85]; go_simp; simpa [Act.eval] using e85) ((text_any dst W HDL.out).mono ?_)
              rintro e w' ⟨rfl, hb⟩
              exact ⟨_, rfl, hK _ _ rfl (below_grow hb _)⟩
            · intro a vs W hX hR he hf K hK
              rw [if_pos (wanted_none rfl)]
              have e13 : a.eval (.tmp 13) = str R := hf 13 (by kernel_rfl)
              refine wp_value (v := str R) ?_ (hK _ _ rfl (grown_refl W _))
              simp only [execOp, e13]
              try go_simp
              try (first | rfl | omega | (simp only [IntKind.wrap_i64, IntKind.wrap_u8, IntKind.wrap_u64, IntKind.wrap_u16, IntKind.wrap_u32]; omega) | (rw [Int.tmod_eq_emod_of_nonneg (by omega)]) | (rw [Int.tmod_eq_emod_of_nonneg (by omega)]; omega))
            · intro a vs W hX hR he hf K hK
              rw [if_pos (wanted_none rfl)]
              have e87 : a.eval (.tmp 87) = str R := (he 4 87 (by kernel_rfl) rfl).trans (hR 4 (by kernel_rfl))
              have f87 := e87
              simp only [Act.eval, Array.getD_eq_getD_getElem?] at f87
              refine wp_value (v := .int .i64 (R.length : Int)) ?_ (hK _ _ rfl (grown_refl W _))
              simp only [execOp, e87]
              try go_simp
              try (first | rfl | omega | (simp only [IntKind.wrap_i64, IntKind.wrap_u8, IntKind.wrap_u64, IntKind.wrap_u16, IntKind.wrap_u32]; omega) | (rw [Int.tmod_eq_emod_of_nonneg (by omega)]) | (rw [Int.tmod_eq_emod_of_nonneg (by omega)]; omega))
            · intro a vs W hX hR he hf K hK
              rw [if_pos (wanted_none rfl)]
              have e88 : a.eval (.tmp 88) = .int .i64 (R.length : Int) := (he 5 88 (by kernel_rfl) rfl).trans (hR 5 (by kernel_rfl))
              refine wp_value (v := .int .i64 ((R.length : Int) + 4)) ?_ (hK _ _ rfl (grown_refl W _))
              simp only [execOp, e88]
              try go_simp
              try (first | rfl | omega | (simp only [IntKind.wrap_i64, IntKind.wrap_u8, IntKind.wrap_u64, IntKind.wrap_u16, IntKind.wrap_u32]; omega) | (rw [Int.tmod_eq_emod_of_nonneg (by omega)]) | (rw [Int.tmod_eq_emod_of_nonneg (by omega)]; omega))
            · intro a vs W hX hR he hf K hK
              rw [if_pos (wanted_none rfl)]
              have e84 : a.eval (.tmp 84) = str src := (he 1 84 (by kernel_rfl) rfl).trans (hR 1 (by kernel_rfl))
              have e86 : a.eval (.tmp 86) = str dst := (he 3 86 (by kernel_rfl) rfl).trans (hR 3 (by kernel_rfl))
              have e89 : a.eval (.tmp 89) = .int .i64 ((R.length : Int) + 4) := (he 6 89 (by kernel_rfl) rfl).trans (hR 6 (by kernel_rfl))
              refine wp_enter (f := 25) (args := #[str src, str dst, .int .i64 58, .int .i64 ((R.length : Int) + 4)]) (by simp only [execOp, e84, e86, e89]; go_simp; exact ⟨by simpa [Act.eval] using e84, by simpa [Act.eval] using e86, by simpa [Act.eval] using e89⟩) ((rpseudo_any src dst 58 ((R.length : Int) + 4) W (by have := HSL.out; omega) (by have := HDL.out; omega) (by omega) (by omega) (by omega) (by omega)).mono ?_)
              rintro e w' ⟨rfl, hb⟩
              exact ⟨_, rfl, hK _ _ (congrArg (fun z => str z) HPS.out) (below_grow hb _)⟩
            · intro a vs W hX hR he hf K hK
              rw [if_pos (wanted_none rfl)]
              have e90 : a.eval (.tmp 90) = str PS := (he 7 90 (by kernel_rfl) rfl).trans (hR 7 (by kernel_rfl))
              refine wp_value (v := str PS) ?_ (hK _ _ rfl (grown_refl W _))
              simp only [execOp, e90]
              try go_simp
              try (first | rfl | omega | (simp only [IntKind.wrap_i64, IntKind.wrap_u8, IntKind.wrap_u64, IntKind.wrap_u16, IntKind.wrap_u32]; omega) | (rw [Int.tmod_eq_emod_of_nonneg (by omega)]) | (rw [Int.tmod_eq_emod_of_nonneg (by omega)]; omega))
            · intro vs w7 hX7 hR
              have q0 := hR 0 (by decide)
              have q1 := hR 1 (by decide)
              have q2 := hR 2 (by decide)
              have q3 := hR 3 (by decide)
              have q4 := hR 4 (by decide)
              have q5 := hR 5 (by decide)
              have q6 := hR 6 (by decide)
              have q7 := hR 7 (by decide)
              have q8 := hR 8 (by decide)
              change vs 0 = .agg (bv src).toArray at q0
              change vs 1 = str src at q1
              change vs 2 = .agg (bv dst).toArray at q2
              change vs 3 = str dst at q3
              change vs 4 = str R at q4
              change vs 5 = .int .i64 (R.length : Int) at q5
              change vs 6 = .int .i64 ((R.length : Int) + 4) at q6
              change vs 7 = str PS at q7
              change vs 8 = str PS at q8
              simp only [putAll, Act.put, List.setIfInBounds_toArray, List.set_cons_zero, List.set_cons_succ, q0, q1, q2, q3, q4, q5, q6, q7, q8]
              clear q0 q1 q2 q3 q4 q5 q6 q7 q8
              clear hR
              have hb := bthen (below_drew wc) (grow_below hX7)
              clear hX7
              replace HW := Lib.hid (bthen HW.out hb)
              replace HB := Lib.hid (HB.out.on hb)
              replace HS := Lib.hid (HS.out.on hb)
              replace HD := Lib.hid (HD.out.on hb)
              clear hb
              go_wp2_with (first
                | (refine wpList_value (by rfl) (exec_add _ _ _ _ rfl Tryd.underlying9 PS FR rfl rfl (by omega)) ?_)
                | (refine wpList_value (by rfl) (exec_add _ _ _ _ rfl Tryd.underlying9 (PS ++ FR) [0, 0] rfl rfl (by simp; omega)) ?_)
                | (refine wpList_value (by rfl) (exec_add _ _ _ _ rfl Tryd.underlying9 (PS ++ (FR ++ [0, 0])) R rfl rfl (by simp; omega)) ?_))
              refine (HRO.out w7).mono ?_
              rintro e w8 ⟨rfl, rfl⟩
              go_wp2_with fail
              refine wp_region_rel (fun A B => A.grownBy B none) (fun A => grown_refl A _) (fun A B C h k => grown_trans h k) (relAt (List.cons (fun v _ => v = .agg (bv src).toArray) (List.cons (fun v _ => v = .agg (bv dst).toArray) (List.cons (fun v _ => v = .agg (head24 src dst).cells.toArray) (List.cons (fun v _ => v = str FR) (List.cons (fun v _ => v = .int .i64 (N : Int)) (List.cons (fun v _ => v = .int .u64 (N : Int)) (List.cons (fun v _ => v = str (toBe 2 N)) (List.cons (fun v _ => v = str (FR ++ toBe 2 N)) (List.cons (fun v _ => v = str R) (List.cons (fun v _ => v = str (FR ++ toBe 2 N ++ R)) (List.cons (fun v _ => v = .tuple #[str PK, .int .i64 PE]) (List.cons (fun v _ => v = str PK) (List.cons (fun v _ => v = .int .i64 PE) (List.cons (fun v _ => v = str PK) (List.cons (fun v _ => v = .int .i64 PE) ([]))))))))))))))))) (MonoL.at_ (.cons (mono_val _) (.cons (mono_val _) (.cons (mono_val _) (.cons (mono_val _) (.cons (mono_val _) (.cons (mono_val _) (.cons (mono_val _) (.cons (mono_val _) (.cons (mono_val _) (.cons (mono_val _) (.cons (mono_val _) (.cons (mono_val _) (.cons (mono_val _) (.cons (mono_val _) (.cons (mono_val _) .nil)))))))))))))))) (by kernel_rfl) (by kernel_rfl) ⟨?_, ?_, ?_, ?_, ?_, ?_, ?_, ?_, ?_, ?_, ?_, ?_, ?_, ?_, ?_, trivial⟩ ?_
              · intro a vs W hX hR he hf K hK
                rw [if_pos (wanted_none rfl)]
                have e4 : a.eval (.tmp 4) = .pointer (some ⟨w.heap.size + 1, 0, none⟩) := hf 4 (by kernel_rfl)
                have hbW := bthen (below_drew _) (grow_below hX)
                exact wp_value (exec_load 26 _ rfl (w.heap.size + 1) e4 26 (bv src) _ (HS.out.on hbW) Tryd.underlying26 rfl (size24 _ HSL.out)) (hK _ _ rfl (grown_refl W _))
              · intro a vs W hX hR he hf K hK
                rw [if_pos (wanted_none rfl)]
                have e5 : a.eval (.tmp 5) = .pointer (some ⟨w.heap.size + 1 + 1, 0, none⟩) := hf 5 (by kernel_rfl)
                have hbW := bthen (below_drew _) (grow_below hX)
                exact wp_value (exec_load 26 _ rfl (w.heap.size + 1 + 1) e5 26 (bv dst) _ (HD.out.on hbW) Tryd.underlying26 rfl (size24 _ HDL.out)) (hK _ _ rfl (grown_refl W _))
              · intro a vs W hX hR he hf K hK
                rw [if_pos (wanted_none rfl)]
                have e98 : a.eval (.tmp 98) = .agg (bv src).toArray := (he 0 98 (by kernel_rfl) rfl).trans (hR 0 (by kernel_rfl))
                have e99 : a.eval (.tmp 99) = .agg (bv dst).toArray := (he 1 99 (by kernel_rfl) rfl).trans (hR 1 (by kernel_rfl))
                have f98 := e98
                simp only [Act.eval, Array.getD_eq_getD_getElem?] at f98
                have f99 := e99
                simp only [Act.eval, Array.getD_eq_getD_getElem?] at f99
                exact wp_value (exec_build24 _ _ rfl src dst HSL.out HDL.out e98 e99) (hK _ _ rfl (grown_refl W _))
              · intro a vs W hX hR he hf K hK
                rw [if_pos (wanted_none rfl)]
                have e12 : a.eval (.tmp 12) = str FR := hf 12 (by kernel_rfl)
                refine wp_value (v := str FR) ?_ (hK _ _ rfl (grown_refl W _))
                simp only [execOp, e12]
                try go_simp
                try (first | rfl | omega | (simp only [IntKind.wrap_i64, IntKind.wrap_u8, IntKind.wrap_u64, IntKind.wrap_u16, IntKind.wrap_u32]; omega) | (rw [Int.tmod_eq_emod_of_nonneg (by omega)]) | (rw [Int.tmod_eq_emod_of_nonneg (by omega)]; omega))
              · intro a vs W hX hR he hf K hK
                rw [if_pos (wanted_none rfl)]
                have e15 : a.eval (.tmp 15) = .int .i64 (N : Int) := hf 15 (by kernel_rfl)
                refine wp_value (v := .int .i64 (N : Int)) ?_ (hK _ _ rfl (grown_refl W _))
                simp only [execOp, e15]
                try go_simp
                try (first | rfl | omega | (simp only [IntKind.wrap_i64, IntKind.wrap_u8, IntKind.wrap_u64, IntKind.wrap_u16, IntKind.wrap_u32]; omega) | (rw [Int.tmod_eq_emod_of_nonneg (by omega)]) | (rw [Int.tmod_eq_emod_of_nonneg (by omega)]; omega))
              · intro a vs W hX hR he hf K hK
                rw [if_pos (wanted_none rfl)]
                have e102 : a.eval (.tmp 102) = .int .i64 (N : Int) := (he 4 102 (by kernel_rfl) rfl).trans (hR 4 (by kernel_rfl))
                refine wp_value (v := .int .u64 (N : Int)) ?_ (hK _ _ rfl (grown_refl W _))
                simp only [execOp, e102]
                try go_simp
                try (first | rfl | omega | (simp only [IntKind.wrap_i64, IntKind.wrap_u8, IntKind.wrap_u64, IntKind.wrap_u16, IntKind.wrap_u32]; omega) | (rw [Int.tmod_eq_emod_of_nonneg (by omega)]) | (rw [Int.tmod_eq_emod_of_nonneg (by omega)]; omega))
              · intro a vs W hX hR he hf K hK
                rw [if_pos (wanted_none rfl)]
                have e103 : a.eval (.tmp 103) = .int .u64 (N : Int) := (he 5 103 (by kernel_rfl) rfl).trans (hR 5 (by kernel_rfl))
                refine wp_enter (f := 24) (args := #[.int .u64 (N : Int), .int .i64 2]) (by simp only [execOp, e103]; go_simp; simpa [Act.eval] using e103) ((bytes_any (N : Int) 2 W (by omega) (by omega) (by omega) (by omega)).mono ?_)
                rintro e w' ⟨rfl, hb⟩
                exact ⟨_, rfl, hK _ _ rfl (below_grow hb _)⟩
              · intro a vs W hX hR he hf K hK
                rw [if_pos (wanted_none rfl)]
                have e101 : a.eval (.tmp 101) = str FR := (he 3 101 (by kernel_rfl) rfl).trans (hR 3 (by kernel_rfl))
                have e104 : a.eval (.tmp 104) = str (toBe 2 N) := (he 6 104 (by kernel_rfl) rfl).trans (hR 6 (by kernel_rfl))
                exact wp_value (exec_add _ _ _ _ rfl Tryd.underlying9 (FR) (toBe 2 N) e101 e104 (by simp [toBe_length] <;> omega)) (hK _ _ rfl (grown_refl W _))
              · intro a vs W hX hR he hf K hK
                rw [if_pos (wanted_none rfl)]
                have e13 : a.eval (.tmp 13) = str R := hf 13 (by kernel_rfl)
                refine wp_value (v := str R) ?_ (hK _ _ rfl (grown_refl W _))
                simp only [execOp, e13]
                try go_simp
                try (first | rfl | omega | (simp only [IntKind.wrap_i64, IntKind.wrap_u8, IntKind.wrap_u64, IntKind.wrap_u16, IntKind.wrap_u32]; omega) | (rw [Int.tmod_eq_emod_of_nonneg (by omega)]) | (rw [Int.tmod_eq_emod_of_nonneg (by omega)]; omega))
              · intro a vs W hX hR he hf K hK
                rw [if_pos (wanted_none rfl)]
                have e105 : a.eval (.tmp 105) = str (FR ++ toBe 2 N) := (he 7 105 (by kernel_rfl) rfl).trans (hR 7 (by kernel_rfl))
                have e106 : a.eval (.tmp 106) = str R := (he 8 106 (by kernel_rfl) rfl).trans (hR 8 (by kernel_rfl))
                exact wp_value (exec_add _ _ _ _ rfl Tryd.underlying9 (FR ++ toBe 2 N) (R) e105 e106 (by simp [toBe_length] <;> omega)) (hK _ _ rfl (grown_refl W _))
              · intro a vs W hX hR he hf K hK
                rw [if_pos (wanted_none rfl)]
                have e100 : a.eval (.tmp 100) = .agg (head24 src dst).cells.toArray := (he 2 100 (by kernel_rfl) rfl).trans (hR 2 (by kernel_rfl))
                have e107 : a.eval (.tmp 107) = str (FR ++ toBe 2 N ++ R) := (he 9 107 (by kernel_rfl) rfl).trans (hR 9 (by kernel_rfl))
                refine wp_enter (f := 28) (args := #[.agg (head24 src dst).cells.toArray, str (FR ++ toBe 2 N ++ R)]) (by simp only [execOp, e100, e107]; go_simp; exact ⟨by simpa [Act.eval] using e100, by simpa [Act.eval] using e107⟩) ((rput6_any (head24 src dst) HHF.out (FR ++ toBe 2 N ++ R) W (by simp [toBe_length] <;> omega)).mono ?_)
                rintro e w' ⟨rfl, hb⟩
                exact ⟨_, rfl, hK _ _ (congrArg (fun z : List UInt8 × Int => Value.tuple #[str z.1, .int .i64 z.2]) HPK.out) (below_grow hb _)⟩
              · intro a vs W hX hR he hf K hK
                rw [if_pos (wanted_none rfl)]
                have e108 : a.eval (.tmp 108) = .tuple #[str PK, .int .i64 PE] := (he 10 108 (by kernel_rfl) rfl).trans (hR 10 (by kernel_rfl))
                refine wp_value (v := str PK) ?_ (hK _ _ rfl (grown_refl W _))
                simp only [execOp, e108]
                try go_simp
                try (first | rfl | omega | (simp only [IntKind.wrap_i64, IntKind.wrap_u8, IntKind.wrap_u64, IntKind.wrap_u16, IntKind.wrap_u32]; omega) | (rw [Int.tmod_eq_emod_of_nonneg (by omega)]) | (rw [Int.tmod_eq_emod_of_nonneg (by omega)]; omega))
              · intro a vs W hX hR he hf K hK
                rw [if_pos (wanted_none rfl)]
                have e108 : a.eval (.tmp 108) = .tuple #[str PK, .int .i64 PE] := (he 10 108 (by kernel_rfl) rfl).trans (hR 10 (by kernel_rfl))
                refine wp_value (v := .int .i64 PE) ?_ (hK _ _ rfl (grown_refl W _))
                simp only [execOp, e108]
                try go_simp
                try (first | rfl | omega | (simp only [IntKind.wrap_i64, IntKind.wrap_u8, IntKind.wrap_u64, IntKind.wrap_u16, IntKind.wrap_u32]; omega) | (rw [Int.tmod_eq_emod_of_nonneg (by omega)]) | (rw [Int.tmod_eq_emod_of_nonneg (by omega)]; omega))
              · intro a vs W hX hR he hf K hK
                rw [if_pos (wanted_none rfl)]
                have e109 : a.eval (.tmp 109) = str PK := (he 11 109 (by kernel_rfl) rfl).trans (hR 11 (by kernel_rfl))
                refine wp_value (v := str PK) ?_ (hK _ _ rfl (grown_refl W _))
                simp only [execOp, e109]
                try go_simp
                try (first | rfl | omega | (simp only [IntKind.wrap_i64, IntKind.wrap_u8, IntKind.wrap_u64, IntKind.wrap_u16, IntKind.wrap_u32]; omega) | (rw [Int.tmod_eq_emod_of_nonneg (by omega)]) | (rw [Int.tmod_eq_emod_of_nonneg (by omega)]; omega))
              · intro a vs W hX hR he hf K hK
                rw [if_pos (wanted_none rfl)]
                have e110 : a.eval (.tmp 110) = .int .i64 PE := (he 12 110 (by kernel_rfl) rfl).trans (hR 12 (by kernel_rfl))
                refine wp_value (v := .int .i64 PE) ?_ (hK _ _ rfl (grown_refl W _))
                simp only [execOp, e110]
                try go_simp
                try (first | rfl | omega | (simp only [IntKind.wrap_i64, IntKind.wrap_u8, IntKind.wrap_u64, IntKind.wrap_u16, IntKind.wrap_u32]; omega) | (rw [Int.tmod_eq_emod_of_nonneg (by omega)]) | (rw [Int.tmod_eq_emod_of_nonneg (by omega)]; omega))
              · intro vs w9 hX9 hR
                have q0 := hR 0 (by decide)
                have q1 := hR 1 (by decide)
                have q2 := hR 2 (by decide)
                have q3 := hR 3 (by decide)
                have q4 := hR 4 (by decide)
                have q5 := hR 5 (by decide)
                have q6 := hR 6 (by decide)
                have q7 := hR 7 (by decide)
                have q8 := hR 8 (by decide)
                have q9 := hR 9 (by decide)
                have q10 := hR 10 (by decide)
                have q11 := hR 11 (by decide)
                have q12 := hR 12 (by decide)
                have q13 := hR 13 (by decide)
                have q14 := hR 14 (by decide)
                change vs 0 = .agg (bv src).toArray at q0
                change vs 1 = .agg (bv dst).toArray at q1
                change vs 2 = .agg (head24 src dst).cells.toArray at q2
                change vs 3 = str FR at q3
                change vs 4 = .int .i64 (N : Int) at q4
                change vs 5 = .int .u64 (N : Int) at q5
                change vs 6 = str (toBe 2 N) at q6
                change vs 7 = str (FR ++ toBe 2 N) at q7
                change vs 8 = str R at q8
                change vs 9 = str (FR ++ toBe 2 N ++ R) at q9
                change vs 10 = .tuple #[str PK, .int .i64 PE] at q10
                change vs 11 = str PK at q11
                change vs 12 = .int .i64 PE at q12
                change vs 13 = str PK at q13
                change vs 14 = .int .i64 PE at q14
                simp only [putAll, Act.put, List.setIfInBounds_toArray, List.set_cons_zero, List.set_cons_succ, q0, q1, q2, q3, q4, q5, q6, q7, q8, q9, q10, q11, q12, q13, q14]
                clear q0 q1 q2 q3 q4 q5 q6 q7 q8 q9 q10 q11 q12 q13 q14
                clear hR
                have hb := bthen (below_drew w7) (grow_below hX9)
                clear hX9
                replace HW := Lib.hid (bthen HW.out hb)
                replace HB := Lib.hid (HB.out.on hb)
                replace HS := Lib.hid (HS.out.on hb)
                replace HD := Lib.hid (HD.out.on hb)
                clear hb
                go_wp2_with fail
                go_ret2
                exact ⟨by rw [HNO.out]; rfl, HW.out⟩
        · have h5' : (m.kind != 1) = true := by simpa [bne] using h5
          have h5'' : (m.kind == 1) = false := by simpa using h5
          clear h5 hn0
          go_enter Tryd.func9, Tryd.ntmps9
          go_upto_region 1 with (first
            | (refine wpList_box_blk (by rfl) 34 _ rfl m.cells rfl ?_; intro w1 hk1 hB1 hs1)
            | (refine wpList_box_blk (by rfl) 26 _ rfl (bv src) rfl ?_; intro w2 hk2 hB2 hs2)
            | (refine wpList_box_blk (by rfl) 26 _ rfl (bv dst) rfl ?_; intro w3 hk3 hB3 hs3))
          have hk13 := (hk1.on hB2).on hB3
          have d0 : w3.cell? ⟨w.heap.size, 0, none⟩ = some (.int .i64 m.kind) := hk13.cell 0
          have d1 : w3.cell? ⟨w.heap.size, 1, none⟩ = some (.int .i64 m.mtu) := hk13.cell 1
          have d3 : w3.cell? ⟨w.heap.size, 3, none⟩ = some (.slice m.A m.n m.c) := hk13.cell 3
          go_wp2_with fail
          have HW := Lib.hid (bthen (bthen hB1 hB2) hB3)
          have HB := Lib.hid ((hk1.on hB2).on hB3)
          rw [hs1] at hk2
          have HS := Lib.hid (hk2.on hB3)
          rw [hs2, hs1] at hk3
          have HD := Lib.hid hk3
          clear d0 d1 d3 hk13 hk1 hk2 hk3 hs1 hs2 hs3 hB1 hB2 hB3
          refine (HSX.out w3 HW.out).mono ?_
          rintro e w4 ⟨rfl, hb⟩
          replace HW := Lib.hid (bthen HW.out hb)
          replace HB := Lib.hid (HB.out.on hb)
          replace HS := Lib.hid (HS.out.on hb)
          replace HD := Lib.hid (HD.out.on hb)
          clear hb
          have d1 : w4.cell? ⟨w.heap.size, 1, none⟩ = some (.int .i64 m.mtu) := HB.out.cell 1
          go_wp2_with fail
          clear d1
          refine (bytes_any m.mtu 4 w4 (by omega) (by omega) (by omega) (by omega)).mono ?_
          rintro e w5 ⟨rfl, hb⟩
          rw [show ((4 : Int)).toNat = 4 from rfl]
          replace HW := Lib.hid (bthen HW.out hb)
          replace HB := Lib.hid (HB.out.on hb)
          replace HS := Lib.hid (HS.out.on hb)
          replace HD := Lib.hid (HD.out.on hb)
          clear hb
          have d0 : w5.cell? ⟨w.heap.size, 0, none⟩ = some (.int .i64 m.kind) := HB.out.cell 0
          go_upto_region 11 with fail
          go_cut [12] (fun c wx => c = str FR ∧ Below w5.heap.size w5 wx)
          case first =>
            rcases (show m.kind = 0 ∨ m.kind = 1 ∨ m.kind = 2 by omega) with hk | hk | hk
            all_goals
              have hfr := HFR.out
              rw [hk] at hfr
              have dA : ∀ (C : Array Value) (T : TypeId), (w5.alloc (.cells C T)).cell? ⟨w.heap.size, 0, none⟩ = some (.int .i64 m.kind) := fun C T => (HB.out.on (alloc_below _ _)).cell 0
              simp only [hk] at dA
              go_wp2_with fail
              go_meet
              exact ⟨by rw [← hfr]; rfl, alloc_below _ _⟩
          case rest =>
            obtain ⟨hu, hb⟩ := hcut
            subst hu
            clear d0
            have hwc : Below w5.heap.size w5 wc := hb
            replace HW := Lib.hid (bthen HW.out hb)
            replace HB := Lib.hid (HB.out.on hb)
            replace HS := Lib.hid (HS.out.on hb)
            replace HD := Lib.hid (HD.out.on hb)
            clear hb
            clear hwc
            have d2 : wc.cell? ⟨w.heap.size, 2, none⟩ = some (str m.beg) := HB.out.cell 2
            go_wp2_with fail
            clear d2
            refine (begin24_any m.beg false HM.out wc).mono ?_
            rintro e w6 ⟨rfl, rfl⟩
            rw [HBG.out]
            go_wp2_with (first
              | (refine wpList_value (by rfl) (exec_add _ _ _ _ rfl Tryd.underlying9 (toBe 4 m.mtu.toNat) BG rfl rfl (by simp [toBe_length] <;> omega)) ?_)
              | (refine wpList_value (by rfl) (exec_add _ _ _ _ rfl Tryd.underlying9 (toBe 4 m.mtu.toNat ++ BG) ([]) rfl rfl (by simp [toBe_length] <;> omega)) ?_))
            rw [HRR.out]
            refine wp_region_rel (fun A B => A.grownBy B none) (fun A => grown_refl A _) (fun A B C h k => grown_trans h k) (relAt (List.cons (fun v _ => v = .agg (bv src).toArray) (List.cons (fun v _ => v = str src) (List.cons (fun v _ => v = .agg (bv dst).toArray) (List.cons (fun v _ => v = str dst) (List.cons (fun v _ => v = str R) (List.cons (fun v _ => v = .int .i64 (R.length : Int)) (List.cons (fun v _ => v = .int .i64 ((R.length : Int) + 4)) (List.cons (fun v _ => v = str PS) (List.cons (fun v _ => v = str PS) ([]))))))))))) (MonoL.at_ (.cons (mono_val _) (.cons (mono_val _) (.cons (mono_val _) (.cons (mono_val _) (.cons (mono_val _) (.cons (mono_val _) (.cons (mono_val _) (.cons (mono_val _) (.cons (mono_val _) .nil)))))))))) (by kernel_rfl) (by kernel_rfl) ⟨?_, ?_, ?_, ?_, ?_, ?_, ?_, ?_, ?_, trivial⟩ ?_
            · intro a vs W hX hR he hf K hK
              rw [if_pos (wanted_none rfl)]
              have e4 : a.eval (.tmp 4) = .pointer (some ⟨w.heap.size + 1, 0, none⟩) := hf 4 (by kernel_rfl)
              have hbW := bthen (below_drew _) (grow_below hX)
              exact wp_value (exec_load 26 _ rfl (w.heap.size + 1) e4 26 (bv src) _ (HS.out.on hbW) Tryd.underlying26 rfl (size24 _ HSL.out)) (hK _ _ rfl (grown_refl W _))
            · intro a vs W hX hR he hf K hK
              rw [if_pos (wanted_none rfl)]
              have e83 : a.eval (.tmp 83) = .agg (bv src).toArray := (he 0 83 (by kernel_rfl) rfl).trans (hR 0 (by kernel_rfl))
              refine wp_enter (f := 26) (args := #[.agg (bv src).toArray]) (by simp only [execOp, e83]; go_simp; simpa [Act.eval] using e83) ((text_any src W HSL.out).mono ?_)
              rintro e w' ⟨rfl, hb⟩
              exact ⟨_, rfl, hK _ _ rfl (below_grow hb _)⟩
            · intro a vs W hX hR he hf K hK
              rw [if_pos (wanted_none rfl)]
              have e5 : a.eval (.tmp 5) = .pointer (some ⟨w.heap.size + 1 + 1, 0, none⟩) := hf 5 (by kernel_rfl)
              have hbW := bthen (below_drew _) (grow_below hX)
              exact wp_value (exec_load 26 _ rfl (w.heap.size + 1 + 1) e5 26 (bv dst) _ (HD.out.on hbW) Tryd.underlying26 rfl (size24 _ HDL.out)) (hK _ _ rfl (grown_refl W _))
            · intro a vs W hX hR he hf K hK
              rw [if_pos (wanted_none rfl)]
              have e85 : a.eval (.tmp 85) = .agg (bv dst).toArray := (he 2 85 (by kernel_rfl) rfl).trans (hR 2 (by kernel_rfl))
              refine wp_enter (f := 26) (args := #[.agg (bv dst).toArray]) (by simp only [execOp, e85]; go_simp; simpa [Act.eval] using e85) ((text_any dst W HDL.out).mono ?_)
              rintro e w' ⟨rfl, hb⟩
              exact ⟨_, rfl, hK _ _ rfl (below_grow hb _)⟩
            · intro a vs W hX hR he hf K hK
              rw [if_pos (wanted_none rfl)]
              have e13 : a.eval (.tmp 13) = str R := hf 13 (by kernel_rfl)
              refine wp_value (v := str R) ?_ (hK _ _ rfl (grown_refl W _))
              simp only [execOp, e13]
              try go_simp
              try (first | rfl | omega | (simp only [IntKind.wrap_i64, IntKind.wrap_u8, IntKind.wrap_u64, IntKind.wrap_u16, IntKind.wrap_u32]; omega) | (rw [Int.tmod_eq_emod_of_nonneg (by omega)]) | (rw [Int.tmod_eq_emod_of_nonneg (by omega)]; omega))
            · intro a vs W hX hR he hf K hK
              rw [if_pos (wanted_none rfl)]
              have e87 : a.eval (.tmp 87) = str R := (he 4 87 (by kernel_rfl) rfl).trans (hR 4 (by kernel_rfl))
              have f87 := e87
              simp only [Act.eval, Array.getD_eq_getD_getElem?] at f87
              refine wp_value (v := .int .i64 (R.length : Int)) ?_ (hK _ _ rfl (grown_refl W _))
              simp only [execOp, e87]
              try go_simp
              try (first | rfl | omega | (simp only [IntKind.wrap_i64, IntKind.wrap_u8, IntKind.wrap_u64, IntKind.wrap_u16, IntKind.wrap_u32]; omega) | (rw [Int.tmod_eq_emod_of_nonneg (by omega)]) | (rw [Int.tmod_eq_emod_of_nonneg (by omega)]; omega))
            · intro a vs W hX hR he hf K hK
              rw [if_pos (wanted_none rfl)]
              have e88 : a.eval (.tmp 88) = .int .i64 (R.length : Int) := (he 5 88 (by kernel_rfl) rfl).trans (hR 5 (by kernel_rfl))
              refine wp_value (v := .int .i64 ((R.length : Int) + 4)) ?_ (hK _ _ rfl (grown_refl W _))
              simp only [execOp, e88]
              try go_simp
              try (first | rfl | omega | (simp only [IntKind.wrap_i64, IntKind.wrap_u8, IntKind.wrap_u64, IntKind.wrap_u16, IntKind.wrap_u32]; omega) | (rw [Int.tmod_eq_emod_of_nonneg (by omega)]) | (rw [Int.tmod_eq_emod_of_nonneg (by omega)]; omega))
            · intro a vs W hX hR he hf K hK
              rw [if_pos (wanted_none rfl)]
              have e84 : a.eval (.tmp 84) = str src := (he 1 84 (by kernel_rfl) rfl).trans (hR 1 (by kernel_rfl))
              have e86 : a.eval (.tmp 86) = str dst := (he 3 86 (by kernel_rfl) rfl).trans (hR 3 (by kernel_rfl))
              have e89 : a.eval (.tmp 89) = .int .i64 ((R.length : Int) + 4) := (he 6 89 (by kernel_rfl) rfl).trans (hR 6 (by kernel_rfl))
              refine wp_enter (f := 25) (args := #[str src, str dst, .int .i64 58, .int .i64 ((R.length : Int) + 4)]) (by simp only [execOp, e84, e86, e89]; go_simp; exact ⟨by simpa [Act.eval] using e84, by simpa [Act.eval] using e86, by simpa [Act.eval] using e89⟩) ((rpseudo_any src dst 58 ((R.length : Int) + 4) W (by have := HSL.out; omega) (by have := HDL.out; omega) (by omega) (by omega) (by omega) (by omega)).mono ?_)
              rintro e w' ⟨rfl, hb⟩
              exact ⟨_, rfl, hK _ _ (congrArg (fun z => str z) HPS.out) (below_grow hb _)⟩
            · intro a vs W hX hR he hf K hK
              rw [if_pos (wanted_none rfl)]
              have e90 : a.eval (.tmp 90) = str PS := (he 7 90 (by kernel_rfl) rfl).trans (hR 7 (by kernel_rfl))
              refine wp_value (v := str PS) ?_ (hK _ _ rfl (grown_refl W _))
              simp only [execOp, e90]
              try go_simp
              try (first | rfl | omega | (simp only [IntKind.wrap_i64, IntKind.wrap_u8, IntKind.wrap_u64, IntKind.wrap_u16, IntKind.wrap_u32]; omega) | (rw [Int.tmod_eq_emod_of_nonneg (by omega)]) | (rw [Int.tmod_eq_emod_of_nonneg (by omega)]; omega))
            · intro vs w7 hX7 hR
              have q0 := hR 0 (by decide)
              have q1 := hR 1 (by decide)
              have q2 := hR 2 (by decide)
              have q3 := hR 3 (by decide)
              have q4 := hR 4 (by decide)
              have q5 := hR 5 (by decide)
              have q6 := hR 6 (by decide)
              have q7 := hR 7 (by decide)
              have q8 := hR 8 (by decide)
              change vs 0 = .agg (bv src).toArray at q0
              change vs 1 = str src at q1
              change vs 2 = .agg (bv dst).toArray at q2
              change vs 3 = str dst at q3
              change vs 4 = str R at q4
              change vs 5 = .int .i64 (R.length : Int) at q5
              change vs 6 = .int .i64 ((R.length : Int) + 4) at q6
              change vs 7 = str PS at q7
              change vs 8 = str PS at q8
              simp only [putAll, Act.put, List.setIfInBounds_toArray, List.set_cons_zero, List.set_cons_succ, q0, q1, q2, q3, q4, q5, q6, q7, q8]
              clear q0 q1 q2 q3 q4 q5 q6 q7 q8
              clear hR
              have hb := bthen (below_drew wc) (grow_below hX7)
              clear hX7
              replace HW := Lib.hid (bthen HW.out hb)
              replace HB := Lib.hid (HB.out.on hb)
              replace HS := Lib.hid (HS.out.on hb)
              replace HD := Lib.hid (HD.out.on hb)
              clear hb
              go_wp2_with (first
                | (refine wpList_value (by rfl) (exec_add _ _ _ _ rfl Tryd.underlying9 PS FR rfl rfl (by omega)) ?_)
                | (refine wpList_value (by rfl) (exec_add _ _ _ _ rfl Tryd.underlying9 (PS ++ FR) [0, 0] rfl rfl (by simp; omega)) ?_)
                | (refine wpList_value (by rfl) (exec_add _ _ _ _ rfl Tryd.underlying9 (PS ++ (FR ++ [0, 0])) R rfl rfl (by simp; omega)) ?_))
              refine (HRO.out w7).mono ?_
              rintro e w8 ⟨rfl, rfl⟩
              go_wp2_with fail
              refine wp_region_rel (fun A B => A.grownBy B none) (fun A => grown_refl A _) (fun A B C h k => grown_trans h k) (relAt (List.cons (fun v _ => v = .agg (bv src).toArray) (List.cons (fun v _ => v = .agg (bv dst).toArray) (List.cons (fun v _ => v = .agg (head24 src dst).cells.toArray) (List.cons (fun v _ => v = str FR) (List.cons (fun v _ => v = .int .i64 (N : Int)) (List.cons (fun v _ => v = .int .u64 (N : Int)) (List.cons (fun v _ => v = str (toBe 2 N)) (List.cons (fun v _ => v = str (FR ++ toBe 2 N)) (List.cons (fun v _ => v = str R) (List.cons (fun v _ => v = str (FR ++ toBe 2 N ++ R)) (List.cons (fun v _ => v = .tuple #[str PK, .int .i64 PE]) (List.cons (fun v _ => v = str PK) (List.cons (fun v _ => v = .int .i64 PE) (List.cons (fun v _ => v = str PK) (List.cons (fun v _ => v = .int .i64 PE) ([]))))))))))))))))) (MonoL.at_ (.cons (mono_val _) (.cons (mono_val _) (.cons (mono_val _) (.cons (mono_val _) (.cons (mono_val _) (.cons (mono_val _) (.cons (mono_val _) (.cons (mono_val _) (.cons (mono_val _) (.cons (mono_val _) (.cons (mono_val _) (.cons (mono_val _) (.cons (mono_val _) (.cons (mono_val _) (.cons (mono_val _) .nil)))))))))))))))) (by kernel_rfl) (by kernel_rfl) ⟨?_, ?_, ?_, ?_, ?_, ?_, ?_, ?_, ?_, ?_, ?_, ?_, ?_, ?_, ?_, trivial⟩ ?_
              · intro a vs W hX hR he hf K hK
                rw [if_pos (wanted_none rfl)]
                have e4 : a.eval (.tmp 4) = .pointer (some ⟨w.heap.size + 1, 0, none⟩) := hf 4 (by kernel_rfl)
                have hbW := bthen (below_drew _) (grow_below hX)
                exact wp_value (exec_load 26 _ rfl (w.heap.size + 1) e4 26 (bv src) _ (HS.out.on hbW) Tryd.underlying26 rfl (size24 _ HSL.out)) (hK _ _ rfl (grown_refl W _))
              · intro a vs W hX hR he hf K hK
                rw [if_pos (wanted_none rfl)]
                have e5 : a.eval (.tmp 5) = .pointer (some ⟨w.heap.size + 1 + 1, 0, none⟩) := hf 5 (by kernel_rfl)
                have hbW := bthen (below_drew _) (grow_below hX)
                exact wp_value (exec_load 26 _ rfl (w.heap.size + 1 + 1) e5 26 (bv dst) _ (HD.out.on hbW) Tryd.underlying26 rfl (size24 _ HDL.out)) (hK _ _ rfl (grown_refl W _))
              · intro a vs W hX hR he hf K hK
                rw [if_pos (wanted_none rfl)]
                have e98 : a.eval (.tmp 98) = .agg (bv src).toArray := (he 0 98 (by kernel_rfl) rfl).trans (hR 0 (by kernel_rfl))
                have e99 : a.eval (.tmp 99) = .agg (bv dst).toArray := (he 1 99 (by kernel_rfl) rfl).trans (hR 1 (by kernel_rfl))
                have f98 := e98
                simp only [Act.eval, Array.getD_eq_getD_getElem?] at f98
                have f99 := e99
                simp only [Act.eval, Array.getD_eq_getD_getElem?] at f99
                exact wp_value (exec_build24 _ _ rfl src dst HSL.out HDL.out e98 e99) (hK _ _ rfl (grown_refl W _))
              · intro a vs W hX hR he hf K hK
                rw [if_pos (wanted_none rfl)]
                have e12 : a.eval (.tmp 12) = str FR := hf 12 (by kernel_rfl)
                refine wp_value (v := str FR) ?_ (hK _ _ rfl (grown_refl W _))
                simp only [execOp, e12]
                try go_simp
                try (first | rfl | omega | (simp only [IntKind.wrap_i64, IntKind.wrap_u8, IntKind.wrap_u64, IntKind.wrap_u16, IntKind.wrap_u32]; omega) | (rw [Int.tmod_eq_emod_of_nonneg (by omega)]) | (rw [Int.tmod_eq_emod_of_nonneg (by omega)]; omega))
              · intro a vs W hX hR he hf K hK
                rw [if_pos (wanted_none rfl)]
                have e15 : a.eval (.tmp 15) = .int .i64 (N : Int) := hf 15 (by kernel_rfl)
                refine wp_value (v := .int .i64 (N : Int)) ?_ (hK _ _ rfl (grown_refl W _))
                simp only [execOp, e15]
                try go_simp
                try (first | rfl | omega | (simp only [IntKind.wrap_i64, IntKind.wrap_u8, IntKind.wrap_u64, IntKind.wrap_u16, IntKind.wrap_u32]; omega) | (rw [Int.tmod_eq_emod_of_nonneg (by omega)]) | (rw [Int.tmod_eq_emod_of_nonneg (by omega)]; omega))
              · intro a vs W hX hR he hf K hK
                rw [if_pos (wanted_none rfl)]
                have e102 : a.eval (.tmp 102) = .int .i64 (N : Int) := (he 4 102 (by kernel_rfl) rfl).trans (hR 4 (by kernel_rfl))
                refine wp_value (v := .int .u64 (N : Int)) ?_ (hK _ _ rfl (grown_refl W _))
                simp only [execOp, e102]
                try go_simp
                try (first | rfl | omega | (simp only [IntKind.wrap_i64, IntKind.wrap_u8, IntKind.wrap_u64, IntKind.wrap_u16, IntKind.wrap_u32]; omega) | (rw [Int.tmod_eq_emod_of_nonneg (by omega)]) | (rw [Int.tmod_eq_emod_of_nonneg (by omega)]; omega))
              · intro a vs W hX hR he hf K hK
                rw [if_pos (wanted_none rfl)]
                have e103 : a.eval (.tmp 103) = .int .u64 (N : Int) := (he 5 103 (by kernel_rfl) rfl).trans (hR 5 (by kernel_rfl))
                refine wp_enter (f := 24) (args := #[.int .u64 (N : Int), .int .i64 2]) (by simp only [execOp, e103]; go_simp; simpa [Act.eval] using e103) ((bytes_any (N : Int) 2 W (by omega) (by omega) (by omega) (by omega)).mono ?_)
                rintro e w' ⟨rfl, hb⟩
                exact ⟨_, rfl, hK _ _ rfl (below_grow hb _)⟩
              · intro a vs W hX hR he hf K hK
                rw [if_pos (wanted_none rfl)]
                have e101 : a.eval (.tmp 101) = str FR := (he 3 101 (by kernel_rfl) rfl).trans (hR 3 (by kernel_rfl))
                have e104 : a.eval (.tmp 104) = str (toBe 2 N) := (he 6 104 (by kernel_rfl) rfl).trans (hR 6 (by kernel_rfl))
                exact wp_value (exec_add _ _ _ _ rfl Tryd.underlying9 (FR) (toBe 2 N) e101 e104 (by simp [toBe_length] <;> omega)) (hK _ _ rfl (grown_refl W _))
              · intro a vs W hX hR he hf K hK
                rw [if_pos (wanted_none rfl)]
                have e13 : a.eval (.tmp 13) = str R := hf 13 (by kernel_rfl)
                refine wp_value (v := str R) ?_ (hK _ _ rfl (grown_refl W _))
                simp only [execOp, e13]
                try go_simp
                try (first | rfl | omega | (simp only [IntKind.wrap_i64, IntKind.wrap_u8, IntKind.wrap_u64, IntKind.wrap_u16, IntKind.wrap_u32]; omega) | (rw [Int.tmod_eq_emod_of_nonneg (by omega)]) | (rw [Int.tmod_eq_emod_of_nonneg (by omega)]; omega))
              · intro a vs W hX hR he hf K hK
                rw [if_pos (wanted_none rfl)]
                have e105 : a.eval (.tmp 105) = str (FR ++ toBe 2 N) := (he 7 105 (by kernel_rfl) rfl).trans (hR 7 (by kernel_rfl))
                have e106 : a.eval (.tmp 106) = str R := (he 8 106 (by kernel_rfl) rfl).trans (hR 8 (by kernel_rfl))
                exact wp_value (exec_add _ _ _ _ rfl Tryd.underlying9 (FR ++ toBe 2 N) (R) e105 e106 (by simp [toBe_length] <;> omega)) (hK _ _ rfl (grown_refl W _))
              · intro a vs W hX hR he hf K hK
                rw [if_pos (wanted_none rfl)]
                have e100 : a.eval (.tmp 100) = .agg (head24 src dst).cells.toArray := (he 2 100 (by kernel_rfl) rfl).trans (hR 2 (by kernel_rfl))
                have e107 : a.eval (.tmp 107) = str (FR ++ toBe 2 N ++ R) := (he 9 107 (by kernel_rfl) rfl).trans (hR 9 (by kernel_rfl))
                refine wp_enter (f := 28) (args := #[.agg (head24 src dst).cells.toArray, str (FR ++ toBe 2 N ++ R)]) (by simp only [execOp, e100, e107]; go_simp; exact ⟨by simpa [Act.eval] using e100, by simpa [Act.eval] using e107⟩) ((rput6_any (head24 src dst) HHF.out (FR ++ toBe 2 N ++ R) W (by simp [toBe_length] <;> omega)).mono ?_)
                rintro e w' ⟨rfl, hb⟩
                exact ⟨_, rfl, hK _ _ (congrArg (fun z : List UInt8 × Int => Value.tuple #[str z.1, .int .i64 z.2]) HPK.out) (below_grow hb _)⟩
              · intro a vs W hX hR he hf K hK
                rw [if_pos (wanted_none rfl)]
                have e108 : a.eval (.tmp 108) = .tuple #[str PK, .int .i64 PE] := (he 10 108 (by kernel_rfl) rfl).trans (hR 10 (by kernel_rfl))
                refine wp_value (v := str PK) ?_ (hK _ _ rfl (grown_refl W _))
                simp only [execOp, e108]
                try go_simp
                try (first | rfl | omega | (simp only [IntKind.wrap_i64, IntKind.wrap_u8, IntKind.wrap_u64, IntKind.wrap_u16, IntKind.wrap_u32]; omega) | (rw [Int.tmod_eq_emod_of_nonneg (by omega)]) | (rw [Int.tmod_eq_emod_of_nonneg (by omega)]; omega))
              · intro a vs W hX hR he hf K hK
                rw [if_pos (wanted_none rfl)]
                have e108 : a.eval (.tmp 108) = .tuple #[str PK, .int .i64 PE] := (he 10 108 (by kernel_rfl) rfl).trans (hR 10 (by kernel_rfl))
                refine wp_value (v := .int .i64 PE) ?_ (hK _ _ rfl (grown_refl W _))
                simp only [execOp, e108]
                try go_simp
                try (first | rfl | omega | (simp only [IntKind.wrap_i64, IntKind.wrap_u8, IntKind.wrap_u64, IntKind.wrap_u16, IntKind.wrap_u32]; omega) | (rw [Int.tmod_eq_emod_of_nonneg (by omega)]) | (rw [Int.tmod_eq_emod_of_nonneg (by omega)]; omega))
              · intro a vs W hX hR he hf K hK
                rw [if_pos (wanted_none rfl)]
                have e109 : a.eval (.tmp 109) = str PK := (he 11 109 (by kernel_rfl) rfl).trans (hR 11 (by kernel_rfl))
                refine wp_value (v := str PK) ?_ (hK _ _ rfl (grown_refl W _))
                simp only [execOp, e109]
                try go_simp
                try (first | rfl | omega | (simp only [IntKind.wrap_i64, IntKind.wrap_u8, IntKind.wrap_u64, IntKind.wrap_u16, IntKind.wrap_u32]; omega) | (rw [Int.tmod_eq_emod_of_nonneg (by omega)]) | (rw [Int.tmod_eq_emod_of_nonneg (by omega)]; omega))
              · intro a vs W hX hR he hf K hK
                rw [if_pos (wanted_none rfl)]
                have e110 : a.eval (.tmp 110) = .int .i64 PE := (he 12 110 (by kernel_rfl) rfl).trans (hR 12 (by kernel_rfl))
                refine wp_value (v := .int .i64 PE) ?_ (hK _ _ rfl (grown_refl W _))
                simp only [execOp, e110]
                try go_simp
                try (first | rfl | omega | (simp only [IntKind.wrap_i64, IntKind.wrap_u8, IntKind.wrap_u64, IntKind.wrap_u16, IntKind.wrap_u32]; omega) | (rw [Int.tmod_eq_emod_of_nonneg (by omega)]) | (rw [Int.tmod_eq_emod_of_nonneg (by omega)]; omega))
              · intro vs w9 hX9 hR
                have q0 := hR 0 (by decide)
                have q1 := hR 1 (by decide)
                have q2 := hR 2 (by decide)
                have q3 := hR 3 (by decide)
                have q4 := hR 4 (by decide)
                have q5 := hR 5 (by decide)
                have q6 := hR 6 (by decide)
                have q7 := hR 7 (by decide)
                have q8 := hR 8 (by decide)
                have q9 := hR 9 (by decide)
                have q10 := hR 10 (by decide)
                have q11 := hR 11 (by decide)
                have q12 := hR 12 (by decide)
                have q13 := hR 13 (by decide)
                have q14 := hR 14 (by decide)
                change vs 0 = .agg (bv src).toArray at q0
                change vs 1 = .agg (bv dst).toArray at q1
                change vs 2 = .agg (head24 src dst).cells.toArray at q2
                change vs 3 = str FR at q3
                change vs 4 = .int .i64 (N : Int) at q4
                change vs 5 = .int .u64 (N : Int) at q5
                change vs 6 = str (toBe 2 N) at q6
                change vs 7 = str (FR ++ toBe 2 N) at q7
                change vs 8 = str R at q8
                change vs 9 = str (FR ++ toBe 2 N ++ R) at q9
                change vs 10 = .tuple #[str PK, .int .i64 PE] at q10
                change vs 11 = str PK at q11
                change vs 12 = .int .i64 PE at q12
                change vs 13 = str PK at q13
                change vs 14 = .int .i64 PE at q14
                simp only [putAll, Act.put, List.setIfInBounds_toArray, List.set_cons_zero, List.set_cons_succ, q0, q1, q2, q3, q4, q5, q6, q7, q8, q9, q10, q11, q12, q13, q14]
                clear q0 q1 q2 q3 q4 q5 q6 q7 q8 q9 q10 q11 q12 q13 q14
                clear hR
                have hb := bthen (below_drew w7) (grow_below hX9)
                clear hX9
                replace HW := Lib.hid (bthen HW.out hb)
                replace HB := Lib.hid (HB.out.on hb)
                replace HS := Lib.hid (HS.out.on hb)
                replace HD := Lib.hid (HD.out.on hb)
                clear hb
                go_wp2_with fail
                go_ret2
                exact ⟨by rw [HNO.out]; rfl, HW.out⟩
      · have hn1 : (0 : Int) < (m.n : Int) := by omega
        have hn2 : 0 < m.n := by omega
        obtain ⟨BG, hBG⟩ : ∃ z, begin24 m.beg true = z := ⟨_, rfl⟩
        have hbgl := begin24_le m.beg true
        rw [hBG] at hbgl
        have HBG := Lib.hid hBG
        have hrr : rest24 m = [16, 0, 0, 0] ++ BG ++ ST := by
          unfold rest24 four24 ext23
          rw [hst]
          simp only [hn0, decide_true, decide_false, if_true, if_false, Nat.lt_irrefl]
          rw [show decide (0 < m.n) = true by simp; omega]
          rw [hBG]
        simp only [List.append_assoc, List.cons_append, List.nil_append, List.append_nil] at hrr
        obtain ⟨R, hR⟩ : ∃ z, rest24 m = z := ⟨_, rfl⟩
        have hrl := rest24_le m
        have hps : ps24 m src dst = pseudoF src dst 58 (((rest24 m).length : Int) + 4) := rfl
        rw [hR] at hrl hrr hps
        obtain ⟨FR, hFR⟩ : ∃ z, front24 m.kind = z := ⟨_, rfl⟩
        have hfl := front24_length m.kind
        rw [hFR] at hfl
        obtain ⟨PS, hPS⟩ : ∃ z, pseudoF src dst 58 ((R.length : Int) + 4) = z := ⟨_, rfl⟩
        have hpl := pseudoF_le src dst 58 ((R.length : Int) + 4)
        rw [hPS] at hpl hps
        obtain ⟨N, hN⟩ : ∃ z, 65535 - rawN (PS ++ FR ++ [0, 0] ++ R) = z := ⟨_, rfl⟩
        have RO := fun W => rof_any (PS ++ FR ++ [0, 0] ++ R) W (by simp; omega)
        rw [hN] at RO
        simp only [List.append_assoc, List.cons_append, List.nil_append] at RO
        have hN1 : N ≤ 65535 := by omega
        have hno : put24 m src dst = put6 (head24 src dst) (FR ++ toBe 2 N ++ R) := by
          unfold put24 body24
          rw [if_neg hbad, hst, if_neg (by simp), hps, hR, hFR, hN]
        cases hpk : put6 (head24 src dst) (FR ++ toBe 2 N ++ R) with
        | mk PK PE =>
        rw [hpk] at hno
        have HRR := Lib.hid hrr.symm
        have HFR := Lib.hid hFR
        have HPS := Lib.hid hPS
        have HRO := Lib.hid RO
        have HNO := Lib.hid hno
        have HPK := Lib.hid hpk
        have HHF := Lib.hid (head24_fit src dst HSL.out HDL.out)
        have hwr : IntKind.u64.wrap (N : Int) = (N : Int) := by rw [IntKind.wrap_u64]; omega
        have hwm : IntKind.u64.wrap m.mtu = m.mtu := by rw [IntKind.wrap_u64]; omega
        clear hm SX hst hbad hBG hrr hR hFR hN RO hno hpk hps hPS
        rcases h5 with ⟨h5, h6⟩ | ⟨h5, h6⟩
        · exact absurd h6 hn0
        · have h5' : (m.kind != 1) = true := by simpa [bne] using h5
          have h5'' : (m.kind == 1) = false := by simpa using h5
          clear h5 hn0
          go_enter Tryd.func9, Tryd.ntmps9
          go_upto_region 1 with (first
            | (refine wpList_box_blk (by rfl) 34 _ rfl m.cells rfl ?_; intro w1 hk1 hB1 hs1)
            | (refine wpList_box_blk (by rfl) 26 _ rfl (bv src) rfl ?_; intro w2 hk2 hB2 hs2)
            | (refine wpList_box_blk (by rfl) 26 _ rfl (bv dst) rfl ?_; intro w3 hk3 hB3 hs3))
          have hk13 := (hk1.on hB2).on hB3
          have d0 : w3.cell? ⟨w.heap.size, 0, none⟩ = some (.int .i64 m.kind) := hk13.cell 0
          have d1 : w3.cell? ⟨w.heap.size, 1, none⟩ = some (.int .i64 m.mtu) := hk13.cell 1
          have d3 : w3.cell? ⟨w.heap.size, 3, none⟩ = some (.slice m.A m.n m.c) := hk13.cell 3
          go_wp2_with fail
          have HW := Lib.hid (bthen (bthen hB1 hB2) hB3)
          have HB := Lib.hid ((hk1.on hB2).on hB3)
          rw [hs1] at hk2
          have HS := Lib.hid (hk2.on hB3)
          rw [hs2, hs1] at hk3
          have HD := Lib.hid hk3
          clear d0 d1 d3 hk13 hk1 hk2 hk3 hs1 hs2 hs3 hB1 hB2 hB3
          refine (HSX.out w3 HW.out).mono ?_
          rintro e w4 ⟨rfl, hb⟩
          replace HW := Lib.hid (bthen HW.out hb)
          replace HB := Lib.hid (HB.out.on hb)
          replace HS := Lib.hid (HS.out.on hb)
          replace HD := Lib.hid (HD.out.on hb)
          clear hb
          have d1 : w4.cell? ⟨w.heap.size, 1, none⟩ = some (.int .i64 m.mtu) := HB.out.cell 1
          go_wp2_with fail
          clear d1
          refine (bytes_any m.mtu 4 w4 (by omega) (by omega) (by omega) (by omega)).mono ?_
          rintro e w5 ⟨rfl, hb⟩
          rw [show ((4 : Int)).toNat = 4 from rfl]
          replace HW := Lib.hid (bthen HW.out hb)
          replace HB := Lib.hid (HB.out.on hb)
          replace HS := Lib.hid (HS.out.on hb)
          replace HD := Lib.hid (HD.out.on hb)
          clear hb
          have d0 : w5.cell? ⟨w.heap.size, 0, none⟩ = some (.int .i64 m.kind) := HB.out.cell 0
          go_upto_region 11 with fail
          go_cut [12] (fun c wx => c = str FR ∧ Below w5.heap.size w5 wx)
          case first =>
            rcases (show m.kind = 0 ∨ m.kind = 1 ∨ m.kind = 2 by omega) with hk | hk | hk
            all_goals
              have hfr := HFR.out
              rw [hk] at hfr
              have dA : ∀ (C : Array Value) (T : TypeId), (w5.alloc (.cells C T)).cell? ⟨w.heap.size, 0, none⟩ = some (.int .i64 m.kind) := fun C T => (HB.out.on (alloc_below _ _)).cell 0
              simp only [hk] at dA
              go_wp2_with fail
              go_meet
              exact ⟨by rw [← hfr]; rfl, alloc_below _ _⟩
          case rest =>
            obtain ⟨hu, hb⟩ := hcut
            subst hu
            clear d0
            have hwc : Below w5.heap.size w5 wc := hb
            replace HW := Lib.hid (bthen HW.out hb)
            replace HB := Lib.hid (HB.out.on hb)
            replace HS := Lib.hid (HS.out.on hb)
            replace HD := Lib.hid (HD.out.on hb)
            clear hb
            clear hwc
            have d2 : wc.cell? ⟨w.heap.size, 2, none⟩ = some (str m.beg) := HB.out.cell 2
            go_wp2_with fail
            clear d2
            refine (begin24_any m.beg true HM.out wc).mono ?_
            rintro e w6 ⟨rfl, rfl⟩
            rw [HBG.out]
            go_wp2_with (first
              | (refine wpList_value (by rfl) (exec_add _ _ _ _ rfl Tryd.underlying9 ([16, 0, 0, 0]) BG rfl rfl (by simp [toBe_length] <;> omega)) ?_)
              | (refine wpList_value (by rfl) (exec_add _ _ _ _ rfl Tryd.underlying9 ([16, 0, 0, 0] ++ BG) (ST) rfl rfl (by simp [toBe_length] <;> omega)) ?_))
            rw [HRR.out]
            refine wp_region_rel (fun A B => A.grownBy B none) (fun A => grown_refl A _) (fun A B C h k => grown_trans h k) (relAt (List.cons (fun v _ => v = .agg (bv src).toArray) (List.cons (fun v _ => v = str src) (List.cons (fun v _ => v = .agg (bv dst).toArray) (List.cons (fun v _ => v = str dst) (List.cons (fun v _ => v = str R) (List.cons (fun v _ => v = .int .i64 (R.length : Int)) (List.cons (fun v _ => v = .int .i64 ((R.length : Int) + 4)) (List.cons (fun v _ => v = str PS) (List.cons (fun v _ => v = str PS) ([]))))))))))) (MonoL.at_ (.cons (mono_val _) (.cons (mono_val _) (.cons (mono_val _) (.cons (mono_val _) (.cons (mono_val _) (.cons (mono_val _) (.cons (mono_val _) (.cons (mono_val _) (.cons (mono_val _) .nil)))))))))) (by kernel_rfl) (by kernel_rfl) ⟨?_, ?_, ?_, ?_, ?_, ?_, ?_, ?_, ?_, trivial⟩ ?_
            · intro a vs W hX hR he hf K hK
              rw [if_pos (wanted_none rfl)]
              have e4 : a.eval (.tmp 4) = .pointer (some ⟨w.heap.size + 1, 0, none⟩) := hf 4 (by kernel_rfl)
              have hbW := bthen (below_drew _) (grow_below hX)
              exact wp_value (exec_load 26 _ rfl (w.heap.size + 1) e4 26 (bv src) _ (HS.out.on hbW) Tryd.underlying26 rfl (size24 _ HSL.out)) (hK _ _ rfl (grown_refl W _))
            · intro a vs W hX hR he hf K hK
              rw [if_pos (wanted_none rfl)]
              have e83 : a.eval (.tmp 83) = .agg (bv src).toArray := (he 0 83 (by kernel_rfl) rfl).trans (hR 0 (by kernel_rfl))
              refine wp_enter (f := 26) (args := #[.agg (bv src).toArray]) (by simp only [execOp, e83]; go_simp; simpa [Act.eval] using e83) ((text_any src W HSL.out).mono ?_)
              rintro e w' ⟨rfl, hb⟩
              exact ⟨_, rfl, hK _ _ rfl (below_grow hb _)⟩
            · intro a vs W hX hR he hf K hK
              rw [if_pos (wanted_none rfl)]
              have e5 : a.eval (.tmp 5) = .pointer (some ⟨w.heap.size + 1 + 1, 0, none⟩) := hf 5 (by kernel_rfl)
              have hbW := bthen (below_drew _) (grow_below hX)
              exact wp_value (exec_load 26 _ rfl (w.heap.size + 1 + 1) e5 26 (bv dst) _ (HD.out.on hbW) Tryd.underlying26 rfl (size24 _ HDL.out)) (hK _ _ rfl (grown_refl W _))
            · intro a vs W hX hR he hf K hK
              rw [if_pos (wanted_none rfl)]
              have e85 : a.eval (.tmp 85) = .agg (bv dst).toArray := (he 2 85 (by kernel_rfl) rfl).trans (hR 2 (by kernel_rfl))
              refine wp_enter (f := 26) (args := #[.agg (bv dst).toArray]) (by simp only [execOp, e85]; go_simp; simpa [Act.eval] using e85) ((text_any dst W HDL.out).mono ?_)
              rintro e w' ⟨rfl, hb⟩
              exact ⟨_, rfl, hK _ _ rfl (below_grow hb _)⟩
            · intro a vs W hX hR he hf K hK
              rw [if_pos (wanted_none rfl)]
              have e13 : a.eval (.tmp 13) = str R := hf 13 (by kernel_rfl)
              refine wp_value (v := str R) ?_ (hK _ _ rfl (grown_refl W _))
              simp only [execOp, e13]
              try go_simp
              try (first | rfl | omega | (simp only [IntKind.wrap_i64, IntKind.wrap_u8, IntKind.wrap_u64, IntKind.wrap_u16, IntKind.wrap_u32]; omega) | (rw [Int.tmod_eq_emod_of_nonneg (by omega)]) | (rw [Int.tmod_eq_emod_of_nonneg (by omega)]; omega))
            · intro a vs W hX hR he hf K hK
              rw [if_pos (wanted_none rfl)]
              have e87 : a.eval (.tmp 87) = str R := (he 4 87 (by kernel_rfl) rfl).trans (hR 4 (by kernel_rfl))
              have f87 := e87
              simp only [Act.eval, Array.getD_eq_getD_getElem?] at f87
              refine wp_value (v := .int .i64 (R.length : Int)) ?_ (hK _ _ rfl (grown_refl W _))
              simp only [execOp, e87]
              try go_simp
              try (first | rfl | omega | (simp only [IntKind.wrap_i64, IntKind.wrap_u8, IntKind.wrap_u64, IntKind.wrap_u16, IntKind.wrap_u32]; omega) | (rw [Int.tmod_eq_emod_of_nonneg (by omega)]) | (rw [Int.tmod_eq_emod_of_nonneg (by omega)]; omega))
            · intro a vs W hX hR he hf K hK
              rw [if_pos (wanted_none rfl)]
              have e88 : a.eval (.tmp 88) = .int .i64 (R.length : Int) := (he 5 88 (by kernel_rfl) rfl).trans (hR 5 (by kernel_rfl))
              refine wp_value (v := .int .i64 ((R.length : Int) + 4)) ?_ (hK _ _ rfl (grown_refl W _))
              simp only [execOp, e88]
              try go_simp
              try (first | rfl | omega | (simp only [IntKind.wrap_i64, IntKind.wrap_u8, IntKind.wrap_u64, IntKind.wrap_u16, IntKind.wrap_u32]; omega) | (rw [Int.tmod_eq_emod_of_nonneg (by omega)]) | (rw [Int.tmod_eq_emod_of_nonneg (by omega)]; omega))
            · intro a vs W hX hR he hf K hK
              rw [if_pos (wanted_none rfl)]
              have e84 : a.eval (.tmp 84) = str src := (he 1 84 (by kernel_rfl) rfl).trans (hR 1 (by kernel_rfl))
              have e86 : a.eval (.tmp 86) = str dst := (he 3 86 (by kernel_rfl) rfl).trans (hR 3 (by kernel_rfl))
              have e89 : a.eval (.tmp 89) = .int .i64 ((R.length : Int) + 4) := (he 6 89 (by kernel_rfl) rfl).trans (hR 6 (by kernel_rfl))
              refine wp_enter (f := 25) (args := #[str src, str dst, .int .i64 58, .int .i64 ((R.length : Int) + 4)]) (by simp only [execOp, e84, e86, e89]; go_simp; exact ⟨by simpa [Act.eval] using e84, by simpa [Act.eval] using e86, by simpa [Act.eval] using e89⟩) ((rpseudo_any src dst 58 ((R.length : Int) + 4) W (by have := HSL.out; omega) (by have := HDL.out; omega) (by omega) (by omega) (by omega) (by omega)).mono ?_)
              rintro e w' ⟨rfl, hb⟩
              exact ⟨_, rfl, hK _ _ (congrArg (fun z => str z) HPS.out) (below_grow hb _)⟩
            · intro a vs W hX hR he hf K hK
              rw [if_pos (wanted_none rfl)]
              have e90 : a.eval (.tmp 90) = str PS := (he 7 90 (by kernel_rfl) rfl).trans (hR 7 (by kernel_rfl))
              refine wp_value (v := str PS) ?_ (hK _ _ rfl (grown_refl W _))
              simp only [execOp, e90]
              try go_simp
              try (first | rfl | omega | (simp only [IntKind.wrap_i64, IntKind.wrap_u8, IntKind.wrap_u64, IntKind.wrap_u16, IntKind.wrap_u32]; omega) | (rw [Int.tmod_eq_emod_of_nonneg (by omega)]) | (rw [Int.tmod_eq_emod_of_nonneg (by omega)]; omega))
            · intro vs w7 hX7 hR
              have q0 := hR 0 (by decide)
              have q1 := hR 1 (by decide)
              have q2 := hR 2 (by decide)
              have q3 := hR 3 (by decide)
              have q4 := hR 4 (by decide)
              have q5 := hR 5 (by decide)
              have q6 := hR 6 (by decide)
              have q7 := hR 7 (by decide)
              have q8 := hR 8 (by decide)
              change vs 0 = .agg (bv src).toArray at q0
              change vs 1 = str src at q1
              change vs 2 = .agg (bv dst).toArray at q2
              change vs 3 = str dst at q3
              change vs 4 = str R at q4
              change vs 5 = .int .i64 (R.length : Int) at q5
              change vs 6 = .int .i64 ((R.length : Int) + 4) at q6
              change vs 7 = str PS at q7
              change vs 8 = str PS at q8
              simp only [putAll, Act.put, List.setIfInBounds_toArray, List.set_cons_zero, List.set_cons_succ, q0, q1, q2, q3, q4, q5, q6, q7, q8]
              clear q0 q1 q2 q3 q4 q5 q6 q7 q8
              clear hR
              have hb := bthen (below_drew wc) (grow_below hX7)
              clear hX7
              replace HW := Lib.hid (bthen HW.out hb)
              replace HB := Lib.hid (HB.out.on hb)
              replace HS := Lib.hid (HS.out.on hb)
              replace HD := Lib.hid (HD.out.on hb)
              clear hb
              go_wp2_with (first
                | (refine wpList_value (by rfl) (exec_add _ _ _ _ rfl Tryd.underlying9 PS FR rfl rfl (by omega)) ?_)
                | (refine wpList_value (by rfl) (exec_add _ _ _ _ rfl Tryd.underlying9 (PS ++ FR) [0, 0] rfl rfl (by simp; omega)) ?_)
                | (refine wpList_value (by rfl) (exec_add _ _ _ _ rfl Tryd.underlying9 (PS ++ (FR ++ [0, 0])) R rfl rfl (by simp; omega)) ?_))
              refine (HRO.out w7).mono ?_
              rintro e w8 ⟨rfl, rfl⟩
              go_wp2_with fail
              refine wp_region_rel (fun A B => A.grownBy B none) (fun A => grown_refl A _) (fun A B C h k => grown_trans h k) (relAt (List.cons (fun v _ => v = .agg (bv src).toArray) (List.cons (fun v _ => v = .agg (bv dst).toArray) (List.cons (fun v _ => v = .agg (head24 src dst).cells.toArray) (List.cons (fun v _ => v = str FR) (List.cons (fun v _ => v = .int .i64 (N : Int)) (List.cons (fun v _ => v = .int .u64 (N : Int)) (List.cons (fun v _ => v = str (toBe 2 N)) (List.cons (fun v _ => v = str (FR ++ toBe 2 N)) (List.cons (fun v _ => v = str R) (List.cons (fun v _ => v = str (FR ++ toBe 2 N ++ R)) (List.cons (fun v _ => v = .tuple #[str PK, .int .i64 PE]) (List.cons (fun v _ => v = str PK) (List.cons (fun v _ => v = .int .i64 PE) (List.cons (fun v _ => v = str PK) (List.cons (fun v _ => v = .int .i64 PE) ([]))))))))))))))))) (MonoL.at_ (.cons (mono_val _) (.cons (mono_val _) (.cons (mono_val _) (.cons (mono_val _) (.cons (mono_val _) (.cons (mono_val _) (.cons (mono_val _) (.cons (mono_val _) (.cons (mono_val _) (.cons (mono_val _) (.cons (mono_val _) (.cons (mono_val _) (.cons (mono_val _) (.cons (mono_val _) (.cons (mono_val _) .nil)))))))))))))))) (by kernel_rfl) (by kernel_rfl) ⟨?_, ?_, ?_, ?_, ?_, ?_, ?_, ?_, ?_, ?_, ?_, ?_, ?_, ?_, ?_, trivial⟩ ?_
              · intro a vs W hX hR he hf K hK
                rw [if_pos (wanted_none rfl)]
                have e4 : a.eval (.tmp 4) = .pointer (some ⟨w.heap.size + 1, 0, none⟩) := hf 4 (by kernel_rfl)
                have hbW := bthen (below_drew _) (grow_below hX)
                exact wp_value (exec_load 26 _ rfl (w.heap.size + 1) e4 26 (bv src) _ (HS.out.on hbW) Tryd.underlying26 rfl (size24 _ HSL.out)) (hK _ _ rfl (grown_refl W _))
              · intro a vs W hX hR he hf K hK
                rw [if_pos (wanted_none rfl)]
                have e5 : a.eval (.tmp 5) = .pointer (some ⟨w.heap.size + 1 + 1, 0, none⟩) := hf 5 (by kernel_rfl)
                have hbW := bthen (below_drew _) (grow_below hX)
                exact wp_value (exec_load 26 _ rfl (w.heap.size + 1 + 1) e5 26 (bv dst) _ (HD.out.on hbW) Tryd.underlying26 rfl (size24 _ HDL.out)) (hK _ _ rfl (grown_refl W _))
              · intro a vs W hX hR he hf K hK
                rw [if_pos (wanted_none rfl)]
                have e98 : a.eval (.tmp 98) = .agg (bv src).toArray := (he 0 98 (by kernel_rfl) rfl).trans (hR 0 (by kernel_rfl))
                have e99 : a.eval (.tmp 99) = .agg (bv dst).toArray := (he 1 99 (by kernel_rfl) rfl).trans (hR 1 (by kernel_rfl))
                have f98 := e98
                simp only [Act.eval, Array.getD_eq_getD_getElem?] at f98
                have f99 := e99
                simp only [Act.eval, Array.getD_eq_getD_getElem?] at f99
                exact wp_value (exec_build24 _ _ rfl src dst HSL.out HDL.out e98 e99) (hK _ _ rfl (grown_refl W _))
              · intro a vs W hX hR he hf K hK
                rw [if_pos (wanted_none rfl)]
                have e12 : a.eval (.tmp 12) = str FR := hf 12 (by kernel_rfl)
                refine wp_value (v := str FR) ?_ (hK _ _ rfl (grown_refl W _))
                simp only [execOp, e12]
                try go_simp
                try (first | rfl | omega | (simp only [IntKind.wrap_i64, IntKind.wrap_u8, IntKind.wrap_u64, IntKind.wrap_u16, IntKind.wrap_u32]; omega) | (rw [Int.tmod_eq_emod_of_nonneg (by omega)]) | (rw [Int.tmod_eq_emod_of_nonneg (by omega)]; omega))
              · intro a vs W hX hR he hf K hK
                rw [if_pos (wanted_none rfl)]
                have e15 : a.eval (.tmp 15) = .int .i64 (N : Int) := hf 15 (by kernel_rfl)
                refine wp_value (v := .int .i64 (N : Int)) ?_ (hK _ _ rfl (grown_refl W _))
                simp only [execOp, e15]
                try go_simp
                try (first | rfl | omega | (simp only [IntKind.wrap_i64, IntKind.wrap_u8, IntKind.wrap_u64, IntKind.wrap_u16, IntKind.wrap_u32]; omega) | (rw [Int.tmod_eq_emod_of_nonneg (by omega)]) | (rw [Int.tmod_eq_emod_of_nonneg (by omega)]; omega))
              · intro a vs W hX hR he hf K hK
                rw [if_pos (wanted_none rfl)]
                have e102 : a.eval (.tmp 102) = .int .i64 (N : Int) := (he 4 102 (by kernel_rfl) rfl).trans (hR 4 (by kernel_rfl))
                refine wp_value (v := .int .u64 (N : Int)) ?_ (hK _ _ rfl (grown_refl W _))
                simp only [execOp, e102]
                try go_simp
                try (first | rfl | omega | (simp only [IntKind.wrap_i64, IntKind.wrap_u8, IntKind.wrap_u64, IntKind.wrap_u16, IntKind.wrap_u32]; omega) | (rw [Int.tmod_eq_emod_of_nonneg (by omega)]) | (rw [Int.tmod_eq_emod_of_nonneg (by omega)]; omega))
              · intro a vs W hX hR he hf K hK
                rw [if_pos (wanted_none rfl)]
                have e103 : a.eval (.tmp 103) = .int .u64 (N : Int) := (he 5 103 (by kernel_rfl) rfl).trans (hR 5 (by kernel_rfl))
                refine wp_enter (f := 24) (args := #[.int .u64 (N : Int), .int .i64 2]) (by simp only [execOp, e103]; go_simp; simpa [Act.eval] using e103) ((bytes_any (N : Int) 2 W (by omega) (by omega) (by omega) (by omega)).mono ?_)
                rintro e w' ⟨rfl, hb⟩
                exact ⟨_, rfl, hK _ _ rfl (below_grow hb _)⟩
              · intro a vs W hX hR he hf K hK
                rw [if_pos (wanted_none rfl)]
                have e101 : a.eval (.tmp 101) = str FR := (he 3 101 (by kernel_rfl) rfl).trans (hR 3 (by kernel_rfl))
                have e104 : a.eval (.tmp 104) = str (toBe 2 N) := (he 6 104 (by kernel_rfl) rfl).trans (hR 6 (by kernel_rfl))
                exact wp_value (exec_add _ _ _ _ rfl Tryd.underlying9 (FR) (toBe 2 N) e101 e104 (by simp [toBe_length] <;> omega)) (hK _ _ rfl (grown_refl W _))
              · intro a vs W hX hR he hf K hK
                rw [if_pos (wanted_none rfl)]
                have e13 : a.eval (.tmp 13) = str R := hf 13 (by kernel_rfl)
                refine wp_value (v := str R) ?_ (hK _ _ rfl (grown_refl W _))
                simp only [execOp, e13]
                try go_simp
                try (first | rfl | omega | (simp only [IntKind.wrap_i64, IntKind.wrap_u8, IntKind.wrap_u64, IntKind.wrap_u16, IntKind.wrap_u32]; omega) | (rw [Int.tmod_eq_emod_of_nonneg (by omega)]) | (rw [Int.tmod_eq_emod_of_nonneg (by omega)]; omega))
              · intro a vs W hX hR he hf K hK
                rw [if_pos (wanted_none rfl)]
                have e105 : a.eval (.tmp 105) = str (FR ++ toBe 2 N) := (he 7 105 (by kernel_rfl) rfl).trans (hR 7 (by kernel_rfl))
                have e106 : a.eval (.tmp 106) = str R := (he 8 106 (by kernel_rfl) rfl).trans (hR 8 (by kernel_rfl))
                exact wp_value (exec_add _ _ _ _ rfl Tryd.underlying9 (FR ++ toBe 2 N) (R) e105 e106 (by simp [toBe_length] <;> omega)) (hK _ _ rfl (grown_refl W _))
              · intro a vs W hX hR he hf K hK
                rw [if_pos (wanted_none rfl)]
                have e100 : a.eval (.tmp 100) = .agg (head24 src dst).cells.toArray := (he 2 100 (by kernel_rfl) rfl).trans (hR 2 (by kernel_rfl))
                have e107 : a.eval (.tmp 107) = str (FR ++ toBe 2 N ++ R) := (he 9 107 (by kernel_rfl) rfl).trans (hR 9 (by kernel_rfl))
                refine wp_enter (f := 28) (args := #[.agg (head24 src dst).cells.toArray, str (FR ++ toBe 2 N ++ R)]) (by simp only [execOp, e100, e107]; go_simp; exact ⟨by simpa [Act.eval] using e100, by simpa [Act.eval] using e107⟩) ((rput6_any (head24 src dst) HHF.out (FR ++ toBe 2 N ++ R) W (by simp [toBe_length] <;> omega)).mono ?_)
                rintro e w' ⟨rfl, hb⟩
                exact ⟨_, rfl, hK _ _ (congrArg (fun z : List UInt8 × Int => Value.tuple #[str z.1, .int .i64 z.2]) HPK.out) (below_grow hb _)⟩
              · intro a vs W hX hR he hf K hK
                rw [if_pos (wanted_none rfl)]
                have e108 : a.eval (.tmp 108) = .tuple #[str PK, .int .i64 PE] := (he 10 108 (by kernel_rfl) rfl).trans (hR 10 (by kernel_rfl))
                refine wp_value (v := str PK) ?_ (hK _ _ rfl (grown_refl W _))
                simp only [execOp, e108]
                try go_simp
                try (first | rfl | omega | (simp only [IntKind.wrap_i64, IntKind.wrap_u8, IntKind.wrap_u64, IntKind.wrap_u16, IntKind.wrap_u32]; omega) | (rw [Int.tmod_eq_emod_of_nonneg (by omega)]) | (rw [Int.tmod_eq_emod_of_nonneg (by omega)]; omega))
              · intro a vs W hX hR he hf K hK
                rw [if_pos (wanted_none rfl)]
                have e108 : a.eval (.tmp 108) = .tuple #[str PK, .int .i64 PE] := (he 10 108 (by kernel_rfl) rfl).trans (hR 10 (by kernel_rfl))
                refine wp_value (v := .int .i64 PE) ?_ (hK _ _ rfl (grown_refl W _))
                simp only [execOp, e108]
                try go_simp
                try (first | rfl | omega | (simp only [IntKind.wrap_i64, IntKind.wrap_u8, IntKind.wrap_u64, IntKind.wrap_u16, IntKind.wrap_u32]; omega) | (rw [Int.tmod_eq_emod_of_nonneg (by omega)]) | (rw [Int.tmod_eq_emod_of_nonneg (by omega)]; omega))
              · intro a vs W hX hR he hf K hK
                rw [if_pos (wanted_none rfl)]
                have e109 : a.eval (.tmp 109) = str PK := (he 11 109 (by kernel_rfl) rfl).trans (hR 11 (by kernel_rfl))
                refine wp_value (v := str PK) ?_ (hK _ _ rfl (grown_refl W _))
                simp only [execOp, e109]
                try go_simp
                try (first | rfl | omega | (simp only [IntKind.wrap_i64, IntKind.wrap_u8, IntKind.wrap_u64, IntKind.wrap_u16, IntKind.wrap_u32]; omega) | (rw [Int.tmod_eq_emod_of_nonneg (by omega)]) | (rw [Int.tmod_eq_emod_of_nonneg (by omega)]; omega))
              · intro a vs W hX hR he hf K hK
                rw [if_pos (wanted_none rfl)]
                have e110 : a.eval (.tmp 110) = .int .i64 PE := (he 12 110 (by kernel_rfl) rfl).trans (hR 12 (by kernel_rfl))
                refine wp_value (v := .int .i64 PE) ?_ (hK _ _ rfl (grown_refl W _))
                simp only [execOp, e110]
                try go_simp
                try (first | rfl | omega | (simp only [IntKind.wrap_i64, IntKind.wrap_u8, IntKind.wrap_u64, IntKind.wrap_u16, IntKind.wrap_u32]; omega) | (rw [Int.tmod_eq_emod_of_nonneg (by omega)]) | (rw [Int.tmod_eq_emod_of_nonneg (by omega)]; omega))
              · intro vs w9 hX9 hR
                have q0 := hR 0 (by decide)
                have q1 := hR 1 (by decide)
                have q2 := hR 2 (by decide)
                have q3 := hR 3 (by decide)
                have q4 := hR 4 (by decide)
                have q5 := hR 5 (by decide)
                have q6 := hR 6 (by decide)
                have q7 := hR 7 (by decide)
                have q8 := hR 8 (by decide)
                have q9 := hR 9 (by decide)
                have q10 := hR 10 (by decide)
                have q11 := hR 11 (by decide)
                have q12 := hR 12 (by decide)
                have q13 := hR 13 (by decide)
                have q14 := hR 14 (by decide)
                change vs 0 = .agg (bv src).toArray at q0
                change vs 1 = .agg (bv dst).toArray at q1
                change vs 2 = .agg (head24 src dst).cells.toArray at q2
                change vs 3 = str FR at q3
                change vs 4 = .int .i64 (N : Int) at q4
                change vs 5 = .int .u64 (N : Int) at q5
                change vs 6 = str (toBe 2 N) at q6
                change vs 7 = str (FR ++ toBe 2 N) at q7
                change vs 8 = str R at q8
                change vs 9 = str (FR ++ toBe 2 N ++ R) at q9
                change vs 10 = .tuple #[str PK, .int .i64 PE] at q10
                change vs 11 = str PK at q11
                change vs 12 = .int .i64 PE at q12
                change vs 13 = str PK at q13
                change vs 14 = .int .i64 PE at q14
                simp only [putAll, Act.put, List.setIfInBounds_toArray, List.set_cons_zero, List.set_cons_succ, q0, q1, q2, q3, q4, q5, q6, q7, q8, q9, q10, q11, q12, q13, q14]
                clear q0 q1 q2 q3 q4 q5 q6 q7 q8 q9 q10 q11 q12 q13 q14
                clear hR
                have hb := bthen (below_drew w7) (grow_below hX9)
                clear hX9
                replace HW := Lib.hid (bthen HW.out hb)
                replace HB := Lib.hid (HB.out.on hb)
                replace HS := Lib.hid (HS.out.on hb)
                replace HD := Lib.hid (HD.out.on hb)
                clear hb
                go_wp2_with fail
                go_ret2
                exact ⟨by rw [HNO.out]; rfl, HW.out⟩
    · have hse' : (SE != 0) = true := by simpa [bne] using hse
      have HNO : Hid (put24 m src dst = ([], SE)) := Lib.hid (by unfold put24; rw [if_neg hbad, hst, if_pos hse])
      clear hm SX hst hse hbad
      rcases h5 with ⟨h5, h6⟩ | ⟨h5, h6⟩
      · have h5' : (m.kind != 1) = false := by rw [h5]; rfl
        have h5'' : (m.kind == 1) = true := by rw [h5]; rfl
        have h6' : ¬ (0 : Int) < (m.n : Int) := by omega
        clear h5 h6
        go_enter Tryd.func9, Tryd.ntmps9
        go_upto_region 1 with (first
          | (refine wpList_box_blk (by rfl) 34 _ rfl m.cells rfl ?_; intro w1 hk1 hB1 hs1)
          | (refine wpList_box_blk (by rfl) 26 _ rfl (bv src) rfl ?_; intro w2 hk2 hB2 hs2)
          | (refine wpList_box_blk (by rfl) 26 _ rfl (bv dst) rfl ?_; intro w3 hk3 hB3 hs3))
        have hk13 := (hk1.on hB2).on hB3
        have d0 : w3.cell? ⟨w.heap.size, 0, none⟩ = some (.int .i64 m.kind) := hk13.cell 0
        have d1 : w3.cell? ⟨w.heap.size, 1, none⟩ = some (.int .i64 m.mtu) := hk13.cell 1
        have d3 : w3.cell? ⟨w.heap.size, 3, none⟩ = some (.slice m.A m.n m.c) := hk13.cell 3
        go_wp2_with fail
        have HW := Lib.hid (bthen (bthen hB1 hB2) hB3)
        clear d0 d1 d3
        refine (HSX.out w3 HW.out).mono ?_
        rintro e w4 ⟨rfl, hb⟩
        go_wp2_with fail
        go_ret2
        exact ⟨by rw [HNO.out]; rfl, bthen HW.out hb⟩
      · have h5' : (m.kind != 1) = true := by simpa [bne] using h5
        have h5'' : (m.kind == 1) = false := by simpa using h5
        clear h5
        go_enter Tryd.func9, Tryd.ntmps9
        go_upto_region 1 with (first
          | (refine wpList_box_blk (by rfl) 34 _ rfl m.cells rfl ?_; intro w1 hk1 hB1 hs1)
          | (refine wpList_box_blk (by rfl) 26 _ rfl (bv src) rfl ?_; intro w2 hk2 hB2 hs2)
          | (refine wpList_box_blk (by rfl) 26 _ rfl (bv dst) rfl ?_; intro w3 hk3 hB3 hs3))
        have hk13 := (hk1.on hB2).on hB3
        have d0 : w3.cell? ⟨w.heap.size, 0, none⟩ = some (.int .i64 m.kind) := hk13.cell 0
        have d1 : w3.cell? ⟨w.heap.size, 1, none⟩ = some (.int .i64 m.mtu) := hk13.cell 1
        have d3 : w3.cell? ⟨w.heap.size, 3, none⟩ = some (.slice m.A m.n m.c) := hk13.cell 3
        go_wp2_with fail
        have HW := Lib.hid (bthen (bthen hB1 hB2) hB3)
        clear d0 d1 d3
        refine (HSX.out w3 HW.out).mono ?_
        rintro e w4 ⟨rfl, hb⟩
        go_wp2_with fail
        go_ret2
        exact ⟨by rw [HNO.out]; rfl, bthen HW.out hb⟩
end Go.Proofs.YtbcjkjmjljfhpaaDoor


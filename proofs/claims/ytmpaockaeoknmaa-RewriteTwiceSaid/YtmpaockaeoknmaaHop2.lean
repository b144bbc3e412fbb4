/- What hop.Check and the reference's Check compute. No condition but sizes. -/
import Derived.Test.YtmpaockaeoknmaaHop1
import Derived.Test.YtmpaockaeoknmaaBlk
import Derived.Deep.DeepCutAuto
namespace Go.Proofs.Ytmpaockaeoknmaa
open Go.RowKit
set_option linter.unusedVariables false
set_option maxRecDepth 20000
set_option linter.unusedSimpArgs false

/-- a hop -/
structure Hp where
  op : Int
  lA : Option Addr
  ln : Nat
  lc : Nat
  l : List Int
  port : Int
  bk : Int
  rA : Option Addr
  rn : Nat
  rc : Nat
  r : List Int
  pipe : Bool
def Hp.cells (h : Hp) : List Value := [.int .i64 h.op, .slice h.lA h.ln h.lc, .int .i64 h.port, .int .i64 h.bk, .slice h.rA h.rn h.rc, .bool h.pipe]
structure Hp.ok (w : World) (h : Hp) : Prop where
  op : -9223372036854775808 ≤ h.op ∧ h.op ≤ 9223372036854775807
  port : -9223372036854775808 ≤ h.port ∧ h.port ≤ 9223372036854775807
  bk : -9223372036854775808 ≤ h.bk ∧ h.bk ≤ 9223372036854775807
  lrow : Row w w.heap.size 1 h.lA h.ln (nv .i64 h.l)
  lle : h.ln ≤ h.lc
  lcap : h.lc ≤ maxLen
  rrow : Row w w.heap.size 1 h.rA h.rn (nv .i64 h.r)
  rle : h.rn ≤ h.rc
  rcap : h.rc ≤ maxLen
  lwf : ∀ x ∈ h.l, -9223372036854775808 ≤ x ∧ x ≤ 9223372036854775807
  rwf : ∀ x ∈ h.r, -9223372036854775808 ≤ x ∧ x ≤ 9223372036854775807
def chkF (o : Int) (ln rn : Nat) (p q : Bool) (port bk : Int) : Int :=
  if o < 0 ∨ 3 < o ∨ (o = 1 ∧ ln = 0) ∨ (1 < o ∧ 0 < ln) then 54 else
  if 16 < ln ∨ 16 < rn then 51 else
  if (p && q) = false then 40 else
  if port < 0 ∨ 63 < port ∨ (o = 3 ∧ port ≠ 0) ∨ 63 < bk ∨ (o = 3 ∧ 0 ≤ bk) then 50 else
  if bk < -1 ∨ (bk = -1 ∧ 0 < rn) ∨ bk = port then 54 else 0
def Hp.chk (h : Hp) : Int := chkF h.op h.ln h.rn (h.l.all pushB) (h.r.all pushB) h.port h.bk
theorem exec_eqEh {w : World} {o : Oper} {c : Act} (x : Operand) (ty : TypeId) (r : List UInt8) (b : Bool) (hb : r.isEmpty = b) (ho : o.op = .binOp .eql 9 x (.const (str [])) ty) (hx : c.eval x = str r) : (execOp c.eval o).run Try.prog w = .ok (.value (.bool b)) w := by
  subst hb
  unfold execOp
  simp only [ho, hx]
  cases r with
  | nil => go_simp
  | cons u r => go_simp

set_option maxHeartbeats 1000000 in
theorem rlabels_any (A : Option Addr) (n c : Nat) (l : List Int) (w : World) (hr : Row w w.heap.size 1 A n (nv .i64 l)) (hn : n ≤ 1099511627776) :
    Calls Try.prog 41 #[.slice A n c] w fun e w' => e = .returned (.bool (l.all pushB)) ∧ w = w' := by
  have hlen : l.length = n := by have := hr.1; rw [nv_length] at this; omega
  have HR := Lib.hid hr
  clear hr
  go_enter Try.func41, Try.ntmps41
  go_wp2_with fail
  go_loop [3] (fun x => ∃ k : Nat, k ≤ n ∧ x = .int .i64 k ∧ l.all pushB = (l.drop k).all pushB) (fun x => n - (intOf x).toNat)
  case atStart => exact ⟨0, by omega, rfl, rfl⟩
  case round =>
    obtain ⟨k, hk, rfl, hi⟩ := hrel
    have HI := Lib.hid hi
    clear hi
    by_cases hlt : k < n
    · obtain ⟨x, hx⟩ := get_ex l (k := k) (by omega)
      obtain ⟨b, o, rfl, hb, hcell⟩ := HR.out.2 (by omega)
      have hc := hcell k _ (nv_get .i64 l k x hx)
      have HD := Lib.hid (List.drop_eq_getElem?_toList_append (l := l) (i := k))
      have HX := Lib.hid hx
      clear hx hcell
      have hcase : x = 0 ∨ (((x != 0) = true) ∧ x = 2) ∨ ((x != 0) = true ∧ (x != 2) = true ∧ x < 16) ∨ ((x != 0) = true ∧ (x != 2) = true ∧ ¬ x < 16 ∧ 1048575 < x) ∨ ((x != 0) = true ∧ (x != 2) = true ∧ ¬ x < 16 ∧ ¬ 1048575 < x) := by
        simp only [bne_iff_ne, ne_eq]
        omega
      have HP := Lib.hid (show pushB x = ((x == 0) || ((x == 2) || (decide (16 ≤ x) && decide (x ≤ 1048575)))) from rfl)
      rcases hcase with h1 | ⟨h1, h2⟩ | ⟨h1, h2, h3⟩ | ⟨h1, h2, h3, h4⟩ | ⟨h1, h2, h3, h4⟩
      all_goals
        first
        | (have HPB : Hid (pushB x = true) := Lib.hid (by rw [HP.out]; simp only [bne_iff_ne, ne_eq, Bool.or_eq_true, Bool.and_eq_true, beq_iff_eq, decide_eq_true_eq] at *; omega)
           go_wp2
           go_round
           case rel =>
             refine ⟨k + 1, by omega, by simp, ?_⟩
             rw [HI.out, HD.out, HX.out]
             simp only [Option.toList_some, List.cons_append, List.nil_append, List.all_cons, HPB.out, Bool.true_and]
           case measure => simp [intOf]; omega)
        | (have HPB : Hid (pushB x = false) := Lib.hid (by rw [HP.out]; rw [Bool.eq_false_iff]; simp only [bne_iff_ne, ne_eq, Bool.or_eq_true, Bool.and_eq_true, beq_iff_eq, decide_eq_true_eq] at *; omega)
           go_wp2
           go_ret
           refine ⟨ret_bool ?_, rfl⟩
           rw [HI.out, HD.out, HX.out]
           simp only [Option.toList_some, List.cons_append, List.nil_append, List.all_cons, HPB.out, Bool.false_and])
    · obtain rfl : k = n := by omega
      go_wp2
      go_ret
      refine ⟨ret_bool ?_, rfl⟩
      rw [HI.out, List.drop_of_length_le (by omega)]
      rfl

set_option maxHeartbeats 4000000 in
theorem check_op0 (m : Hp) (w : World) (hh : m.ok w) (hop : m.op = 0) :
    Calls Try.prog 18 #[.agg m.cells.toArray] w fun e w' => e = .returned (.int .i64 m.chk) ∧ Below w.heap.size w w' := by
  have HR := Lib.hid hh
  obtain ⟨p, hp⟩ : ∃ p, m.l.all pushB = p := ⟨_, rfl⟩
  obtain ⟨q, hq⟩ : ∃ q, m.r.all pushB = q := ⟨_, rfl⟩
  obtain ⟨pt, hpt⟩ : ∃ z, m.port = z := ⟨_, rfl⟩
  obtain ⟨bk, hbk⟩ : ∃ z, m.bk = z := ⟨_, rfl⟩
  have HLA := Lib.hid hp
  have HRA := Lib.hid hq
  have HPT := Lib.hid hpt
  have HBK := Lib.hid hbk
  clear hp hq hpt hbk hh
  have HO := Lib.hid hop
  clear hop
  go_enter Try.func18, Try.ntmps18
  go_upto_region 1 with (refine wpList_box_blk (by rfl) 25 _ rfl m.cells rfl ?_; intro w1 hk_w1 hB1 hs1)
  have d0 : w1.cell? ⟨w.heap.size, 0, none⟩ = some (.int .i64 0) := (hk_w1.cell 0).trans (by show some (Value.int .i64 m.op) = _; rw [HO.out])
  have d1 : w1.cell? ⟨w.heap.size, 1, none⟩ = some (.slice m.lA m.ln m.lc) := hk_w1.cell 1
  have d2 : w1.cell? ⟨w.heap.size, 2, none⟩ = some (.int .i64 pt) := (hk_w1.cell 2).trans (by show some (Value.int .i64 m.port) = _; rw [HPT.out])
  have d3 : w1.cell? ⟨w.heap.size, 3, none⟩ = some (.int .i64 bk) := (hk_w1.cell 3).trans (by show some (Value.int .i64 m.bk) = _; rw [HBK.out])
  have d4 : w1.cell? ⟨w.heap.size, 4, none⟩ = some (.slice m.rA m.rn m.rc) := hk_w1.cell 4
  go_wp2_with fail
  refine (op_any 0 w1).mono ?_
  rintro e w2 ⟨rfl, hb2⟩
  rw [show opW 0 = [112, 117, 115, 104] from rfl]
  have hk_w2 := hk_w1.on hb2
  have hB2 := bthen hB1 hb2
  clear d0 d1 d2 d3 d4
  have d0 : w2.cell? ⟨w.heap.size, 0, none⟩ = some (.int .i64 0) := (hk_w2.cell 0).trans (by show some (Value.int .i64 m.op) = _; rw [HO.out])
  have d1 : w2.cell? ⟨w.heap.size, 1, none⟩ = some (.slice m.lA m.ln m.lc) := hk_w2.cell 1
  have d2 : w2.cell? ⟨w.heap.size, 2, none⟩ = some (.int .i64 pt) := (hk_w2.cell 2).trans (by show some (Value.int .i64 m.port) = _; rw [HPT.out])
  have d3 : w2.cell? ⟨w.heap.size, 3, none⟩ = some (.int .i64 bk) := (hk_w2.cell 3).trans (by show some (Value.int .i64 m.bk) = _; rw [HBK.out])
  have d4 : w2.cell? ⟨w.heap.size, 4, none⟩ = some (.slice m.rA m.rn m.rc) := hk_w2.cell 4
  go_upto_region 4 with fail
  obtain ⟨M, hM⟩ : ∃ M : Int, (if m.ln < m.rn then (m.rn : Int) else (m.ln : Int)) = M := ⟨_, rfl⟩
  by_cases g1 : 16 < m.ln
  · have g1' : (16 : Int) < (m.ln : Int) := by omega
    have hM1 : 16 < M := by rw [← hM]; split <;> omega
    have HC : Hid (m.chk = 51) := Lib.hid (by unfold Hp.chk; rw [HO.out, HPT.out, HBK.out, HLA.out, HRA.out]; unfold chkF; rw [if_neg (by omega)]; rw [if_pos (by omega)])
    try clear k3
    try clear k2
    try clear i3
    go_wp2_with fail
    go_ret
    exact ⟨by rw [HC.out]; rfl, hB2⟩
  · have g1' : ¬ (16 : Int) < (m.ln : Int) := by omega
    by_cases g2 : 16 < m.rn
    · have g2' : (16 : Int) < (m.rn : Int) := by omega
      have hM1 : 16 < M := by rw [← hM]; split <;> omega
      have HC : Hid (m.chk = 51) := Lib.hid (by unfold Hp.chk; rw [HO.out, HPT.out, HBK.out, HLA.out, HRA.out]; unfold chkF; rw [if_neg (by omega)]; rw [if_pos (by omega)])
      try clear k3
      try clear k2
      try clear i3
      go_wp2_with fail
      go_ret
      exact ⟨by rw [HC.out]; rfl, hB2⟩
    · have g2' : ¬ (16 : Int) < (m.rn : Int) := by omega
      have hM1 : ¬ 16 < M := by rw [← hM]; split <;> omega
      go_wp2_with fail
      refine (unpushed_any m.lA m.ln m.lc m.l w2 ((HR.out.lrow.below hB2).more hB2.size) (by omega)).mono ?_
      rintro e w8 ⟨rfl, rfl⟩
      rw [HLA.out]
      cases p
      · have HC : Hid (m.chk = 40) := Lib.hid (by unfold Hp.chk; rw [HO.out, HPT.out, HBK.out, HLA.out, HRA.out]; unfold chkF; rw [if_neg (by omega)]; rw [if_neg (by omega)]; rw [if_pos (by simp)])
        try clear k3
        try clear k2
        try clear i3
        go_wp2_with fail
        go_ret
        exact ⟨by rw [HC.out]; rfl, hB2⟩
      · go_wp2_with fail
        refine (unpushed_any m.rA m.rn m.rc m.r w2 ((HR.out.rrow.below hB2).more hB2.size) (by omega)).mono ?_
        rintro e w8 ⟨rfl, rfl⟩
        rw [HRA.out]
        cases q
        · have HC : Hid (m.chk = 40) := Lib.hid (by unfold Hp.chk; rw [HO.out, HPT.out, HBK.out, HLA.out, HRA.out]; unfold chkF; rw [if_neg (by omega)]; rw [if_neg (by omega)]; rw [if_pos (by simp)])
          try clear k3
          try clear k2
          try clear i3
          go_wp2_with fail
          go_ret
          exact ⟨by rw [HC.out]; rfl, hB2⟩
        · go_upto_region 8 with fail
          by_cases i1 : pt < 0
          · have HC : Hid (m.chk = 50) := Lib.hid (by unfold Hp.chk; rw [HO.out, HPT.out, HBK.out, HLA.out, HRA.out]; unfold chkF; rw [if_neg (by omega)]; rw [if_neg (by omega)]; rw [if_neg (by simp)]; rw [if_pos (by omega)])
            try clear k3
            try clear k2
            try clear i3
            go_wp2_with fail
            go_ret
            exact ⟨by rw [HC.out]; rfl, hB2⟩
          · by_cases i2 : 64 ≤ pt
            · have i2' : 63 < pt := by omega
              have HC : Hid (m.chk = 50) := Lib.hid (by unfold Hp.chk; rw [HO.out, HPT.out, HBK.out, HLA.out, HRA.out]; unfold chkF; rw [if_neg (by omega)]; rw [if_neg (by omega)]; rw [if_neg (by simp)]; rw [if_pos (by omega)])
              try clear k3
              try clear k2
              try clear i3
              go_wp2_with fail
              go_ret
              exact ⟨by rw [HC.out]; rfl, hB2⟩
            · have i2' : ¬ 63 < pt := by omega
              go_upto_region 10 with fail
              by_cases j1 : 64 ≤ bk
              · have j1' : 63 < bk := by omega
                have HC : Hid (m.chk = 50) := Lib.hid (by unfold Hp.chk; rw [HO.out, HPT.out, HBK.out, HLA.out, HRA.out]; unfold chkF; rw [if_neg (by omega)]; rw [if_neg (by omega)]; rw [if_neg (by simp)]; rw [if_pos (by omega)])
                try clear k3
                try clear k2
                try clear i3
                go_wp2_with fail
                go_ret
                exact ⟨by rw [HC.out]; rfl, hB2⟩
              · have j1' : ¬ 63 < bk := by omega
                go_upto_region 12 with fail
                by_cases k1 : bk < -1
                · have HC : Hid (m.chk = 54) := Lib.hid (by unfold Hp.chk; rw [HO.out, HPT.out, HBK.out, HLA.out, HRA.out]; unfold chkF; rw [if_neg (by omega)]; rw [if_neg (by omega)]; rw [if_neg (by simp)]; rw [if_neg (by omega)]; rw [if_pos (by omega)])
                  try clear k3
                  try clear k2
                  try clear i3
                  go_wp2_with fail
                  go_ret
                  exact ⟨by rw [HC.out]; rfl, hB2⟩
                · by_cases k2 : bk = -1
                  · have k2' : (bk == -1) = true := by simpa using k2
                    by_cases k4 : 0 < m.rn
                    · have k4' : (0 : Int) < (m.rn : Int) := by omega
                      have HC : Hid (m.chk = 54) := Lib.hid (by unfold Hp.chk; rw [HO.out, HPT.out, HBK.out, HLA.out, HRA.out]; unfold chkF; rw [if_neg (by omega)]; rw [if_neg (by omega)]; rw [if_neg (by simp)]; rw [if_neg (by omega)]; rw [if_pos (by omega)])
                      try clear k3
                      try clear k2
                      try clear i3
                      go_wp2_with fail
                      go_ret
                      exact ⟨by rw [HC.out]; rfl, hB2⟩
                    · have k4' : ¬ (0 : Int) < (m.rn : Int) := by omega
                      have k3' : (bk == pt) = false := by simp only [beq_eq_false_iff_ne]; omega
                      have HC : Hid (m.chk = 0) := Lib.hid (by unfold Hp.chk; rw [HO.out, HPT.out, HBK.out, HLA.out, HRA.out]; unfold chkF; rw [if_neg (by omega)]; rw [if_neg (by omega)]; rw [if_neg (by simp)]; rw [if_neg (by omega)]; rw [if_neg (by omega)])
                      try clear k3
                      try clear k2
                      try clear i3
                      go_wp2_with fail
                      go_ret
                      exact ⟨by rw [HC.out]; rfl, hB2⟩
                  · have k2' : (bk == -1) = false := by simpa using k2
                    by_cases k3 : bk = pt
                    · have k3' : (bk == pt) = true := by simpa using k3
                      have HC : Hid (m.chk = 54) := Lib.hid (by unfold Hp.chk; rw [HO.out, HPT.out, HBK.out, HLA.out, HRA.out]; unfold chkF; rw [if_neg (by omega)]; rw [if_neg (by omega)]; rw [if_neg (by simp)]; rw [if_neg (by omega)]; rw [if_pos (by omega)])
                      try clear k3
                      try clear k2
                      try clear i3
                      go_wp2_with fail
                      go_ret
                      exact ⟨by rw [HC.out]; rfl, hB2⟩
                    · have k3' : (bk == pt) = false := by simpa using k3
                      have HC : Hid (m.chk = 0) := Lib.hid (by unfold Hp.chk; rw [HO.out, HPT.out, HBK.out, HLA.out, HRA.out]; unfold chkF; rw [if_neg (by omega)]; rw [if_neg (by omega)]; rw [if_neg (by simp)]; rw [if_neg (by omega)]; rw [if_neg (by omega)])
                      try clear k3
                      try clear k2
                      try clear i3
                      go_wp2_with fail
                      go_ret
                      exact ⟨by rw [HC.out]; rfl, hB2⟩

set_option maxHeartbeats 4000000 in
theorem check_op1 (m : Hp) (w : World) (hh : m.ok w) (hop : m.op = 1) :
    Calls Try.prog 18 #[.agg m.cells.toArray] w fun e w' => e = .returned (.int .i64 m.chk) ∧ Below w.heap.size w w' := by
  have HR := Lib.hid hh
  obtain ⟨p, hp⟩ : ∃ p, m.l.all pushB = p := ⟨_, rfl⟩
  obtain ⟨q, hq⟩ : ∃ q, m.r.all pushB = q := ⟨_, rfl⟩
  obtain ⟨pt, hpt⟩ : ∃ z, m.port = z := ⟨_, rfl⟩
  obtain ⟨bk, hbk⟩ : ∃ z, m.bk = z := ⟨_, rfl⟩
  have HLA := Lib.hid hp
  have HRA := Lib.hid hq
  have HPT := Lib.hid hpt
  have HBK := Lib.hid hbk
  clear hp hq hpt hbk hh
  have HO := Lib.hid hop
  clear hop
  go_enter Try.func18, Try.ntmps18
  go_upto_region 1 with (refine wpList_box_blk (by rfl) 25 _ rfl m.cells rfl ?_; intro w1 hk_w1 hB1 hs1)
  have d0 : w1.cell? ⟨w.heap.size, 0, none⟩ = some (.int .i64 1) := (hk_w1.cell 0).trans (by show some (Value.int .i64 m.op) = _; rw [HO.out])
  have d1 : w1.cell? ⟨w.heap.size, 1, none⟩ = some (.slice m.lA m.ln m.lc) := hk_w1.cell 1
  have d2 : w1.cell? ⟨w.heap.size, 2, none⟩ = some (.int .i64 pt) := (hk_w1.cell 2).trans (by show some (Value.int .i64 m.port) = _; rw [HPT.out])
  have d3 : w1.cell? ⟨w.heap.size, 3, none⟩ = some (.int .i64 bk) := (hk_w1.cell 3).trans (by show some (Value.int .i64 m.bk) = _; rw [HBK.out])
  have d4 : w1.cell? ⟨w.heap.size, 4, none⟩ = some (.slice m.rA m.rn m.rc) := hk_w1.cell 4
  go_wp2_with fail
  refine (op_any 1 w1).mono ?_
  rintro e w2 ⟨rfl, hb2⟩
  rw [show opW 1 = [115, 119, 97, 112] from rfl]
  have hk_w2 := hk_w1.on hb2
  have hB2 := bthen hB1 hb2
  clear d0 d1 d2 d3 d4
  have d0 : w2.cell? ⟨w.heap.size, 0, none⟩ = some (.int .i64 1) := (hk_w2.cell 0).trans (by show some (Value.int .i64 m.op) = _; rw [HO.out])
  have d1 : w2.cell? ⟨w.heap.size, 1, none⟩ = some (.slice m.lA m.ln m.lc) := hk_w2.cell 1
  have d2 : w2.cell? ⟨w.heap.size, 2, none⟩ = some (.int .i64 pt) := (hk_w2.cell 2).trans (by show some (Value.int .i64 m.port) = _; rw [HPT.out])
  have d3 : w2.cell? ⟨w.heap.size, 3, none⟩ = some (.int .i64 bk) := (hk_w2.cell 3).trans (by show some (Value.int .i64 m.bk) = _; rw [HBK.out])
  have d4 : w2.cell? ⟨w.heap.size, 4, none⟩ = some (.slice m.rA m.rn m.rc) := hk_w2.cell 4
  by_cases f1 : m.ln = 0
  · have f1' : ((m.ln : Int) == 0) = true := by simp [f1]
    have HC : Hid (m.chk = 54) := Lib.hid (by unfold Hp.chk; rw [HO.out, HPT.out, HBK.out, HLA.out, HRA.out]; unfold chkF; rw [if_pos (by omega)])
    go_wp2_with fail
    go_ret
    exact ⟨by rw [HC.out]; rfl, hB2⟩
  · have f1' : ((m.ln : Int) == 0) = false := by simp [f1]
    go_upto_region 4 with fail
    obtain ⟨M, hM⟩ : ∃ M : Int, (if m.ln < m.rn then (m.rn : Int) else (m.ln : Int)) = M := ⟨_, rfl⟩
    by_cases g1 : 16 < m.ln
    · have g1' : (16 : Int) < (m.ln : Int) := by omega
      have hM1 : 16 < M := by rw [← hM]; split <;> omega
      have HC : Hid (m.chk = 51) := Lib.hid (by unfold Hp.chk; rw [HO.out, HPT.out, HBK.out, HLA.out, HRA.out]; unfold chkF; rw [if_neg (by omega)]; rw [if_pos (by omega)])
      try clear k3
      try clear k2
      try clear i3
      go_wp2_with fail
      go_ret
      exact ⟨by rw [HC.out]; rfl, hB2⟩
    · have g1' : ¬ (16 : Int) < (m.ln : Int) := by omega
      by_cases g2 : 16 < m.rn
      · have g2' : (16 : Int) < (m.rn : Int) := by omega
        have hM1 : 16 < M := by rw [← hM]; split <;> omega
        have HC : Hid (m.chk = 51) := Lib.hid (by unfold Hp.chk; rw [HO.out, HPT.out, HBK.out, HLA.out, HRA.out]; unfold chkF; rw [if_neg (by omega)]; rw [if_pos (by omega)])
        try clear k3
        try clear k2
        try clear i3
        go_wp2_with fail
        go_ret
        exact ⟨by rw [HC.out]; rfl, hB2⟩
      · have g2' : ¬ (16 : Int) < (m.rn : Int) := by omega
        have hM1 : ¬ 16 < M := by rw [← hM]; split <;> omega
        go_wp2_with fail
        refine (unpushed_any m.lA m.ln m.lc m.l w2 ((HR.out.lrow.below hB2).more hB2.size) (by omega)).mono ?_
        rintro e w8 ⟨rfl, rfl⟩
        rw [HLA.out]
        cases p
        · have HC : Hid (m.chk = 40) := Lib.hid (by unfold Hp.chk; rw [HO.out, HPT.out, HBK.out, HLA.out, HRA.out]; unfold chkF; rw [if_neg (by omega)]; rw [if_neg (by omega)]; rw [if_pos (by simp)])
          try clear k3
          try clear k2
          try clear i3
          go_wp2_with fail
          go_ret
          exact ⟨by rw [HC.out]; rfl, hB2⟩
        · go_wp2_with fail
          refine (unpushed_any m.rA m.rn m.rc m.r w2 ((HR.out.rrow.below hB2).more hB2.size) (by omega)).mono ?_
          rintro e w8 ⟨rfl, rfl⟩
          rw [HRA.out]
          cases q
          · have HC : Hid (m.chk = 40) := Lib.hid (by unfold Hp.chk; rw [HO.out, HPT.out, HBK.out, HLA.out, HRA.out]; unfold chkF; rw [if_neg (by omega)]; rw [if_neg (by omega)]; rw [if_pos (by simp)])
            try clear k3
            try clear k2
            try clear i3
            go_wp2_with fail
            go_ret
            exact ⟨by rw [HC.out]; rfl, hB2⟩
          · go_upto_region 8 with fail
            by_cases i1 : pt < 0
            · have HC : Hid (m.chk = 50) := Lib.hid (by unfold Hp.chk; rw [HO.out, HPT.out, HBK.out, HLA.out, HRA.out]; unfold chkF; rw [if_neg (by omega)]; rw [if_neg (by omega)]; rw [if_neg (by simp)]; rw [if_pos (by omega)])
              try clear k3
              try clear k2
              try clear i3
              go_wp2_with fail
              go_ret
              exact ⟨by rw [HC.out]; rfl, hB2⟩
            · by_cases i2 : 64 ≤ pt
              · have i2' : 63 < pt := by omega
                have HC : Hid (m.chk = 50) := Lib.hid (by unfold Hp.chk; rw [HO.out, HPT.out, HBK.out, HLA.out, HRA.out]; unfold chkF; rw [if_neg (by omega)]; rw [if_neg (by omega)]; rw [if_neg (by simp)]; rw [if_pos (by omega)])
                try clear k3
                try clear k2
                try clear i3
                go_wp2_with fail
                go_ret
                exact ⟨by rw [HC.out]; rfl, hB2⟩
              · have i2' : ¬ 63 < pt := by omega
                go_upto_region 10 with fail
                by_cases j1 : 64 ≤ bk
                · have j1' : 63 < bk := by omega
                  have HC : Hid (m.chk = 50) := Lib.hid (by unfold Hp.chk; rw [HO.out, HPT.out, HBK.out, HLA.out, HRA.out]; unfold chkF; rw [if_neg (by omega)]; rw [if_neg (by omega)]; rw [if_neg (by simp)]; rw [if_pos (by omega)])
                  try clear k3
                  try clear k2
                  try clear i3
                  go_wp2_with fail
                  go_ret
                  exact ⟨by rw [HC.out]; rfl, hB2⟩
                · have j1' : ¬ 63 < bk := by omega
                  go_upto_region 12 with fail
                  by_cases k1 : bk < -1
                  · have HC : Hid (m.chk = 54) := Lib.hid (by unfold Hp.chk; rw [HO.out, HPT.out, HBK.out, HLA.out, HRA.out]; unfold chkF; rw [if_neg (by omega)]; rw [if_neg (by omega)]; rw [if_neg (by simp)]; rw [if_neg (by omega)]; rw [if_pos (by omega)])
                    try clear k3
                    try clear k2
                    try clear i3
                    go_wp2_with fail
                    go_ret
                    exact ⟨by rw [HC.out]; rfl, hB2⟩
                  · by_cases k2 : bk = -1
                    · have k2' : (bk == -1) = true := by simpa using k2
                      by_cases k4 : 0 < m.rn
                      · have k4' : (0 : Int) < (m.rn : Int) := by omega
                        have HC : Hid (m.chk = 54) := Lib.hid (by unfold Hp.chk; rw [HO.out, HPT.out, HBK.out, HLA.out, HRA.out]; unfold chkF; rw [if_neg (by omega)]; rw [if_neg (by omega)]; rw [if_neg (by simp)]; rw [if_neg (by omega)]; rw [if_pos (by omega)])
                        try clear k3
                        try clear k2
                        try clear i3
                        go_wp2_with fail
                        go_ret
                        exact ⟨by rw [HC.out]; rfl, hB2⟩
                      · have k4' : ¬ (0 : Int) < (m.rn : Int) := by omega
                        have k3' : (bk == pt) = false := by simp only [beq_eq_false_iff_ne]; omega
                        have HC : Hid (m.chk = 0) := Lib.hid (by unfold Hp.chk; rw [HO.out, HPT.out, HBK.out, HLA.out, HRA.out]; unfold chkF; rw [if_neg (by omega)]; rw [if_neg (by omega)]; rw [if_neg (by simp)]; rw [if_neg (by omega)]; rw [if_neg (by omega)])
                        try clear k3
                        try clear k2
                        try clear i3
                        go_wp2_with fail
                        go_ret
                        exact ⟨by rw [HC.out]; rfl, hB2⟩
                    · have k2' : (bk == -1) = false := by simpa using k2
                      by_cases k3 : bk = pt
                      · have k3' : (bk == pt) = true := by simpa using k3
                        have HC : Hid (m.chk = 54) := Lib.hid (by unfold Hp.chk; rw [HO.out, HPT.out, HBK.out, HLA.out, HRA.out]; unfold chkF; rw [if_neg (by omega)]; rw [if_neg (by omega)]; rw [if_neg (by simp)]; rw [if_neg (by omega)]; rw [if_pos (by omega)])
                        try clear k3
                        try clear k2
                        try clear i3
                        go_wp2_with fail
                        go_ret
                        exact ⟨by rw [HC.out]; rfl, hB2⟩
                      · have k3' : (bk == pt) = false := by simpa using k3
                        have HC : Hid (m.chk = 0) := Lib.hid (by unfold Hp.chk; rw [HO.out, HPT.out, HBK.out, HLA.out, HRA.out]; unfold chkF; rw [if_neg (by omega)]; rw [if_neg (by omega)]; rw [if_neg (by simp)]; rw [if_neg (by omega)]; rw [if_neg (by omega)])
                        try clear k3
                        try clear k2
                        try clear i3
                        go_wp2_with fail
                        go_ret
                        exact ⟨by rw [HC.out]; rfl, hB2⟩

set_option maxHeartbeats 4000000 in
theorem check_op2 (m : Hp) (w : World) (hh : m.ok w) (hop : m.op = 2) :
    Calls Try.prog 18 #[.agg m.cells.toArray] w fun e w' => e = .returned (.int .i64 m.chk) ∧ Below w.heap.size w w' := by
  have HR := Lib.hid hh
  obtain ⟨p, hp⟩ : ∃ p, m.l.all pushB = p := ⟨_, rfl⟩
  obtain ⟨q, hq⟩ : ∃ q, m.r.all pushB = q := ⟨_, rfl⟩
  obtain ⟨pt, hpt⟩ : ∃ z, m.port = z := ⟨_, rfl⟩
  obtain ⟨bk, hbk⟩ : ∃ z, m.bk = z := ⟨_, rfl⟩
  have HLA := Lib.hid hp
  have HRA := Lib.hid hq
  have HPT := Lib.hid hpt
  have HBK := Lib.hid hbk
  clear hp hq hpt hbk hh
  have HO := Lib.hid hop
  clear hop
  go_enter Try.func18, Try.ntmps18
  go_upto_region 1 with (refine wpList_box_blk (by rfl) 25 _ rfl m.cells rfl ?_; intro w1 hk_w1 hB1 hs1)
  have d0 : w1.cell? ⟨w.heap.size, 0, none⟩ = some (.int .i64 2) := (hk_w1.cell 0).trans (by show some (Value.int .i64 m.op) = _; rw [HO.out])
  have d1 : w1.cell? ⟨w.heap.size, 1, none⟩ = some (.slice m.lA m.ln m.lc) := hk_w1.cell 1
  have d2 : w1.cell? ⟨w.heap.size, 2, none⟩ = some (.int .i64 pt) := (hk_w1.cell 2).trans (by show some (Value.int .i64 m.port) = _; rw [HPT.out])
  have d3 : w1.cell? ⟨w.heap.size, 3, none⟩ = some (.int .i64 bk) := (hk_w1.cell 3).trans (by show some (Value.int .i64 m.bk) = _; rw [HBK.out])
  have d4 : w1.cell? ⟨w.heap.size, 4, none⟩ = some (.slice m.rA m.rn m.rc) := hk_w1.cell 4
  go_wp2_with fail
  refine (op_any 2 w1).mono ?_
  rintro e w2 ⟨rfl, hb2⟩
  rw [show opW 2 = [112, 111, 112] from rfl]
  have hk_w2 := hk_w1.on hb2
  have hB2 := bthen hB1 hb2
  clear d0 d1 d2 d3 d4
  have d0 : w2.cell? ⟨w.heap.size, 0, none⟩ = some (.int .i64 2) := (hk_w2.cell 0).trans (by show some (Value.int .i64 m.op) = _; rw [HO.out])
  have d1 : w2.cell? ⟨w.heap.size, 1, none⟩ = some (.slice m.lA m.ln m.lc) := hk_w2.cell 1
  have d2 : w2.cell? ⟨w.heap.size, 2, none⟩ = some (.int .i64 pt) := (hk_w2.cell 2).trans (by show some (Value.int .i64 m.port) = _; rw [HPT.out])
  have d3 : w2.cell? ⟨w.heap.size, 3, none⟩ = some (.int .i64 bk) := (hk_w2.cell 3).trans (by show some (Value.int .i64 m.bk) = _; rw [HBK.out])
  have d4 : w2.cell? ⟨w.heap.size, 4, none⟩ = some (.slice m.rA m.rn m.rc) := hk_w2.cell 4
  by_cases f1 : 0 < m.ln
  · have f1' : (0 : Int) < (m.ln : Int) := by omega
    have HC : Hid (m.chk = 54) := Lib.hid (by unfold Hp.chk; rw [HO.out, HPT.out, HBK.out, HLA.out, HRA.out]; unfold chkF; rw [if_pos (by omega)])
    go_wp2_with fail
    go_ret
    exact ⟨by rw [HC.out]; rfl, hB2⟩
  · have f1' : ¬ (0 : Int) < (m.ln : Int) := by omega
    go_upto_region 4 with fail
    obtain ⟨M, hM⟩ : ∃ M : Int, (if m.ln < m.rn then (m.rn : Int) else (m.ln : Int)) = M := ⟨_, rfl⟩
    by_cases g1 : 16 < m.ln
    · have g1' : (16 : Int) < (m.ln : Int) := by omega
      have hM1 : 16 < M := by rw [← hM]; split <;> omega
      exact absurd g1 (by omega)
    · have g1' : ¬ (16 : Int) < (m.ln : Int) := by omega
      by_cases g2 : 16 < m.rn
      · have g2' : (16 : Int) < (m.rn : Int) := by omega
        have hM1 : 16 < M := by rw [← hM]; split <;> omega
        have HC : Hid (m.chk = 51) := Lib.hid (by unfold Hp.chk; rw [HO.out, HPT.out, HBK.out, HLA.out, HRA.out]; unfold chkF; rw [if_neg (by omega)]; rw [if_pos (by omega)])
        try clear k3
        try clear k2
        try clear i3
        go_wp2_with fail
        go_ret
        exact ⟨by rw [HC.out]; rfl, hB2⟩
      · have g2' : ¬ (16 : Int) < (m.rn : Int) := by omega
        have hM1 : ¬ 16 < M := by rw [← hM]; split <;> omega
        go_wp2_with fail
        refine (unpushed_any m.lA m.ln m.lc m.l w2 ((HR.out.lrow.below hB2).more hB2.size) (by omega)).mono ?_
        rintro e w8 ⟨rfl, rfl⟩
        rw [HLA.out]
        cases p
        · have HC : Hid (m.chk = 40) := Lib.hid (by unfold Hp.chk; rw [HO.out, HPT.out, HBK.out, HLA.out, HRA.out]; unfold chkF; rw [if_neg (by omega)]; rw [if_neg (by omega)]; rw [if_pos (by simp)])
          try clear k3
          try clear k2
          try clear i3
          go_wp2_with fail
          go_ret
          exact ⟨by rw [HC.out]; rfl, hB2⟩
        · go_wp2_with fail
          refine (unpushed_any m.rA m.rn m.rc m.r w2 ((HR.out.rrow.below hB2).more hB2.size) (by omega)).mono ?_
          rintro e w8 ⟨rfl, rfl⟩
          rw [HRA.out]
          cases q
          · have HC : Hid (m.chk = 40) := Lib.hid (by unfold Hp.chk; rw [HO.out, HPT.out, HBK.out, HLA.out, HRA.out]; unfold chkF; rw [if_neg (by omega)]; rw [if_neg (by omega)]; rw [if_pos (by simp)])
            try clear k3
            try clear k2
            try clear i3
            go_wp2_with fail
            go_ret
            exact ⟨by rw [HC.out]; rfl, hB2⟩
          · go_upto_region 8 with fail
            by_cases i1 : pt < 0
            · have HC : Hid (m.chk = 50) := Lib.hid (by unfold Hp.chk; rw [HO.out, HPT.out, HBK.out, HLA.out, HRA.out]; unfold chkF; rw [if_neg (by omega)]; rw [if_neg (by omega)]; rw [if_neg (by simp)]; rw [if_pos (by omega)])
              try clear k3
              try clear k2
              try clear i3
              go_wp2_with fail
              go_ret
              exact ⟨by rw [HC.out]; rfl, hB2⟩
            · by_cases i2 : 64 ≤ pt
              · have i2' : 63 < pt := by omega
                have HC : Hid (m.chk = 50) := Lib.hid (by unfold Hp.chk; rw [HO.out, HPT.out, HBK.out, HLA.out, HRA.out]; unfold chkF; rw [if_neg (by omega)]; rw [if_neg (by omega)]; rw [if_neg (by simp)]; rw [if_pos (by omega)])
                try clear k3
                try clear k2
                try clear i3
                go_wp2_with fail
                go_ret
                exact ⟨by rw [HC.out]; rfl, hB2⟩
              · have i2' : ¬ 63 < pt := by omega
                go_upto_region 10 with fail
                by_cases j1 : 64 ≤ bk
                · have j1' : 63 < bk := by omega
                  have HC : Hid (m.chk = 50) := Lib.hid (by unfold Hp.chk; rw [HO.out, HPT.out, HBK.out, HLA.out, HRA.out]; unfold chkF; rw [if_neg (by omega)]; rw [if_neg (by omega)]; rw [if_neg (by simp)]; rw [if_pos (by omega)])
                  try clear k3
                  try clear k2
                  try clear i3
                  go_wp2_with fail
                  go_ret
                  exact ⟨by rw [HC.out]; rfl, hB2⟩
                · have j1' : ¬ 63 < bk := by omega
                  go_upto_region 12 with fail
                  by_cases k1 : bk < -1
                  · have HC : Hid (m.chk = 54) := Lib.hid (by unfold Hp.chk; rw [HO.out, HPT.out, HBK.out, HLA.out, HRA.out]; unfold chkF; rw [if_neg (by omega)]; rw [if_neg (by omega)]; rw [if_neg (by simp)]; rw [if_neg (by omega)]; rw [if_pos (by omega)])
                    try clear k3
                    try clear k2
                    try clear i3
                    go_wp2_with fail
                    go_ret
                    exact ⟨by rw [HC.out]; rfl, hB2⟩
                  · by_cases k2 : bk = -1
                    · have k2' : (bk == -1) = true := by simpa using k2
                      by_cases k4 : 0 < m.rn
                      · have k4' : (0 : Int) < (m.rn : Int) := by omega
                        have HC : Hid (m.chk = 54) := Lib.hid (by unfold Hp.chk; rw [HO.out, HPT.out, HBK.out, HLA.out, HRA.out]; unfold chkF; rw [if_neg (by omega)]; rw [if_neg (by omega)]; rw [if_neg (by simp)]; rw [if_neg (by omega)]; rw [if_pos (by omega)])
                        try clear k3
                        try clear k2
                        try clear i3
                        go_wp2_with fail
                        go_ret
                        exact ⟨by rw [HC.out]; rfl, hB2⟩
                      · have k4' : ¬ (0 : Int) < (m.rn : Int) := by omega
                        have k3' : (bk == pt) = false := by simp only [beq_eq_false_iff_ne]; omega
                        have HC : Hid (m.chk = 0) := Lib.hid (by unfold Hp.chk; rw [HO.out, HPT.out, HBK.out, HLA.out, HRA.out]; unfold chkF; rw [if_neg (by omega)]; rw [if_neg (by omega)]; rw [if_neg (by simp)]; rw [if_neg (by omega)]; rw [if_neg (by omega)])
                        try clear k3
                        try clear k2
                        try clear i3
                        go_wp2_with fail
                        go_ret
                        exact ⟨by rw [HC.out]; rfl, hB2⟩
                    · have k2' : (bk == -1) = false := by simpa using k2
                      by_cases k3 : bk = pt
                      · have k3' : (bk == pt) = true := by simpa using k3
                        have HC : Hid (m.chk = 54) := Lib.hid (by unfold Hp.chk; rw [HO.out, HPT.out, HBK.out, HLA.out, HRA.out]; unfold chkF; rw [if_neg (by omega)]; rw [if_neg (by omega)]; rw [if_neg (by simp)]; rw [if_neg (by omega)]; rw [if_pos (by omega)])
                        try clear k3
                        try clear k2
                        try clear i3
                        go_wp2_with fail
                        go_ret
                        exact ⟨by rw [HC.out]; rfl, hB2⟩
                      · have k3' : (bk == pt) = false := by simpa using k3
                        have HC : Hid (m.chk = 0) := Lib.hid (by unfold Hp.chk; rw [HO.out, HPT.out, HBK.out, HLA.out, HRA.out]; unfold chkF; rw [if_neg (by omega)]; rw [if_neg (by omega)]; rw [if_neg (by simp)]; rw [if_neg (by omega)]; rw [if_neg (by omega)])
                        try clear k3
                        try clear k2
                        try clear i3
                        go_wp2_with fail
                        go_ret
                        exact ⟨by rw [HC.out]; rfl, hB2⟩

set_option maxHeartbeats 4000000 in
theorem check_op3 (m : Hp) (w : World) (hh : m.ok w) (hop : m.op = 3) :
    Calls Try.prog 18 #[.agg m.cells.toArray] w fun e w' => e = .returned (.int .i64 m.chk) ∧ Below w.heap.size w w' := by
  have HR := Lib.hid hh
  obtain ⟨p, hp⟩ : ∃ p, m.l.all pushB = p := ⟨_, rfl⟩
  obtain ⟨q, hq⟩ : ∃ q, m.r.all pushB = q := ⟨_, rfl⟩
  obtain ⟨pt, hpt⟩ : ∃ z, m.port = z := ⟨_, rfl⟩
  obtain ⟨bk, hbk⟩ : ∃ z, m.bk = z := ⟨_, rfl⟩
  have HLA := Lib.hid hp
  have HRA := Lib.hid hq
  have HPT := Lib.hid hpt
  have HBK := Lib.hid hbk
  clear hp hq hpt hbk hh
  have HO := Lib.hid hop
  clear hop
  go_enter Try.func18, Try.ntmps18
  go_upto_region 1 with (refine wpList_box_blk (by rfl) 25 _ rfl m.cells rfl ?_; intro w1 hk_w1 hB1 hs1)
  have d0 : w1.cell? ⟨w.heap.size, 0, none⟩ = some (.int .i64 3) := (hk_w1.cell 0).trans (by show some (Value.int .i64 m.op) = _; rw [HO.out])
  have d1 : w1.cell? ⟨w.heap.size, 1, none⟩ = some (.slice m.lA m.ln m.lc) := hk_w1.cell 1
  have d2 : w1.cell? ⟨w.heap.size, 2, none⟩ = some (.int .i64 pt) := (hk_w1.cell 2).trans (by show some (Value.int .i64 m.port) = _; rw [HPT.out])
  have d3 : w1.cell? ⟨w.heap.size, 3, none⟩ = some (.int .i64 bk) := (hk_w1.cell 3).trans (by show some (Value.int .i64 m.bk) = _; rw [HBK.out])
  have d4 : w1.cell? ⟨w.heap.size, 4, none⟩ = some (.slice m.rA m.rn m.rc) := hk_w1.cell 4
  go_wp2_with fail
  refine (op_any 3 w1).mono ?_
  rintro e w2 ⟨rfl, hb2⟩
  rw [show opW 3 = [104, 101, 114, 101] from rfl]
  have hk_w2 := hk_w1.on hb2
  have hB2 := bthen hB1 hb2
  clear d0 d1 d2 d3 d4
  have d0 : w2.cell? ⟨w.heap.size, 0, none⟩ = some (.int .i64 3) := (hk_w2.cell 0).trans (by show some (Value.int .i64 m.op) = _; rw [HO.out])
  have d1 : w2.cell? ⟨w.heap.size, 1, none⟩ = some (.slice m.lA m.ln m.lc) := hk_w2.cell 1
  have d2 : w2.cell? ⟨w.heap.size, 2, none⟩ = some (.int .i64 pt) := (hk_w2.cell 2).trans (by show some (Value.int .i64 m.port) = _; rw [HPT.out])
  have d3 : w2.cell? ⟨w.heap.size, 3, none⟩ = some (.int .i64 bk) := (hk_w2.cell 3).trans (by show some (Value.int .i64 m.bk) = _; rw [HBK.out])
  have d4 : w2.cell? ⟨w.heap.size, 4, none⟩ = some (.slice m.rA m.rn m.rc) := hk_w2.cell 4
  by_cases f1 : 0 < m.ln
  · have f1' : (0 : Int) < (m.ln : Int) := by omega
    have HC : Hid (m.chk = 54) := Lib.hid (by unfold Hp.chk; rw [HO.out, HPT.out, HBK.out, HLA.out, HRA.out]; unfold chkF; rw [if_pos (by omega)])
    go_wp2_with fail
    go_ret
    exact ⟨by rw [HC.out]; rfl, hB2⟩
  · have f1' : ¬ (0 : Int) < (m.ln : Int) := by omega
    go_upto_region 4 with fail
    obtain ⟨M, hM⟩ : ∃ M : Int, (if m.ln < m.rn then (m.rn : Int) else (m.ln : Int)) = M := ⟨_, rfl⟩
    by_cases g1 : 16 < m.ln
    · have g1' : (16 : Int) < (m.ln : Int) := by omega
      have hM1 : 16 < M := by rw [← hM]; split <;> omega
      exact absurd g1 (by omega)
    · have g1' : ¬ (16 : Int) < (m.ln : Int) := by omega
      by_cases g2 : 16 < m.rn
      · have g2' : (16 : Int) < (m.rn : Int) := by omega
        have hM1 : 16 < M := by rw [← hM]; split <;> omega
        have HC : Hid (m.chk = 51) := Lib.hid (by unfold Hp.chk; rw [HO.out, HPT.out, HBK.out, HLA.out, HRA.out]; unfold chkF; rw [if_neg (by omega)]; rw [if_pos (by omega)])
        try clear k3
        try clear k2
        try clear i3
        go_wp2_with fail
        go_ret
        exact ⟨by rw [HC.out]; rfl, hB2⟩
      · have g2' : ¬ (16 : Int) < (m.rn : Int) := by omega
        have hM1 : ¬ 16 < M := by rw [← hM]; split <;> omega
        go_wp2_with fail
        refine (unpushed_any m.lA m.ln m.lc m.l w2 ((HR.out.lrow.below hB2).more hB2.size) (by omega)).mono ?_
        rintro e w8 ⟨rfl, rfl⟩
        rw [HLA.out]
        cases p
        · have HC : Hid (m.chk = 40) := Lib.hid (by unfold Hp.chk; rw [HO.out, HPT.out, HBK.out, HLA.out, HRA.out]; unfold chkF; rw [if_neg (by omega)]; rw [if_neg (by omega)]; rw [if_pos (by simp)])
          try clear k3
          try clear k2
          try clear i3
          go_wp2_with fail
          go_ret
          exact ⟨by rw [HC.out]; rfl, hB2⟩
        · go_wp2_with fail
          refine (unpushed_any m.rA m.rn m.rc m.r w2 ((HR.out.rrow.below hB2).more hB2.size) (by omega)).mono ?_
          rintro e w8 ⟨rfl, rfl⟩
          rw [HRA.out]
          cases q
          · have HC : Hid (m.chk = 40) := Lib.hid (by unfold Hp.chk; rw [HO.out, HPT.out, HBK.out, HLA.out, HRA.out]; unfold chkF; rw [if_neg (by omega)]; rw [if_neg (by omega)]; rw [if_pos (by simp)])
            try clear k3
            try clear k2
            try clear i3
            go_wp2_with fail
            go_ret
            exact ⟨by rw [HC.out]; rfl, hB2⟩
          · go_upto_region 8 with fail
            by_cases i1 : pt < 0
            · have HC : Hid (m.chk = 50) := Lib.hid (by unfold Hp.chk; rw [HO.out, HPT.out, HBK.out, HLA.out, HRA.out]; unfold chkF; rw [if_neg (by omega)]; rw [if_neg (by omega)]; rw [if_neg (by simp)]; rw [if_pos (by omega)])
              try clear k3
              try clear k2
              try clear i3
              go_wp2_with fail
              go_ret
              exact ⟨by rw [HC.out]; rfl, hB2⟩
            · by_cases i2 : 64 ≤ pt
              · have i2' : 63 < pt := by omega
                have HC : Hid (m.chk = 50) := Lib.hid (by unfold Hp.chk; rw [HO.out, HPT.out, HBK.out, HLA.out, HRA.out]; unfold chkF; rw [if_neg (by omega)]; rw [if_neg (by omega)]; rw [if_neg (by simp)]; rw [if_pos (by omega)])
                try clear k3
                try clear k2
                try clear i3
                go_wp2_with fail
                go_ret
                exact ⟨by rw [HC.out]; rfl, hB2⟩
              · have i2' : ¬ 63 < pt := by omega
                by_cases i3 : pt = 0
                · have i3' : (pt != 0) = false := by simp [i3]
                  go_upto_region 10 with fail
                  by_cases j1 : 64 ≤ bk
                  · have j1' : 63 < bk := by omega
                    have HC : Hid (m.chk = 50) := Lib.hid (by unfold Hp.chk; rw [HO.out, HPT.out, HBK.out, HLA.out, HRA.out]; unfold chkF; rw [if_neg (by omega)]; rw [if_neg (by omega)]; rw [if_neg (by simp)]; rw [if_pos (by omega)])
                    try clear k3
                    try clear k2
                    try clear i3
                    go_wp2_with fail
                    go_ret
                    exact ⟨by rw [HC.out]; rfl, hB2⟩
                  · have j1' : ¬ 63 < bk := by omega
                    by_cases j2 : 0 ≤ bk
                    · have HC : Hid (m.chk = 50) := Lib.hid (by unfold Hp.chk; rw [HO.out, HPT.out, HBK.out, HLA.out, HRA.out]; unfold chkF; rw [if_neg (by omega)]; rw [if_neg (by omega)]; rw [if_neg (by simp)]; rw [if_pos (by omega)])
                      try clear k3
                      try clear k2
                      try clear i3
                      go_wp2_with fail
                      go_ret
                      exact ⟨by rw [HC.out]; rfl, hB2⟩
                    · go_upto_region 12 with fail
                      by_cases k1 : bk < -1
                      · have HC : Hid (m.chk = 54) := Lib.hid (by unfold Hp.chk; rw [HO.out, HPT.out, HBK.out, HLA.out, HRA.out]; unfold chkF; rw [if_neg (by omega)]; rw [if_neg (by omega)]; rw [if_neg (by simp)]; rw [if_neg (by omega)]; rw [if_pos (by omega)])
                        try clear k3
                        try clear k2
                        try clear i3
                        go_wp2_with fail
                        go_ret
                        exact ⟨by rw [HC.out]; rfl, hB2⟩
                      · by_cases k2 : bk = -1
                        · have k2' : (bk == -1) = true := by simpa using k2
                          by_cases k4 : 0 < m.rn
                          · have k4' : (0 : Int) < (m.rn : Int) := by omega
                            have HC : Hid (m.chk = 54) := Lib.hid (by unfold Hp.chk; rw [HO.out, HPT.out, HBK.out, HLA.out, HRA.out]; unfold chkF; rw [if_neg (by omega)]; rw [if_neg (by omega)]; rw [if_neg (by simp)]; rw [if_neg (by omega)]; rw [if_pos (by omega)])
                            try clear k3
                            try clear k2
                            try clear i3
                            go_wp2_with fail
                            go_ret
                            exact ⟨by rw [HC.out]; rfl, hB2⟩
                          · have k4' : ¬ (0 : Int) < (m.rn : Int) := by omega
                            have k3' : (bk == pt) = false := by simp only [beq_eq_false_iff_ne]; omega
                            have HC : Hid (m.chk = 0) := Lib.hid (by unfold Hp.chk; rw [HO.out, HPT.out, HBK.out, HLA.out, HRA.out]; unfold chkF; rw [if_neg (by omega)]; rw [if_neg (by omega)]; rw [if_neg (by simp)]; rw [if_neg (by omega)]; rw [if_neg (by omega)])
                            try clear k3
                            try clear k2
                            try clear i3
                            go_wp2_with fail
                            go_ret
                            exact ⟨by rw [HC.out]; rfl, hB2⟩
                        · have k2' : (bk == -1) = false := by simpa using k2
                          by_cases k3 : bk = pt
                          · have k3' : (bk == pt) = true := by simpa using k3
                            have HC : Hid (m.chk = 54) := Lib.hid (by unfold Hp.chk; rw [HO.out, HPT.out, HBK.out, HLA.out, HRA.out]; unfold chkF; rw [if_neg (by omega)]; rw [if_neg (by omega)]; rw [if_neg (by simp)]; rw [if_neg (by omega)]; rw [if_pos (by omega)])
                            try clear k3
                            try clear k2
                            try clear i3
                            go_wp2_with fail
                            go_ret
                            exact ⟨by rw [HC.out]; rfl, hB2⟩
                          · have k3' : (bk == pt) = false := by simpa using k3
                            have HC : Hid (m.chk = 0) := Lib.hid (by unfold Hp.chk; rw [HO.out, HPT.out, HBK.out, HLA.out, HRA.out]; unfold chkF; rw [if_neg (by omega)]; rw [if_neg (by omega)]; rw [if_neg (by simp)]; rw [if_neg (by omega)]; rw [if_neg (by omega)])
                            try clear k3
                            try clear k2
                            try clear i3
                            go_wp2_with fail
                            go_ret
                            exact ⟨by rw [HC.out]; rfl, hB2⟩
                · have i3' : (pt != 0) = true := by simpa [bne] using i3
                  have HC : Hid (m.chk = 50) := Lib.hid (by unfold Hp.chk; rw [HO.out, HPT.out, HBK.out, HLA.out, HRA.out]; unfold chkF; rw [if_neg (by omega)]; rw [if_neg (by omega)]; rw [if_neg (by simp)]; rw [if_pos (by omega)])
                  try clear k3
                  try clear k2
                  try clear i3
                  go_wp2_with fail
                  go_ret
                  exact ⟨by rw [HC.out]; rfl, hB2⟩

set_option maxHeartbeats 4000000 in
theorem check_opL (m : Hp) (w : World) (hh : m.ok w) (hop : m.op < 0) :
    Calls Try.prog 18 #[.agg m.cells.toArray] w fun e w' => e = .returned (.int .i64 m.chk) ∧ Below w.heap.size w w' := by
  have HR := Lib.hid hh
  obtain ⟨p, hp⟩ : ∃ p, m.l.all pushB = p := ⟨_, rfl⟩
  obtain ⟨q, hq⟩ : ∃ q, m.r.all pushB = q := ⟨_, rfl⟩
  obtain ⟨pt, hpt⟩ : ∃ z, m.port = z := ⟨_, rfl⟩
  obtain ⟨bk, hbk⟩ : ∃ z, m.bk = z := ⟨_, rfl⟩
  have HLA := Lib.hid hp
  have HRA := Lib.hid hq
  have HPT := Lib.hid hpt
  have HBK := Lib.hid hbk
  clear hp hq hpt hbk hh
  obtain ⟨o, ho⟩ : ∃ o, m.op = o := ⟨_, rfl⟩
  rw [ho] at hop
  have HO := Lib.hid ho
  clear ho
  have HOW : Hid (opW o = []) := Lib.hid (by unfold opW; rw [if_neg (by omega), if_neg (by omega), if_neg (by omega), if_neg (by omega)])
  have HC : Hid (m.chk = 54) := Lib.hid (by unfold Hp.chk; rw [HO.out, HPT.out, HBK.out, HLA.out, HRA.out]; unfold chkF; rw [if_pos (by omega)])
  go_enter Try.func18, Try.ntmps18
  go_upto_region 1 with (refine wpList_box_blk (by rfl) 25 _ rfl m.cells rfl ?_; intro w1 hk_w1 hB1 hs1)
  have d0 : w1.cell? ⟨w.heap.size, 0, none⟩ = some (.int .i64 o) := (hk_w1.cell 0).trans (by show some (Value.int .i64 m.op) = _; rw [HO.out])
  have d1 : w1.cell? ⟨w.heap.size, 1, none⟩ = some (.slice m.lA m.ln m.lc) := hk_w1.cell 1
  have d2 : w1.cell? ⟨w.heap.size, 2, none⟩ = some (.int .i64 pt) := (hk_w1.cell 2).trans (by show some (Value.int .i64 m.port) = _; rw [HPT.out])
  have d3 : w1.cell? ⟨w.heap.size, 3, none⟩ = some (.int .i64 bk) := (hk_w1.cell 3).trans (by show some (Value.int .i64 m.bk) = _; rw [HBK.out])
  have d4 : w1.cell? ⟨w.heap.size, 4, none⟩ = some (.slice m.rA m.rn m.rc) := hk_w1.cell 4
  go_wp2_with fail
  refine (op_any o w1).mono ?_
  rintro e w2 ⟨rfl, hb2⟩
  rw [HOW.out]
  have hk_w2 := hk_w1.on hb2
  have hB2 := bthen hB1 hb2
  clear d0 d1 d2 d3 d4
  have d0 : w2.cell? ⟨w.heap.size, 0, none⟩ = some (.int .i64 o) := (hk_w2.cell 0).trans (by show some (Value.int .i64 m.op) = _; rw [HO.out])
  have d1 : w2.cell? ⟨w.heap.size, 1, none⟩ = some (.slice m.lA m.ln m.lc) := hk_w2.cell 1
  have d2 : w2.cell? ⟨w.heap.size, 2, none⟩ = some (.int .i64 pt) := (hk_w2.cell 2).trans (by show some (Value.int .i64 m.port) = _; rw [HPT.out])
  have d3 : w2.cell? ⟨w.heap.size, 3, none⟩ = some (.int .i64 bk) := (hk_w2.cell 3).trans (by show some (Value.int .i64 m.bk) = _; rw [HBK.out])
  have d4 : w2.cell? ⟨w.heap.size, 4, none⟩ = some (.slice m.rA m.rn m.rc) := hk_w2.cell 4
  go_wp2_with fail
  go_ret
  exact ⟨by rw [HC.out]; rfl, hB2⟩

set_option maxHeartbeats 4000000 in
theorem check_opH (m : Hp) (w : World) (hh : m.ok w) (hop : 3 < m.op) :
    Calls Try.prog 18 #[.agg m.cells.toArray] w fun e w' => e = .returned (.int .i64 m.chk) ∧ Below w.heap.size w w' := by
  have HR := Lib.hid hh
  obtain ⟨p, hp⟩ : ∃ p, m.l.all pushB = p := ⟨_, rfl⟩
  obtain ⟨q, hq⟩ : ∃ q, m.r.all pushB = q := ⟨_, rfl⟩
  obtain ⟨pt, hpt⟩ : ∃ z, m.port = z := ⟨_, rfl⟩
  obtain ⟨bk, hbk⟩ : ∃ z, m.bk = z := ⟨_, rfl⟩
  have HLA := Lib.hid hp
  have HRA := Lib.hid hq
  have HPT := Lib.hid hpt
  have HBK := Lib.hid hbk
  clear hp hq hpt hbk hh
  obtain ⟨o, ho⟩ : ∃ o, m.op = o := ⟨_, rfl⟩
  rw [ho] at hop
  have HO := Lib.hid ho
  clear ho
  have HOW : Hid (opW o = []) := Lib.hid (by unfold opW; rw [if_neg (by omega), if_neg (by omega), if_neg (by omega), if_neg (by omega)])
  have hop2 : ¬ o < 0 := by omega
  have HC : Hid (m.chk = 54) := Lib.hid (by unfold Hp.chk; rw [HO.out, HPT.out, HBK.out, HLA.out, HRA.out]; unfold chkF; rw [if_pos (by omega)])
  go_enter Try.func18, Try.ntmps18
  go_upto_region 1 with (refine wpList_box_blk (by rfl) 25 _ rfl m.cells rfl ?_; intro w1 hk_w1 hB1 hs1)
  have d0 : w1.cell? ⟨w.heap.size, 0, none⟩ = some (.int .i64 o) := (hk_w1.cell 0).trans (by show some (Value.int .i64 m.op) = _; rw [HO.out])
  have d1 : w1.cell? ⟨w.heap.size, 1, none⟩ = some (.slice m.lA m.ln m.lc) := hk_w1.cell 1
  have d2 : w1.cell? ⟨w.heap.size, 2, none⟩ = some (.int .i64 pt) := (hk_w1.cell 2).trans (by show some (Value.int .i64 m.port) = _; rw [HPT.out])
  have d3 : w1.cell? ⟨w.heap.size, 3, none⟩ = some (.int .i64 bk) := (hk_w1.cell 3).trans (by show some (Value.int .i64 m.bk) = _; rw [HBK.out])
  have d4 : w1.cell? ⟨w.heap.size, 4, none⟩ = some (.slice m.rA m.rn m.rc) := hk_w1.cell 4
  go_wp2_with fail
  refine (op_any o w1).mono ?_
  rintro e w2 ⟨rfl, hb2⟩
  rw [HOW.out]
  have hk_w2 := hk_w1.on hb2
  have hB2 := bthen hB1 hb2
  clear d0 d1 d2 d3 d4
  have d0 : w2.cell? ⟨w.heap.size, 0, none⟩ = some (.int .i64 o) := (hk_w2.cell 0).trans (by show some (Value.int .i64 m.op) = _; rw [HO.out])
  have d1 : w2.cell? ⟨w.heap.size, 1, none⟩ = some (.slice m.lA m.ln m.lc) := hk_w2.cell 1
  have d2 : w2.cell? ⟨w.heap.size, 2, none⟩ = some (.int .i64 pt) := (hk_w2.cell 2).trans (by show some (Value.int .i64 m.port) = _; rw [HPT.out])
  have d3 : w2.cell? ⟨w.heap.size, 3, none⟩ = some (.int .i64 bk) := (hk_w2.cell 3).trans (by show some (Value.int .i64 m.bk) = _; rw [HBK.out])
  have d4 : w2.cell? ⟨w.heap.size, 4, none⟩ = some (.slice m.rA m.rn m.rc) := hk_w2.cell 4
  go_wp2_with fail
  go_ret
  exact ⟨by rw [HC.out]; rfl, hB2⟩

theorem check_any (m : Hp) (w : World) (hh : m.ok w) :
    Calls Try.prog 18 #[.agg m.cells.toArray] w fun e w' => e = .returned (.int .i64 m.chk) ∧ Below w.heap.size w w' := by
  rcases (show m.op = 0 ∨ m.op = 1 ∨ m.op = 2 ∨ m.op = 3 ∨ m.op < 0 ∨ 3 < m.op by omega) with e | e | e | e | e | e
  · exact check_op0 m w hh e
  · exact check_op1 m w hh e
  · exact check_op2 m w hh e
  · exact check_op3 m w hh e
  · exact check_opL m w hh e
  · exact check_opH m w hh e
end Go.Proofs.Ytmpaockaeoknmaa

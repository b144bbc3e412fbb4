/- What hop.Check and the reference's Check compute. No condition but sizes. -/
import Derived.Test.YtmpaockaeoknmaaHop2
import Derived.Deep.DeepCutAuto
namespace Go.Proofs.Ytmpaockaeoknmaa
open Go.RowKit
set_option linter.unusedVariables false
set_option maxRecDepth 20000
set_option linter.unusedSimpArgs false


set_option maxHeartbeats 4000000 in
theorem rcheck_op0 (m : Hp) (w : World) (hh : m.ok w) (hop : m.op = 0) :
    Calls Try.prog 26 #[.agg m.cells.toArray] w fun e w' => e = .returned (.int .i64 m.chk) ∧ Below w.heap.size w w' := by
  have HR := Lib.hid hh
  obtain ⟨p, hp⟩ : ∃ p, m.l.all pushB = p := ⟨_, rfl⟩
  obtain ⟨q, hq⟩ : ∃ q, m.r.all pushB = q := ⟨_, rfl⟩
  obtain ⟨pt, hpt⟩ : ∃ z, m.port = z := ⟨_, rfl⟩
  obtain ⟨bk, hbk⟩ : ∃ z, m.bk = z := ⟨_, rfl⟩
  have HLA := Lib.hid hp
  have HRA := Lib.hid hq
  have HPT := Lib.hid hpt
  have HBK := Lib.hid hbk
  clear hp hq hpt hbk hh
  have HO := Lib.hid hop
  clear hop
  go_enter Try.func26, Try.ntmps26
  go_upto_region 1 with (refine wpList_box_blk (by rfl) 25 _ rfl m.cells rfl ?_; intro w1 hk_w1 hB1 hs1)
  have d0 : w1.cell? ⟨w.heap.size, 0, none⟩ = some (.int .i64 0) := (hk_w1.cell 0).trans (by show some (Value.int .i64 m.op) = _; rw [HO.out])
  have d1 : w1.cell? ⟨w.heap.size, 1, none⟩ = some (.slice m.lA m.ln m.lc) := hk_w1.cell 1
  have d2 : w1.cell? ⟨w.heap.size, 2, none⟩ = some (.int .i64 pt) := (hk_w1.cell 2).trans (by show some (Value.int .i64 m.port) = _; rw [HPT.out])
  have d3 : w1.cell? ⟨w.heap.size, 3, none⟩ = some (.int .i64 bk) := (hk_w1.cell 3).trans (by show some (Value.int .i64 m.bk) = _; rw [HBK.out])
  have d4 : w1.cell? ⟨w.heap.size, 4, none⟩ = some (.slice m.rA m.rn m.rc) := hk_w1.cell 4
  go_upto_region 3 with fail
  by_cases g1 : 16 < m.ln
  · have g1' : (16 : Int) < (m.ln : Int) := by omega
    have HC : Hid (m.chk = 51) := Lib.hid (by unfold Hp.chk; rw [HO.out, HPT.out, HBK.out, HLA.out, HRA.out]; unfold chkF; rw [if_neg (by omega)]; rw [if_pos (by omega)])
    try clear k3
    try clear k2
    try clear i3
    go_wp2_with fail
    go_ret
    exact ⟨by rw [HC.out]; rfl, hB1⟩
  · have g1' : ¬ (16 : Int) < (m.ln : Int) := by omega
    by_cases g2 : 16 < m.rn
    · have g2' : (16 : Int) < (m.rn : Int) := by omega
      have HC : Hid (m.chk = 51) := Lib.hid (by unfold Hp.chk; rw [HO.out, HPT.out, HBK.out, HLA.out, HRA.out]; unfold chkF; rw [if_neg (by omega)]; rw [if_pos (by omega)])
      try clear k3
      try clear k2
      try clear i3
      go_wp2_with fail
      go_ret
      exact ⟨by rw [HC.out]; rfl, hB1⟩
    · have g2' : ¬ (16 : Int) < (m.rn : Int) := by omega
      go_wp2_with fail
      refine (rlabels_any m.lA m.ln m.lc m.l w1 ((HR.out.lrow.below hB1).more hB1.size) (by omega)).mono ?_
      rintro e w8 ⟨rfl, rfl⟩
      rw [HLA.out]
      go_wp2_with fail
      refine (rlabels_any m.rA m.rn m.rc m.r w1 ((HR.out.rrow.below hB1).more hB1.size) (by omega)).mono ?_
      rintro e w8 ⟨rfl, rfl⟩
      rw [HRA.out]
      cases p
      · have HC : Hid (m.chk = 40) := Lib.hid (by unfold Hp.chk; rw [HO.out, HPT.out, HBK.out, HLA.out, HRA.out]; unfold chkF; rw [if_neg (by omega)]; rw [if_neg (by omega)]; rw [if_pos (by simp)])
        try clear k3
        try clear k2
        try clear i3
        go_wp2_with fail
        go_ret
        exact ⟨by rw [HC.out]; rfl, hB1⟩
      · cases q
        · have HC : Hid (m.chk = 40) := Lib.hid (by unfold Hp.chk; rw [HO.out, HPT.out, HBK.out, HLA.out, HRA.out]; unfold chkF; rw [if_neg (by omega)]; rw [if_neg (by omega)]; rw [if_pos (by simp)])
          try clear k3
          try clear k2
          try clear i3
          go_wp2_with fail
          go_ret
          exact ⟨by rw [HC.out]; rfl, hB1⟩
        · go_upto_region 9 with fail
          by_cases i1 : pt < 0
          · have HC : Hid (m.chk = 50) := Lib.hid (by unfold Hp.chk; rw [HO.out, HPT.out, HBK.out, HLA.out, HRA.out]; unfold chkF; rw [if_neg (by omega)]; rw [if_neg (by omega)]; rw [if_neg (by simp)]; rw [if_pos (by omega)])
            try clear k3
            try clear k2
            try clear i3
            go_wp2_with fail
            go_ret
            exact ⟨by rw [HC.out]; rfl, hB1⟩
          · by_cases i2 : 64 ≤ pt
            · have i2' : 63 < pt := by omega
              have HC : Hid (m.chk = 50) := Lib.hid (by unfold Hp.chk; rw [HO.out, HPT.out, HBK.out, HLA.out, HRA.out]; unfold chkF; rw [if_neg (by omega)]; rw [if_neg (by omega)]; rw [if_neg (by simp)]; rw [if_pos (by omega)])
              try clear k3
              try clear k2
              try clear i3
              go_wp2_with fail
              go_ret
              exact ⟨by rw [HC.out]; rfl, hB1⟩
            · have i2' : ¬ 63 < pt := by omega
              by_cases j1 : 64 ≤ bk
              · have j1' : 63 < bk := by omega
                have HC : Hid (m.chk = 50) := Lib.hid (by unfold Hp.chk; rw [HO.out, HPT.out, HBK.out, HLA.out, HRA.out]; unfold chkF; rw [if_neg (by omega)]; rw [if_neg (by omega)]; rw [if_neg (by simp)]; rw [if_pos (by omega)])
                try clear k3
                try clear k2
                try clear i3
                go_wp2_with fail
                go_ret
                exact ⟨by rw [HC.out]; rfl, hB1⟩
              · have j1' : ¬ 63 < bk := by omega
                go_upto_region 11 with fail
                by_cases k1 : bk < -1
                · have HC : Hid (m.chk = 54) := Lib.hid (by unfold Hp.chk; rw [HO.out, HPT.out, HBK.out, HLA.out, HRA.out]; unfold chkF; rw [if_neg (by omega)]; rw [if_neg (by omega)]; rw [if_neg (by simp)]; rw [if_neg (by omega)]; rw [if_pos (by omega)])
                  try clear k3
                  try clear k2
                  try clear i3
                  go_wp2_with fail
                  go_ret
                  exact ⟨by rw [HC.out]; rfl, hB1⟩
                · by_cases k2 : bk = -1
                  · have k2' : (bk == -1) = true := by simpa using k2
                    by_cases k4 : 0 < m.rn
                    · have k4' : (0 : Int) < (m.rn : Int) := by omega
                      have HC : Hid (m.chk = 54) := Lib.hid (by unfold Hp.chk; rw [HO.out, HPT.out, HBK.out, HLA.out, HRA.out]; unfold chkF; rw [if_neg (by omega)]; rw [if_neg (by omega)]; rw [if_neg (by simp)]; rw [if_neg (by omega)]; rw [if_pos (by omega)])
                      try clear k3
                      try clear k2
                      try clear i3
                      go_wp2_with fail
                      go_ret
                      exact ⟨by rw [HC.out]; rfl, hB1⟩
                    · have k4' : ¬ (0 : Int) < (m.rn : Int) := by omega
                      have k3' : (bk == pt) = false := by simp only [beq_eq_false_iff_ne]; omega
                      have HC : Hid (m.chk = 0) := Lib.hid (by unfold Hp.chk; rw [HO.out, HPT.out, HBK.out, HLA.out, HRA.out]; unfold chkF; rw [if_neg (by omega)]; rw [if_neg (by omega)]; rw [if_neg (by simp)]; rw [if_neg (by omega)]; rw [if_neg (by omega)])
                      try clear k3
                      try clear k2
                      try clear i3
                      go_wp2_with fail
                      go_ret
                      exact ⟨by rw [HC.out]; rfl, hB1⟩
                  · have k2' : (bk == -1) = false := by simpa using k2
                    by_cases k3 : bk = pt
                    · have k3' : (bk == pt) = true := by simpa using k3
                      have HC : Hid (m.chk = 54) := Lib.hid (by unfold Hp.chk; rw [HO.out, HPT.out, HBK.out, HLA.out, HRA.out]; unfold chkF; rw [if_neg (by omega)]; rw [if_neg (by omega)]; rw [if_neg (by simp)]; rw [if_neg (by omega)]; rw [if_pos (by omega)])
                      try clear k3
                      try clear k2
                      try clear i3
                      go_wp2_with fail
                      go_ret
                      exact ⟨by rw [HC.out]; rfl, hB1⟩
                    · have k3' : (bk == pt) = false := by simpa using k3
                      have HC : Hid (m.chk = 0) := Lib.hid (by unfold Hp.chk; rw [HO.out, HPT.out, HBK.out, HLA.out, HRA.out]; unfold chkF; rw [if_neg (by omega)]; rw [if_neg (by omega)]; rw [if_neg (by simp)]; rw [if_neg (by omega)]; rw [if_neg (by omega)])
                      try clear k3
                      try clear k2
                      try clear i3
                      go_wp2_with fail
                      go_ret
                      exact ⟨by rw [HC.out]; rfl, hB1⟩

set_option maxHeartbeats 4000000 in
theorem rcheck_op1 (m : Hp) (w : World) (hh : m.ok w) (hop : m.op = 1) :
    Calls Try.prog 26 #[.agg m.cells.toArray] w fun e w' => e = .returned (.int .i64 m.chk) ∧ Below w.heap.size w w' := by
  have HR := Lib.hid hh
  obtain ⟨p, hp⟩ : ∃ p, m.l.all pushB = p := ⟨_, rfl⟩
  obtain ⟨q, hq⟩ : ∃ q, m.r.all pushB = q := ⟨_, rfl⟩
  obtain ⟨pt, hpt⟩ : ∃ z, m.port = z := ⟨_, rfl⟩
  obtain ⟨bk, hbk⟩ : ∃ z, m.bk = z := ⟨_, rfl⟩
  have HLA := Lib.hid hp
  have HRA := Lib.hid hq
  have HPT := Lib.hid hpt
  have HBK := Lib.hid hbk
  clear hp hq hpt hbk hh
  have HO := Lib.hid hop
  clear hop
  go_enter Try.func26, Try.ntmps26
  go_upto_region 1 with (refine wpList_box_blk (by rfl) 25 _ rfl m.cells rfl ?_; intro w1 hk_w1 hB1 hs1)
  have d0 : w1.cell? ⟨w.heap.size, 0, none⟩ = some (.int .i64 1) := (hk_w1.cell 0).trans (by show some (Value.int .i64 m.op) = _; rw [HO.out])
  have d1 : w1.cell? ⟨w.heap.size, 1, none⟩ = some (.slice m.lA m.ln m.lc) := hk_w1.cell 1
  have d2 : w1.cell? ⟨w.heap.size, 2, none⟩ = some (.int .i64 pt) := (hk_w1.cell 2).trans (by show some (Value.int .i64 m.port) = _; rw [HPT.out])
  have d3 : w1.cell? ⟨w.heap.size, 3, none⟩ = some (.int .i64 bk) := (hk_w1.cell 3).trans (by show some (Value.int .i64 m.bk) = _; rw [HBK.out])
  have d4 : w1.cell? ⟨w.heap.size, 4, none⟩ = some (.slice m.rA m.rn m.rc) := hk_w1.cell 4
  by_cases f1 : m.ln = 0
  · have f1' : ((m.ln : Int) == 0) = true := by simp [f1]
    have HC : Hid (m.chk = 54) := Lib.hid (by unfold Hp.chk; rw [HO.out, HPT.out, HBK.out, HLA.out, HRA.out]; unfold chkF; rw [if_pos (by omega)])
    go_wp2_with fail
    go_ret
    exact ⟨by rw [HC.out]; rfl, hB1⟩
  · have f1' : ((m.ln : Int) == 0) = false := by simp [f1]
    go_upto_region 3 with fail
    by_cases g1 : 16 < m.ln
    · have g1' : (16 : Int) < (m.ln : Int) := by omega
      have HC : Hid (m.chk = 51) := Lib.hid (by unfold Hp.chk; rw [HO.out, HPT.out, HBK.out, HLA.out, HRA.out]; unfold chkF; rw [if_neg (by omega)]; rw [if_pos (by omega)])
      try clear k3
      try clear k2
      try clear i3
      go_wp2_with fail
      go_ret
      exact ⟨by rw [HC.out]; rfl, hB1⟩
    · have g1' : ¬ (16 : Int) < (m.ln : Int) := by omega
      by_cases g2 : 16 < m.rn
      · have g2' : (16 : Int) < (m.rn : Int) := by omega
        have HC : Hid (m.chk = 51) := Lib.hid (by unfold Hp.chk; rw [HO.out, HPT.out, HBK.out, HLA.out, HRA.out]; unfold chkF; rw [if_neg (by omega)]; rw [if_pos (by omega)])
        try clear k3
        try clear k2
        try clear i3
        go_wp2_with fail
        go_ret
        exact ⟨by rw [HC.out]; rfl, hB1⟩
      · have g2' : ¬ (16 : Int) < (m.rn : Int) := by omega
        go_wp2_with fail
        refine (rlabels_any m.lA m.ln m.lc m.l w1 ((HR.out.lrow.below hB1).more hB1.size) (by omega)).mono ?_
        rintro e w8 ⟨rfl, rfl⟩
        rw [HLA.out]
        go_wp2_with fail
        refine (rlabels_any m.rA m.rn m.rc m.r w1 ((HR.out.rrow.below hB1).more hB1.size) (by omega)).mono ?_
        rintro e w8 ⟨rfl, rfl⟩
        rw [HRA.out]
        cases p
        · have HC : Hid (m.chk = 40) := Lib.hid (by unfold Hp.chk; rw [HO.out, HPT.out, HBK.out, HLA.out, HRA.out]; unfold chkF; rw [if_neg (by omega)]; rw [if_neg (by omega)]; rw [if_pos (by simp)])
          try clear k3
          try clear k2
          try clear i3
          go_wp2_with fail
          go_ret
          exact ⟨by rw [HC.out]; rfl, hB1⟩
        · cases q
          · have HC : Hid (m.chk = 40) := Lib.hid (by unfold Hp.chk; rw [HO.out, HPT.out, HBK.out, HLA.out, HRA.out]; unfold chkF; rw [if_neg (by omega)]; rw [if_neg (by omega)]; rw [if_pos (by simp)])
            try clear k3
            try clear k2
            try clear i3
            go_wp2_with fail
            go_ret
            exact ⟨by rw [HC.out]; rfl, hB1⟩
          · go_upto_region 9 with fail
            by_cases i1 : pt < 0
            · have HC : Hid (m.chk = 50) := Lib.hid (by unfold Hp.chk; rw [HO.out, HPT.out, HBK.out, HLA.out, HRA.out]; unfold chkF; rw [if_neg (by omega)]; rw [if_neg (by omega)]; rw [if_neg (by simp)]; rw [if_pos (by omega)])
              try clear k3
              try clear k2
              try clear i3
              go_wp2_with fail
              go_ret
              exact ⟨by rw [HC.out]; rfl, hB1⟩
            · by_cases i2 : 64 ≤ pt
              · have i2' : 63 < pt := by omega
                have HC : Hid (m.chk = 50) := Lib.hid (by unfold Hp.chk; rw [HO.out, HPT.out, HBK.out, HLA.out, HRA.out]; unfold chkF; rw [if_neg (by omega)]; rw [if_neg (by omega)]; rw [if_neg (by simp)]; rw [if_pos (by omega)])
                try clear k3
                try clear k2
                try clear i3
                go_wp2_with fail
                go_ret
                exact ⟨by rw [HC.out]; rfl, hB1⟩
              · have i2' : ¬ 63 < pt := by omega
                by_cases j1 : 64 ≤ bk
                · have j1' : 63 < bk := by omega
                  have HC : Hid (m.chk = 50) := Lib.hid (by unfold Hp.chk; rw [HO.out, HPT.out, HBK.out, HLA.out, HRA.out]; unfold chkF; rw [if_neg (by omega)]; rw [if_neg (by omega)]; rw [if_neg (by simp)]; rw [if_pos (by omega)])
                  try clear k3
                  try clear k2
                  try clear i3
                  go_wp2_with fail
                  go_ret
                  exact ⟨by rw [HC.out]; rfl, hB1⟩
                · have j1' : ¬ 63 < bk := by omega
                  go_upto_region 11 with fail
                  by_cases k1 : bk < -1
                  · have HC : Hid (m.chk = 54) := Lib.hid (by unfold Hp.chk; rw [HO.out, HPT.out, HBK.out, HLA.out, HRA.out]; unfold chkF; rw [if_neg (by omega)]; rw [if_neg (by omega)]; rw [if_neg (by simp)]; rw [if_neg (by omega)]; rw [if_pos (by omega)])
                    try clear k3
                    try clear k2
                    try clear i3
                    go_wp2_with fail
                    go_ret
                    exact ⟨by rw [HC.out]; rfl, hB1⟩
                  · by_cases k2 : bk = -1
                    · have k2' : (bk == -1) = true := by simpa using k2
                      by_cases k4 : 0 < m.rn
                      · have k4' : (0 : Int) < (m.rn : Int) := by omega
                        have HC : Hid (m.chk = 54) := Lib.hid (by unfold Hp.chk; rw [HO.out, HPT.out, HBK.out, HLA.out, HRA.out]; unfold chkF; rw [if_neg (by omega)]; rw [if_neg (by omega)]; rw [if_neg (by simp)]; rw [if_neg (by omega)]; rw [if_pos (by omega)])
                        try clear k3
                        try clear k2
                        try clear i3
                        go_wp2_with fail
                        go_ret
                        exact ⟨by rw [HC.out]; rfl, hB1⟩
                      · have k4' : ¬ (0 : Int) < (m.rn : Int) := by omega
                        have k3' : (bk == pt) = false := by simp only [beq_eq_false_iff_ne]; omega
                        have HC : Hid (m.chk = 0) := Lib.hid (by unfold Hp.chk; rw [HO.out, HPT.out, HBK.out, HLA.out, HRA.out]; unfold chkF; rw [if_neg (by omega)]; rw [if_neg (by omega)]; rw [if_neg (by simp)]; rw [if_neg (by omega)]; rw [if_neg (by omega)])
                        try clear k3
                        try clear k2
                        try clear i3
                        go_wp2_with fail
                        go_ret
                        exact ⟨by rw [HC.out]; rfl, hB1⟩
                    · have k2' : (bk == -1) = false := by simpa using k2
                      by_cases k3 : bk = pt
                      · have k3' : (bk == pt) = true := by simpa using k3
                        have HC : Hid (m.chk = 54) := Lib.hid (by unfold Hp.chk; rw [HO.out, HPT.out, HBK.out, HLA.out, HRA.out]; unfold chkF; rw [if_neg (by omega)]; rw [if_neg (by omega)]; rw [if_neg (by simp)]; rw [if_neg (by omega)]; rw [if_pos (by omega)])
                        try clear k3
                        try clear k2
                        try clear i3
                        go_wp2_with fail
                        go_ret
                        exact ⟨by rw [HC.out]; rfl, hB1⟩
                      · have k3' : (bk == pt) = false := by simpa using k3
                        have HC : Hid (m.chk = 0) := Lib.hid (by unfold Hp.chk; rw [HO.out, HPT.out, HBK.out, HLA.out, HRA.out]; unfold chkF; rw [if_neg (by omega)]; rw [if_neg (by omega)]; rw [if_neg (by simp)]; rw [if_neg (by omega)]; rw [if_neg (by omega)])
                        try clear k3
                        try clear k2
                        try clear i3
                        go_wp2_with fail
                        go_ret
                        exact ⟨by rw [HC.out]; rfl, hB1⟩

set_option maxHeartbeats 4000000 in
theorem rcheck_op2 (m : Hp) (w : World) (hh : m.ok w) (hop : m.op = 2) :
    Calls Try.prog 26 #[.agg m.cells.toArray] w fun e w' => e = .returned (.int .i64 m.chk) ∧ Below w.heap.size w w' := by
  have HR := Lib.hid hh
  obtain ⟨p, hp⟩ : ∃ p, m.l.all pushB = p := ⟨_, rfl⟩
  obtain ⟨q, hq⟩ : ∃ q, m.r.all pushB = q := ⟨_, rfl⟩
  obtain ⟨pt, hpt⟩ : ∃ z, m.port = z := ⟨_, rfl⟩
  obtain ⟨bk, hbk⟩ : ∃ z, m.bk = z := ⟨_, rfl⟩
  have HLA := Lib.hid hp
  have HRA := Lib.hid hq
  have HPT := Lib.hid hpt
  have HBK := Lib.hid hbk
  clear hp hq hpt hbk hh
  have HO := Lib.hid hop
  clear hop
  go_enter Try.func26, Try.ntmps26
  go_upto_region 1 with (refine wpList_box_blk (by rfl) 25 _ rfl m.cells rfl ?_; intro w1 hk_w1 hB1 hs1)
  have d0 : w1.cell? ⟨w.heap.size, 0, none⟩ = some (.int .i64 2) := (hk_w1.cell 0).trans (by show some (Value.int .i64 m.op) = _; rw [HO.out])
  have d1 : w1.cell? ⟨w.heap.size, 1, none⟩ = some (.slice m.lA m.ln m.lc) := hk_w1.cell 1
  have d2 : w1.cell? ⟨w.heap.size, 2, none⟩ = some (.int .i64 pt) := (hk_w1.cell 2).trans (by show some (Value.int .i64 m.port) = _; rw [HPT.out])
  have d3 : w1.cell? ⟨w.heap.size, 3, none⟩ = some (.int .i64 bk) := (hk_w1.cell 3).trans (by show some (Value.int .i64 m.bk) = _; rw [HBK.out])
  have d4 : w1.cell? ⟨w.heap.size, 4, none⟩ = some (.slice m.rA m.rn m.rc) := hk_w1.cell 4
  by_cases f1 : 0 < m.ln
  · have f1' : (0 : Int) < (m.ln : Int) := by omega
    have HC : Hid (m.chk = 54) := Lib.hid (by unfold Hp.chk; rw [HO.out, HPT.out, HBK.out, HLA.out, HRA.out]; unfold chkF; rw [if_pos (by omega)])
    go_wp2_with fail
    go_ret
    exact ⟨by rw [HC.out]; rfl, hB1⟩
  · have f1' : ¬ (0 : Int) < (m.ln : Int) := by omega
    go_upto_region 3 with fail
    by_cases g1 : 16 < m.ln
    · have g1' : (16 : Int) < (m.ln : Int) := by omega
      exact absurd g1 (by omega)
    · have g1' : ¬ (16 : Int) < (m.ln : Int) := by omega
      by_cases g2 : 16 < m.rn
      · have g2' : (16 : Int) < (m.rn : Int) := by omega
        have HC : Hid (m.chk = 51) := Lib.hid (by unfold Hp.chk; rw [HO.out, HPT.out, HBK.out, HLA.out, HRA.out]; unfold chkF; rw [if_neg (by omega)]; rw [if_pos (by omega)])
        try clear k3
        try clear k2
        try clear i3
        go_wp2_with fail
        go_ret
        exact ⟨by rw [HC.out]; rfl, hB1⟩
      · have g2' : ¬ (16 : Int) < (m.rn : Int) := by omega
        go_wp2_with fail
        refine (rlabels_any m.lA m.ln m.lc m.l w1 ((HR.out.lrow.below hB1).more hB1.size) (by omega)).mono ?_
        rintro e w8 ⟨rfl, rfl⟩
        rw [HLA.out]
        go_wp2_with fail
        refine (rlabels_any m.rA m.rn m.rc m.r w1 ((HR.out.rrow.below hB1).more hB1.size) (by omega)).mono ?_
        rintro e w8 ⟨rfl, rfl⟩
        rw [HRA.out]
        cases p
        · have HC : Hid (m.chk = 40) := Lib.hid (by unfold Hp.chk; rw [HO.out, HPT.out, HBK.out, HLA.out, HRA.out]; unfold chkF; rw [if_neg (by omega)]; rw [if_neg (by omega)]; rw [if_pos (by simp)])
          try clear k3
          try clear k2
          try clear i3
          go_wp2_with fail
          go_ret
          exact ⟨by rw [HC.out]; rfl, hB1⟩
        · cases q
          · have HC : Hid (m.chk = 40) := Lib.hid (by unfold Hp.chk; rw [HO.out, HPT.out, HBK.out, HLA.out, HRA.out]; unfold chkF; rw [if_neg (by omega)]; rw [if_neg (by omega)]; rw [if_pos (by simp)])
            try clear k3
            try clear k2
            try clear i3
            go_wp2_with fail
            go_ret
            exact ⟨by rw [HC.out]; rfl, hB1⟩
          · go_upto_region 9 with fail
            by_cases i1 : pt < 0
            · have HC : Hid (m.chk = 50) := Lib.hid (by unfold Hp.chk; rw [HO.out, HPT.out, HBK.out, HLA.out, HRA.out]; unfold chkF; rw [if_neg (by omega)]; rw [if_neg (by omega)]; rw [if_neg (by simp)]; rw [if_pos (by omega)])
              try clear k3
              try clear k2
              try clear i3
              go_wp2_with fail
              go_ret
              exact ⟨by rw [HC.out]; rfl, hB1⟩
            · by_cases i2 : 64 ≤ pt
              · have i2' : 63 < pt := by omega
                have HC : Hid (m.chk = 50) := Lib.hid (by unfold Hp.chk; rw [HO.out, HPT.out, HBK.out, HLA.out, HRA.out]; unfold chkF; rw [if_neg (by omega)]; rw [if_neg (by omega)]; rw [if_neg (by simp)]; rw [if_pos (by omega)])
                try clear k3
                try clear k2
                try clear i3
                go_wp2_with fail
                go_ret
                exact ⟨by rw [HC.out]; rfl, hB1⟩
              · have i2' : ¬ 63 < pt := by omega
                by_cases j1 : 64 ≤ bk
                · have j1' : 63 < bk := by omega
                  have HC : Hid (m.chk = 50) := Lib.hid (by unfold Hp.chk; rw [HO.out, HPT.out, HBK.out, HLA.out, HRA.out]; unfold chkF; rw [if_neg (by omega)]; rw [if_neg (by omega)]; rw [if_neg (by simp)]; rw [if_pos (by omega)])
                  try clear k3
                  try clear k2
                  try clear i3
                  go_wp2_with fail
                  go_ret
                  exact ⟨by rw [HC.out]; rfl, hB1⟩
                · have j1' : ¬ 63 < bk := by omega
                  go_upto_region 11 with fail
                  by_cases k1 : bk < -1
                  · have HC : Hid (m.chk = 54) := Lib.hid (by unfold Hp.chk; rw [HO.out, HPT.out, HBK.out, HLA.out, HRA.out]; unfold chkF; rw [if_neg (by omega)]; rw [if_neg (by omega)]; rw [if_neg (by simp)]; rw [if_neg (by omega)]; rw [if_pos (by omega)])
                    try clear k3
                    try clear k2
                    try clear i3
                    go_wp2_with fail
                    go_ret
                    exact ⟨by rw [HC.out]; rfl, hB1⟩
                  · by_cases k2 : bk = -1
                    · have k2' : (bk == -1) = true := by simpa using k2
                      by_cases k4 : 0 < m.rn
                      · have k4' : (0 : Int) < (m.rn : Int) := by omega
                        have HC : Hid (m.chk = 54) := Lib.hid (by unfold Hp.chk; rw [HO.out, HPT.out, HBK.out, HLA.out, HRA.out]; unfold chkF; rw [if_neg (by omega)]; rw [if_neg (by omega)]; rw [if_neg (by simp)]; rw [if_neg (by omega)]; rw [if_pos (by omega)])
                        try clear k3
                        try clear k2
                        try clear i3
                        go_wp2_with fail
                        go_ret
                        exact ⟨by rw [HC.out]; rfl, hB1⟩
                      · have k4' : ¬ (0 : Int) < (m.rn : Int) := by omega
                        have k3' : (bk == pt) = false := by simp only [beq_eq_false_iff_ne]; omega
                        have HC : Hid (m.chk = 0) := Lib.hid (by unfold Hp.chk; rw [HO.out, HPT.out, HBK.out, HLA.out, HRA.out]; unfold chkF; rw [if_neg (by omega)]; rw [if_neg (by omega)]; rw [if_neg (by simp)]; rw [if_neg (by omega)]; rw [if_neg (by omega)])
                        try clear k3
                        try clear k2
                        try clear i3
                        go_wp2_with fail
                        go_ret
                        exact ⟨by rw [HC.out]; rfl, hB1⟩
                    · have k2' : (bk == -1) = false := by simpa using k2
                      by_cases k3 : bk = pt
                      · have k3' : (bk == pt) = true := by simpa using k3
                        have HC : Hid (m.chk = 54) := Lib.hid (by unfold Hp.chk; rw [HO.out, HPT.out, HBK.out, HLA.out, HRA.out]; unfold chkF; rw [if_neg (by omega)]; rw [if_neg (by omega)]; rw [if_neg (by simp)]; rw [if_neg (by omega)]; rw [if_pos (by omega)])
                        try clear k3
                        try clear k2
                        try clear i3
                        go_wp2_with fail
                        go_ret
                        exact ⟨by rw [HC.out]; rfl, hB1⟩
                      · have k3' : (bk == pt) = false := by simpa using k3
                        have HC : Hid (m.chk = 0) := Lib.hid (by unfold Hp.chk; rw [HO.out, HPT.out, HBK.out, HLA.out, HRA.out]; unfold chkF; rw [if_neg (by omega)]; rw [if_neg (by omega)]; rw [if_neg (by simp)]; rw [if_neg (by omega)]; rw [if_neg (by omega)])
                        try clear k3
                        try clear k2
                        try clear i3
                        go_wp2_with fail
                        go_ret
                        exact ⟨by rw [HC.out]; rfl, hB1⟩

set_option maxHeartbeats 4000000 in
theorem rcheck_op3 (m : Hp) (w : World) (hh : m.ok w) (hop : m.op = 3) :
    Calls Try.prog 26 #[.agg m.cells.toArray] w fun e w' => e = .returned (.int .i64 m.chk) ∧ Below w.heap.size w w' := by
  have HR := Lib.hid hh
  obtain ⟨p, hp⟩ : ∃ p, m.l.all pushB = p := ⟨_, rfl⟩
  obtain ⟨q, hq⟩ : ∃ q, m.r.all pushB = q := ⟨_, rfl⟩
  obtain ⟨pt, hpt⟩ : ∃ z, m.port = z := ⟨_, rfl⟩
  obtain ⟨bk, hbk⟩ : ∃ z, m.bk = z := ⟨_, rfl⟩
  have HLA := Lib.hid hp
  have HRA := Lib.hid hq
  have HPT := Lib.hid hpt
  have HBK := Lib.hid hbk
  clear hp hq hpt hbk hh
  have HO := Lib.hid hop
  clear hop
  go_enter Try.func26, Try.ntmps26
  go_upto_region 1 with (refine wpList_box_blk (by rfl) 25 _ rfl m.cells rfl ?_; intro w1 hk_w1 hB1 hs1)
  have d0 : w1.cell? ⟨w.heap.size, 0, none⟩ = some (.int .i64 3) := (hk_w1.cell 0).trans (by show some (Value.int .i64 m.op) = _; rw [HO.out])
  have d1 : w1.cell? ⟨w.heap.size, 1, none⟩ = some (.slice m.lA m.ln m.lc) := hk_w1.cell 1
  have d2 : w1.cell? ⟨w.heap.size, 2, none⟩ = some (.int .i64 pt) := (hk_w1.cell 2).trans (by show some (Value.int .i64 m.port) = _; rw [HPT.out])
  have d3 : w1.cell? ⟨w.heap.size, 3, none⟩ = some (.int .i64 bk) := (hk_w1.cell 3).trans (by show some (Value.int .i64 m.bk) = _; rw [HBK.out])
  have d4 : w1.cell? ⟨w.heap.size, 4, none⟩ = some (.slice m.rA m.rn m.rc) := hk_w1.cell 4
  by_cases f1 : 0 < m.ln
  · have f1' : (0 : Int) < (m.ln : Int) := by omega
    have HC : Hid (m.chk = 54) := Lib.hid (by unfold Hp.chk; rw [HO.out, HPT.out, HBK.out, HLA.out, HRA.out]; unfold chkF; rw [if_pos (by omega)])
    go_wp2_with fail
    go_ret
    exact ⟨by rw [HC.out]; rfl, hB1⟩
  · have f1' : ¬ (0 : Int) < (m.ln : Int) := by omega
    go_upto_region 3 with fail
    by_cases g1 : 16 < m.ln
    · have g1' : (16 : Int) < (m.ln : Int) := by omega
      exact absurd g1 (by omega)
    · have g1' : ¬ (16 : Int) < (m.ln : Int) := by omega
      by_cases g2 : 16 < m.rn
      · have g2' : (16 : Int) < (m.rn : Int) := by omega
        have HC : Hid (m.chk = 51) := Lib.hid (by unfold Hp.chk; rw [HO.out, HPT.out, HBK.out, HLA.out, HRA.out]; unfold chkF; rw [if_neg (by omega)]; rw [if_pos (by omega)])
        try clear k3
        try clear k2
        try clear i3
        go_wp2_with fail
        go_ret
        exact ⟨by rw [HC.out]; rfl, hB1⟩
      · have g2' : ¬ (16 : Int) < (m.rn : Int) := by omega
        go_wp2_with fail
        refine (rlabels_any m.lA m.ln m.lc m.l w1 ((HR.out.lrow.below hB1).more hB1.size) (by omega)).mono ?_
        rintro e w8 ⟨rfl, rfl⟩
        rw [HLA.out]
        go_wp2_with fail
        refine (rlabels_any m.rA m.rn m.rc m.r w1 ((HR.out.rrow.below hB1).more hB1.size) (by omega)).mono ?_
        rintro e w8 ⟨rfl, rfl⟩
        rw [HRA.out]
        cases p
        · have HC : Hid (m.chk = 40) := Lib.hid (by unfold Hp.chk; rw [HO.out, HPT.out, HBK.out, HLA.out, HRA.out]; unfold chkF; rw [if_neg (by omega)]; rw [if_neg (by omega)]; rw [if_pos (by simp)])
          try clear k3
          try clear k2
          try clear i3
          go_wp2_with fail
          go_ret
          exact ⟨by rw [HC.out]; rfl, hB1⟩
        · cases q
          · have HC : Hid (m.chk = 40) := Lib.hid (by unfold Hp.chk; rw [HO.out, HPT.out, HBK.out, HLA.out, HRA.out]; unfold chkF; rw [if_neg (by omega)]; rw [if_neg (by omega)]; rw [if_pos (by simp)])
            try clear k3
            try clear k2
            try clear i3
            go_wp2_with fail
            go_ret
            exact ⟨by rw [HC.out]; rfl, hB1⟩
          · go_upto_region 9 with fail
            by_cases i1 : pt < 0
            · have HC : Hid (m.chk = 50) := Lib.hid (by unfold Hp.chk; rw [HO.out, HPT.out, HBK.out, HLA.out, HRA.out]; unfold chkF; rw [if_neg (by omega)]; rw [if_neg (by omega)]; rw [if_neg (by simp)]; rw [if_pos (by omega)])
              try clear k3
              try clear k2
              try clear i3
              go_wp2_with fail
              go_ret
              exact ⟨by rw [HC.out]; rfl, hB1⟩
            · by_cases i2 : 64 ≤ pt
              · have i2' : 63 < pt := by omega
                have HC : Hid (m.chk = 50) := Lib.hid (by unfold Hp.chk; rw [HO.out, HPT.out, HBK.out, HLA.out, HRA.out]; unfold chkF; rw [if_neg (by omega)]; rw [if_neg (by omega)]; rw [if_neg (by simp)]; rw [if_pos (by omega)])
                try clear k3
                try clear k2
                try clear i3
                go_wp2_with fail
                go_ret
                exact ⟨by rw [HC.out]; rfl, hB1⟩
              · have i2' : ¬ 63 < pt := by omega
                by_cases i3 : pt = 0
                · have i3' : (pt != 0) = false := by simp [i3]
                  by_cases j1 : 64 ≤ bk
                  · have j1' : 63 < bk := by omega
                    have HC : Hid (m.chk = 50) := Lib.hid (by unfold Hp.chk; rw [HO.out, HPT.out, HBK.out, HLA.out, HRA.out]; unfold chkF; rw [if_neg (by omega)]; rw [if_neg (by omega)]; rw [if_neg (by simp)]; rw [if_pos (by omega)])
                    try clear k3
                    try clear k2
                    try clear i3
                    go_wp2_with fail
                    go_ret
                    exact ⟨by rw [HC.out]; rfl, hB1⟩
                  · have j1' : ¬ 63 < bk := by omega
                    by_cases j2 : 0 ≤ bk
                    · have HC : Hid (m.chk = 50) := Lib.hid (by unfold Hp.chk; rw [HO.out, HPT.out, HBK.out, HLA.out, HRA.out]; unfold chkF; rw [if_neg (by omega)]; rw [if_neg (by omega)]; rw [if_neg (by simp)]; rw [if_pos (by omega)])
                      try clear k3
                      try clear k2
                      try clear i3
                      go_wp2_with fail
                      go_ret
                      exact ⟨by rw [HC.out]; rfl, hB1⟩
                    · go_upto_region 11 with fail
                      by_cases k1 : bk < -1
                      · have HC : Hid (m.chk = 54) := Lib.hid (by unfold Hp.chk; rw [HO.out, HPT.out, HBK.out, HLA.out, HRA.out]; unfold chkF; rw [if_neg (by omega)]; rw [if_neg (by omega)]; rw [if_neg (by simp)]; rw [if_neg (by omega)]; rw [if_pos (by omega)])
                        try clear k3
                        try clear k2
                        try clear i3
                        go_wp2_with fail
                        go_ret
                        exact ⟨by rw [HC.out]; rfl, hB1⟩
                      · by_cases k2 : bk = -1
                        · have k2' : (bk == -1) = true := by simpa using k2
                          by_cases k4 : 0 < m.rn
                          · have k4' : (0 : Int) < (m.rn : Int) := by omega
                            have HC : Hid (m.chk = 54) := Lib.hid (by unfold Hp.chk; rw [HO.out, HPT.out, HBK.out, HLA.out, HRA.out]; unfold chkF; rw [if_neg (by omega)]; rw [if_neg (by omega)]; rw [if_neg (by simp)]; rw [if_neg (by omega)]; rw [if_pos (by omega)])
                            try clear k3
                            try clear k2
                            try clear i3
                            go_wp2_with fail
                            go_ret
                            exact ⟨by rw [HC.out]; rfl, hB1⟩
                          · have k4' : ¬ (0 : Int) < (m.rn : Int) := by omega
                            have k3' : (bk == pt) = false := by simp only [beq_eq_false_iff_ne]; omega
                            have HC : Hid (m.chk = 0) := Lib.hid (by unfold Hp.chk; rw [HO.out, HPT.out, HBK.out, HLA.out, HRA.out]; unfold chkF; rw [if_neg (by omega)]; rw [if_neg (by omega)]; rw [if_neg (by simp)]; rw [if_neg (by omega)]; rw [if_neg (by omega)])
                            try clear k3
                            try clear k2
                            try clear i3
                            go_wp2_with fail
                            go_ret
                            exact ⟨by rw [HC.out]; rfl, hB1⟩
                        · have k2' : (bk == -1) = false := by simpa using k2
                          by_cases k3 : bk = pt
                          · have k3' : (bk == pt) = true := by simpa using k3
                            have HC : Hid (m.chk = 54) := Lib.hid (by unfold Hp.chk; rw [HO.out, HPT.out, HBK.out, HLA.out, HRA.out]; unfold chkF; rw [if_neg (by omega)]; rw [if_neg (by omega)]; rw [if_neg (by simp)]; rw [if_neg (by omega)]; rw [if_pos (by omega)])
                            try clear k3
                            try clear k2
                            try clear i3
                            go_wp2_with fail
                            go_ret
                            exact ⟨by rw [HC.out]; rfl, hB1⟩
                          · have k3' : (bk == pt) = false := by simpa using k3
                            have HC : Hid (m.chk = 0) := Lib.hid (by unfold Hp.chk; rw [HO.out, HPT.out, HBK.out, HLA.out, HRA.out]; unfold chkF; rw [if_neg (by omega)]; rw [if_neg (by omega)]; rw [if_neg (by simp)]; rw [if_neg (by omega)]; rw [if_neg (by omega)])
                            try clear k3
                            try clear k2
                            try clear i3
                            go_wp2_with fail
                            go_ret
                            exact ⟨by rw [HC.out]; rfl, hB1⟩
                · have i3' : (pt != 0) = true := by simpa [bne] using i3
                  have HC : Hid (m.chk = 50) := Lib.hid (by unfold Hp.chk; rw [HO.out, HPT.out, HBK.out, HLA.out, HRA.out]; unfold chkF; rw [if_neg (by omega)]; rw [if_neg (by omega)]; rw [if_neg (by simp)]; rw [if_pos (by omega)])
                  try clear k3
                  try clear k2
                  try clear i3
                  go_wp2_with fail
                  go_ret
                  exact ⟨by rw [HC.out]; rfl, hB1⟩

set_option maxHeartbeats 4000000 in
theorem rcheck_opL (m : Hp) (w : World) (hh : m.ok w) (hop : m.op < 0) :
    Calls Try.prog 26 #[.agg m.cells.toArray] w fun e w' => e = .returned (.int .i64 m.chk) ∧ Below w.heap.size w w' := by
  have HR := Lib.hid hh
  obtain ⟨p, hp⟩ : ∃ p, m.l.all pushB = p := ⟨_, rfl⟩
  obtain ⟨q, hq⟩ : ∃ q, m.r.all pushB = q := ⟨_, rfl⟩
  obtain ⟨pt, hpt⟩ : ∃ z, m.port = z := ⟨_, rfl⟩
  obtain ⟨bk, hbk⟩ : ∃ z, m.bk = z := ⟨_, rfl⟩
  have HLA := Lib.hid hp
  have HRA := Lib.hid hq
  have HPT := Lib.hid hpt
  have HBK := Lib.hid hbk
  clear hp hq hpt hbk hh
  obtain ⟨o, ho⟩ : ∃ o, m.op = o := ⟨_, rfl⟩
  rw [ho] at hop
  have HO := Lib.hid ho
  clear ho
  have HOW : Hid (opW o = []) := Lib.hid (by unfold opW; rw [if_neg (by omega), if_neg (by omega), if_neg (by omega), if_neg (by omega)])
  have HC : Hid (m.chk = 54) := Lib.hid (by unfold Hp.chk; rw [HO.out, HPT.out, HBK.out, HLA.out, HRA.out]; unfold chkF; rw [if_pos (by omega)])
  go_enter Try.func26, Try.ntmps26
  go_upto_region 1 with (refine wpList_box_blk (by rfl) 25 _ rfl m.cells rfl ?_; intro w1 hk_w1 hB1 hs1)
  have d0 : w1.cell? ⟨w.heap.size, 0, none⟩ = some (.int .i64 o) := (hk_w1.cell 0).trans (by show some (Value.int .i64 m.op) = _; rw [HO.out])
  have d1 : w1.cell? ⟨w.heap.size, 1, none⟩ = some (.slice m.lA m.ln m.lc) := hk_w1.cell 1
  have d2 : w1.cell? ⟨w.heap.size, 2, none⟩ = some (.int .i64 pt) := (hk_w1.cell 2).trans (by show some (Value.int .i64 m.port) = _; rw [HPT.out])
  have d3 : w1.cell? ⟨w.heap.size, 3, none⟩ = some (.int .i64 bk) := (hk_w1.cell 3).trans (by show some (Value.int .i64 m.bk) = _; rw [HBK.out])
  have d4 : w1.cell? ⟨w.heap.size, 4, none⟩ = some (.slice m.rA m.rn m.rc) := hk_w1.cell 4
  go_wp2_with fail
  go_ret
  exact ⟨by rw [HC.out]; rfl, hB1⟩

set_option maxHeartbeats 4000000 in
theorem rcheck_opH (m : Hp) (w : World) (hh : m.ok w) (hop : 3 < m.op) :
    Calls Try.prog 26 #[.agg m.cells.toArray] w fun e w' => e = .returned (.int .i64 m.chk) ∧ Below w.heap.size w w' := by
  have HR := Lib.hid hh
  obtain ⟨p, hp⟩ : ∃ p, m.l.all pushB = p := ⟨_, rfl⟩
  obtain ⟨q, hq⟩ : ∃ q, m.r.all pushB = q := ⟨_, rfl⟩
  obtain ⟨pt, hpt⟩ : ∃ z, m.port = z := ⟨_, rfl⟩
  obtain ⟨bk, hbk⟩ : ∃ z, m.bk = z := ⟨_, rfl⟩
  have HLA := Lib.hid hp
  have HRA := Lib.hid hq
  have HPT := Lib.hid hpt
  have HBK := Lib.hid hbk
  clear hp hq hpt hbk hh
  obtain ⟨o, ho⟩ : ∃ o, m.op = o := ⟨_, rfl⟩
  rw [ho] at hop
  have HO := Lib.hid ho
  clear ho
  have HOW : Hid (opW o = []) := Lib.hid (by unfold opW; rw [if_neg (by omega), if_neg (by omega), if_neg (by omega), if_neg (by omega)])
  have hop2 : ¬ o < 0 := by omega
  have HC : Hid (m.chk = 54) := Lib.hid (by unfold Hp.chk; rw [HO.out, HPT.out, HBK.out, HLA.out, HRA.out]; unfold chkF; rw [if_pos (by omega)])
  go_enter Try.func26, Try.ntmps26
  go_upto_region 1 with (refine wpList_box_blk (by rfl) 25 _ rfl m.cells rfl ?_; intro w1 hk_w1 hB1 hs1)
  have d0 : w1.cell? ⟨w.heap.size, 0, none⟩ = some (.int .i64 o) := (hk_w1.cell 0).trans (by show some (Value.int .i64 m.op) = _; rw [HO.out])
  have d1 : w1.cell? ⟨w.heap.size, 1, none⟩ = some (.slice m.lA m.ln m.lc) := hk_w1.cell 1
  have d2 : w1.cell? ⟨w.heap.size, 2, none⟩ = some (.int .i64 pt) := (hk_w1.cell 2).trans (by show some (Value.int .i64 m.port) = _; rw [HPT.out])
  have d3 : w1.cell? ⟨w.heap.size, 3, none⟩ = some (.int .i64 bk) := (hk_w1.cell 3).trans (by show some (Value.int .i64 m.bk) = _; rw [HBK.out])
  have d4 : w1.cell? ⟨w.heap.size, 4, none⟩ = some (.slice m.rA m.rn m.rc) := hk_w1.cell 4
  go_wp2_with fail
  go_ret
  exact ⟨by rw [HC.out]; rfl, hB1⟩

theorem rcheck_any (m : Hp) (w : World) (hh : m.ok w) :
    Calls Try.prog 26 #[.agg m.cells.toArray] w fun e w' => e = .returned (.int .i64 m.chk) ∧ Below w.heap.size w w' := by
  rcases (show m.op = 0 ∨ m.op = 1 ∨ m.op = 2 ∨ m.op = 3 ∨ m.op < 0 ∨ 3 < m.op by omega) with e | e | e | e | e | e
  · exact rcheck_op0 m w hh e
  · exact rcheck_op1 m w hh e
  · exact rcheck_op2 m w hh e
  · exact rcheck_op3 m w hh e
  · exact rcheck_opL m w hh e
  · exact rcheck_opH m w hh e
end Go.Proofs.Ytmpaockaeoknmaa

/- Texts of this claim put together, in build order: each one's own remark stands ahead of it. -/
import Derived.Test.YtckbleiikldloaaDoorG18
import Derived.Test.YtckbleiikldloaaDoorG23
import Derived.ProofKit
import Derived.LaidMore
import Derived.OpenShut
import Derived.Stop.Joined
import Derived.Test.YtckbleiikldloaaDoorG22
/- What the laid table of icmp4's types gives the walks; the door's own run meets it. No condition. -/
namespace Go.Proofs.YtckbleiikldloaaDoor
open Go.ChangeShapes Go.WideShapes Go.ChangeAt Go.RowKit
set_option linter.unusedVariables false
set_option maxRecDepth 20000

theorem gTypes : Tryd.prog.globalNamed "footplate/icmp4.types" = some 0 := by kernel_rfl
theorem tTypes : (Tryd.prog.globals[0]?).map (·.type) = some 53 := by kernel_rfl
theorem c8 : Tryd.prog.cellsOf 5 = 1 := by kernel_rfl
/-- the door's own heap meets the condition -/
theorem door_met (os : Os) (args : Array Value) : laidMetH Tryd.prog [("footplate/icmp4.types", Rows.laid_footplate_icmp4_types)] ((World.doorLaid Tryd.prog 400 os).forCall (fun _ _ => 0) ⟨#[], args, []⟩).memory :=
  laidMetH_of_parts3 (fuel := 8) (laidMet_of_run' 8 (by kernel_rfl) (by kernel_rfl)) (by kernel_rfl) (by kernel_rfl)
/-- what the condition gives the walks -/
theorem of_laid {W : World} (h : laidMetH Tryd.prog [("footplate/icmp4.types", Rows.laid_footplate_icmp4_types)] W) : Typ23 W := by
  rw [MakeChecks.laidMetH_plain _ _ _ (by kernel_rfl)] at h
  obtain ⟨ps, ⟨g0, t0, cs0, f0, p0, q0, hg0, ht0, hv0, hd0, _, _⟩, _, _⟩ := h
  obtain rfl := Option.some.inj (gTypes.symm.trans hg0)
  obtain rfl := Option.some.inj (tTypes.symm.trans ht0)
  obtain ⟨xs, m1, rfl, hx1, hlen, hn3, hel⟩ := DataW.trod_array Tryd.underlying53 hd0
  have hD : Rows.laid_footplate_icmp4_types (H := Unit) = .agg (([[11, 0], [3, 4], [3, 0]] : List (List Int)).map fun r => .agg (r.map fun s => .lit (.int .u8 s))) := rfl
  rw [hD] at hx1
  simp only [Prod.mk.injEq, DataW.agg.injEq] at hx1
  have c2 : Tryd.prog.cellsOf 52 = 2 := by kernel_rfl
  have hcell : ∀ i (r : List Int), ([[11, 0], [3, 4], [3, 0]] : List (List Int))[i]? = some r → ∀ j (s : Int), r[j]? = some s → W.cell? ⟨0, i * 2 + j, none⟩ = some (.int .u8 s) := by
    intro i r hi j s hj
    have hi3 : i < 3 := (List.getElem?_eq_some_iff.1 hi).1
    have he := hel i hi3
    obtain ⟨y, hy⟩ := get_ex xs (k := i) (by omega)
    rw [hy, c2] at he
    have h2 := congrArg (fun l => l[i]?) hx1.1
    simp only [List.getElem?_map, hi, hy, Option.map_some, Option.some.injEq] at h2
    obtain ⟨ys, m2, hy2, hx2, hlen2, hn2, hel2⟩ := DataW.trod_array Tryd.underlying52 he
    have hr2 : r.length = 2 := by
      match i, hi with
      | 0, hi => cases hi; rfl
      | 1, hi => cases hi; rfl
      | 2, hi => cases hi; rfl
    have hj2 : j < 2 := by
      have := (List.getElem?_eq_some_iff.1 hj).1
      omega
    have he2 := hel2 j hj2
    obtain ⟨z, hz⟩ := get_ex ys (k := j) (by omega)
    rw [hz, c8, Nat.mul_one] at he2
    obtain ⟨v, e1, e2, _⟩ := DataW.trod_int Tryd.underlying5 he2
    rw [hx2] at h2
    simp only [DataW.agg.injEq] at h2
    have h3 := congrArg (fun l => l[j]?) h2
    simp only [List.getElem?_map, hj, hz, Option.map_some, Option.some.injEq] at h3
    rw [e2] at h3
    simp only [DataW.lit.injEq, Lit.int.injEq, true_and] at h3
    have hcs : cs0[i * 2 + j]? = some (.int .u8 v) := by
      have h4 := congrArg (fun l => l[0]?) e1
      simp [List.getElem?_take, List.getElem?_drop] at h4
      exact h4.2
    rw [World.var?_cell hg0 hv0 (i * 2 + j), hcs, h3]
  have hk : ∀ i r j s, ([[11, 0], [3, 4], [3, 0]] : List (List Int))[i]? = some r → r[j]? = some s → W.cell? ⟨0, i * 2 + j, none⟩ = some (.int .u8 s) := fun i r j s a b => hcell i r a j s b
  refine ⟨World.block_lt_of_cell? W _ (hk 0 _ 0 11 rfl rfl), fun j v hv => ?_⟩
  have hj : j < 6 := (List.getElem?_eq_some_iff.1 hv).1
  match j, hj, hv with
  | 0, _, hv => cases hv; exact hk 0 _ 0 11 rfl rfl
  | 1, _, hv => cases hv; exact hk 0 _ 1 0 rfl rfl
  | 2, _, hv => cases hv; exact hk 1 _ 0 3 rfl rfl
  | 3, _, hv => cases hv; exact hk 1 _ 1 4 rfl rfl
  | 4, _, hv => cases hv; exact hk 2 _ 0 3 rfl rfl
  | 5, _, hv => cases hv; exact hk 2 _ 1 0 rfl rfl
end Go.Proofs.YtckbleiikldloaaDoor

/- What the reference's Is (layer 23) computes. No condition but sizes. -/
namespace Go.Proofs.YtckbleiikldloaaDoor
open Go.RowKit
set_option linter.unusedVariables false
set_option maxRecDepth 20000
set_option linter.unusedSimpArgs false

theorem exec_eqE4 {w : World} {o : Oper} {c : Act} (x : Operand) (ty : TypeId) (r : List UInt8) (b : Bool) (hb : r.isEmpty = b) (ho : o.op = .binOp .eql 9 x (.const (str [])) ty) (hx : c.eval x = str r) : (execOp c.eval o).run Tryd.prog w = .ok (.value (.bool b)) w := by
  subst hb
  unfold execOp
  simp only [ho, hx]
  cases r with
  | nil => go_simp
  | cons u r => go_simp
set_option maxHeartbeats 1000000 in
theorem ris4_any (l : List UInt8) (w : World) (hn : l.length ≤ 1099511627776) :
    Calls Tryd.prog 15 #[str l] w fun e w' => e = .returned (.bool (isF4 l)) ∧ Below w.heap.size w w' := by
  have P := rparse4_any l w hn
  have Q := fun W => rbody4_any l W hn
  have hok := par4_ok l
  obtain ⟨RB, hR⟩ : ∃ R, isF4 l = R := ⟨_, rfl⟩
  rw [hR]
  have hRF : RB = (decide ((par4 l).2 = 0) && decide ((par4 l).1.pro = 1) && decide (¬ 0 < (par4 l).1.off) && headErr (body4 l)) := by rw [← hR]; rfl
  clear hR
  cases hp : par4 l with
  | mk h0 er =>
  rw [hp] at P hok hRF
  simp only at P hok hRF
  obtain ⟨bd, hbd⟩ : ∃ bd, body4 l = bd := ⟨_, rfl⟩
  rw [hbd] at hRF
  simp only [hbd] at Q
  have HP := Lib.hid P
  have HQ := Lib.hid Q
  have HOK := Lib.hid hok
  clear P Q hok hp hbd
  by_cases hA : er = 0
  · subst hA
    by_cases hB : h0.pro = 1
    · have hB2 : (h0.pro != 1) = false := by simp [hB]
      by_cases hof : 0 < h0.off
      · have HD := Lib.hid (show RB = false by rw [hRF, hB, decide_eq_false (fun h : ¬ 0 < h0.off => h hof)]; rfl)
        clear hRF hB
        go_enter Tryd.func15, Tryd.ntmps15
        go_wp2_with fail
        refine HP.out.mono ?_
        rintro e w1 ⟨rfl, hB1⟩
        go_upto_region 2 with (first
          | (refine wpList_alloc_blk rfl 56 rfl H4.zero.cells zero4 ?_; intro w2 hbw2 hBw2 hsw2)
          | (refine wpList_store_all rfl 56 _ _ rfl w1.heap.size h0.cells rfl rfl 56 _ hbw2 (size4 _ HOK.out) (H4.cells_same _ _ HOK.out H4.zero_ok) (H4.one _) ?_; intro w3 hbw3 hgw3 hsw3))
        have hBw3 : Below w1.heap.size w1 w3 := bgrown hBw2 hgw3 (by omega) (by omega)
        obtain ⟨g4, hg4⟩ : ∃ g, w1.heap.size = g := ⟨_, rfl⟩
        rw [hg4] at hbw3
        try rw [hg4]
        have HK := Lib.hid hbw3
        have HW := Lib.hid (bthen hB1 hBw3)
        clear hbw2 hBw2 hsw2 hbw3 hgw3 hsw3 hBw3 hg4 hB1
        go_wp2_with fail
        refine (HQ.out w3).mono ?_
        rintro e w4 ⟨rfl, hB4⟩
        replace HW := Lib.hid (bthen HW.out hB4)
        replace HK := Lib.hid (HK.out.on hB4)
        have hd7 : w4.cell? ⟨g4, 7, none⟩ = some (.int .u8 h0.pro) := HK.out.cell 7
        have hd5 : w4.cell? ⟨g4, 5, none⟩ = some (.int .i64 h0.off) := HK.out.cell 5
        clear hB4
        go_wp2_with fail
        go_ret
        exact ⟨by rw [HD.out]; rfl, HW.out⟩
      · have HD := Lib.hid (show RB = headErr bd by rw [hRF, hB, decide_eq_true hof]; rfl)
        clear hRF hB
        cases bd with
        | nil =>
          go_enter Tryd.func15, Tryd.ntmps15
          go_wp2_with fail
          refine HP.out.mono ?_
          rintro e w1 ⟨rfl, hB1⟩
          go_upto_region 2 with (first
            | (refine wpList_alloc_blk rfl 56 rfl H4.zero.cells zero4 ?_; intro w2 hbw2 hBw2 hsw2)
            | (refine wpList_store_all rfl 56 _ _ rfl w1.heap.size h0.cells rfl rfl 56 _ hbw2 (size4 _ HOK.out) (H4.cells_same _ _ HOK.out H4.zero_ok) (H4.one _) ?_; intro w3 hbw3 hgw3 hsw3))
          have hBw3 : Below w1.heap.size w1 w3 := bgrown hBw2 hgw3 (by omega) (by omega)
          obtain ⟨g4, hg4⟩ : ∃ g, w1.heap.size = g := ⟨_, rfl⟩
          rw [hg4] at hbw3
          try rw [hg4]
          have HK := Lib.hid hbw3
          have HW := Lib.hid (bthen hB1 hBw3)
          clear hbw2 hBw2 hsw2 hbw3 hgw3 hsw3 hBw3 hg4 hB1
          go_wp2_with fail
          refine (HQ.out w3).mono ?_
          rintro e w4 ⟨rfl, hB4⟩
          replace HW := Lib.hid (bthen HW.out hB4)
          replace HK := Lib.hid (HK.out.on hB4)
          have hd7 : w4.cell? ⟨g4, 7, none⟩ = some (.int .u8 h0.pro) := HK.out.cell 7
          have hd5 : w4.cell? ⟨g4, 5, none⟩ = some (.int .i64 h0.off) := HK.out.cell 5
          clear hB4
          go_wp2_with (refine wpList_value (by rfl) (exec_eqE4 _ _ [] true rfl rfl rfl) ?_)
          go_ret
          exact ⟨by rw [HD.out]; rfl, HW.out⟩
        | cons u t =>
          have hg := ba_get (u :: t) 0 u rfl
          have hlb : 0 < (u :: t).length := by simp
          obtain ⟨x, hx⟩ : ∃ x, u.toNat = x := ⟨_, rfl⟩
          have HD2 := Lib.hid (show RB = errT x by rw [HD.out, ← hx]; rfl)
          by_cases c3 : x = 3
          · subst c3
            go_enter Tryd.func15, Tryd.ntmps15
            go_wp2_with fail
            refine HP.out.mono ?_
            rintro e w1 ⟨rfl, hB1⟩
            go_upto_region 2 with (first
              | (refine wpList_alloc_blk rfl 56 rfl H4.zero.cells zero4 ?_; intro w2 hbw2 hBw2 hsw2)
              | (refine wpList_store_all rfl 56 _ _ rfl w1.heap.size h0.cells rfl rfl 56 _ hbw2 (size4 _ HOK.out) (H4.cells_same _ _ HOK.out H4.zero_ok) (H4.one _) ?_; intro w3 hbw3 hgw3 hsw3))
            have hBw3 : Below w1.heap.size w1 w3 := bgrown hBw2 hgw3 (by omega) (by omega)
            obtain ⟨g4, hg4⟩ : ∃ g, w1.heap.size = g := ⟨_, rfl⟩
            rw [hg4] at hbw3
            try rw [hg4]
            have HK := Lib.hid hbw3
            have HW := Lib.hid (bthen hB1 hBw3)
            clear hbw2 hBw2 hsw2 hbw3 hgw3 hsw3 hBw3 hg4 hB1
            go_wp2_with fail
            refine (HQ.out w3).mono ?_
            rintro e w4 ⟨rfl, hB4⟩
            replace HW := Lib.hid (bthen HW.out hB4)
            replace HK := Lib.hid (HK.out.on hB4)
            have hd7 : w4.cell? ⟨g4, 7, none⟩ = some (.int .u8 h0.pro) := HK.out.cell 7
            have hd5 : w4.cell? ⟨g4, 5, none⟩ = some (.int .i64 h0.off) := HK.out.cell 5
            clear hB4
            go_wp2_with (refine wpList_value (by rfl) (exec_eqE4 _ _ (u :: t) false rfl rfl rfl) ?_)
            go_ret
            exact ⟨by rw [HD2.out]; rfl, HW.out⟩
          · have n3 : ((x : Int) == 3) = false := by simp; omega
            by_cases c4 : x = 4
            · subst c4
              go_enter Tryd.func15, Tryd.ntmps15
              go_wp2_with fail
              refine HP.out.mono ?_
              rintro e w1 ⟨rfl, hB1⟩
              go_upto_region 2 with (first
                | (refine wpList_alloc_blk rfl 56 rfl H4.zero.cells zero4 ?_; intro w2 hbw2 hBw2 hsw2)
                | (refine wpList_store_all rfl 56 _ _ rfl w1.heap.size h0.cells rfl rfl 56 _ hbw2 (size4 _ HOK.out) (H4.cells_same _ _ HOK.out H4.zero_ok) (H4.one _) ?_; intro w3 hbw3 hgw3 hsw3))
              have hBw3 : Below w1.heap.size w1 w3 := bgrown hBw2 hgw3 (by omega) (by omega)
              obtain ⟨g4, hg4⟩ : ∃ g, w1.heap.size = g := ⟨_, rfl⟩
              rw [hg4] at hbw3
              try rw [hg4]
              have HK := Lib.hid hbw3
              have HW := Lib.hid (bthen hB1 hBw3)
              clear hbw2 hBw2 hsw2 hbw3 hgw3 hsw3 hBw3 hg4 hB1
              go_wp2_with fail
              refine (HQ.out w3).mono ?_
              rintro e w4 ⟨rfl, hB4⟩
              replace HW := Lib.hid (bthen HW.out hB4)
              replace HK := Lib.hid (HK.out.on hB4)
              have hd7 : w4.cell? ⟨g4, 7, none⟩ = some (.int .u8 h0.pro) := HK.out.cell 7
              have hd5 : w4.cell? ⟨g4, 5, none⟩ = some (.int .i64 h0.off) := HK.out.cell 5
              clear hB4
              go_wp2_with (refine wpList_value (by rfl) (exec_eqE4 _ _ (u :: t) false rfl rfl rfl) ?_)
              go_ret
              exact ⟨by rw [HD2.out]; rfl, HW.out⟩
            · have n4 : ((x : Int) == 4) = false := by simp; omega
              by_cases c5 : x = 5
              · subst c5
                go_enter Tryd.func15, Tryd.ntmps15
                go_wp2_with fail
                refine HP.out.mono ?_
                rintro e w1 ⟨rfl, hB1⟩
                go_upto_region 2 with (first
                  | (refine wpList_alloc_blk rfl 56 rfl H4.zero.cells zero4 ?_; intro w2 hbw2 hBw2 hsw2)
                  | (refine wpList_store_all rfl 56 _ _ rfl w1.heap.size h0.cells rfl rfl 56 _ hbw2 (size4 _ HOK.out) (H4.cells_same _ _ HOK.out H4.zero_ok) (H4.one _) ?_; intro w3 hbw3 hgw3 hsw3))
                have hBw3 : Below w1.heap.size w1 w3 := bgrown hBw2 hgw3 (by omega) (by omega)
                obtain ⟨g4, hg4⟩ : ∃ g, w1.heap.size = g := ⟨_, rfl⟩
                rw [hg4] at hbw3
                try rw [hg4]
                have HK := Lib.hid hbw3
                have HW := Lib.hid (bthen hB1 hBw3)
                clear hbw2 hBw2 hsw2 hbw3 hgw3 hsw3 hBw3 hg4 hB1
                go_wp2_with fail
                refine (HQ.out w3).mono ?_
                rintro e w4 ⟨rfl, hB4⟩
                replace HW := Lib.hid (bthen HW.out hB4)
                replace HK := Lib.hid (HK.out.on hB4)
                have hd7 : w4.cell? ⟨g4, 7, none⟩ = some (.int .u8 h0.pro) := HK.out.cell 7
                have hd5 : w4.cell? ⟨g4, 5, none⟩ = some (.int .i64 h0.off) := HK.out.cell 5
                clear hB4
                go_wp2_with (refine wpList_value (by rfl) (exec_eqE4 _ _ (u :: t) false rfl rfl rfl) ?_)
                go_ret
                exact ⟨by rw [HD2.out]; rfl, HW.out⟩
              · have n5 : ((x : Int) == 5) = false := by simp; omega
                by_cases c11 : x = 11
                · subst c11
                  go_enter Tryd.func15, Tryd.ntmps15
                  go_wp2_with fail
                  refine HP.out.mono ?_
                  rintro e w1 ⟨rfl, hB1⟩
                  go_upto_region 2 with (first
                    | (refine wpList_alloc_blk rfl 56 rfl H4.zero.cells zero4 ?_; intro w2 hbw2 hBw2 hsw2)
                    | (refine wpList_store_all rfl 56 _ _ rfl w1.heap.size h0.cells rfl rfl 56 _ hbw2 (size4 _ HOK.out) (H4.cells_same _ _ HOK.out H4.zero_ok) (H4.one _) ?_; intro w3 hbw3 hgw3 hsw3))
                  have hBw3 : Below w1.heap.size w1 w3 := bgrown hBw2 hgw3 (by omega) (by omega)
                  obtain ⟨g4, hg4⟩ : ∃ g, w1.heap.size = g := ⟨_, rfl⟩
                  rw [hg4] at hbw3
                  try rw [hg4]
                  have HK := Lib.hid hbw3
                  have HW := Lib.hid (bthen hB1 hBw3)
                  clear hbw2 hBw2 hsw2 hbw3 hgw3 hsw3 hBw3 hg4 hB1
                  go_wp2_with fail
                  refine (HQ.out w3).mono ?_
                  rintro e w4 ⟨rfl, hB4⟩
                  replace HW := Lib.hid (bthen HW.out hB4)
                  replace HK := Lib.hid (HK.out.on hB4)
                  have hd7 : w4.cell? ⟨g4, 7, none⟩ = some (.int .u8 h0.pro) := HK.out.cell 7
                  have hd5 : w4.cell? ⟨g4, 5, none⟩ = some (.int .i64 h0.off) := HK.out.cell 5
                  clear hB4
                  go_wp2_with (refine wpList_value (by rfl) (exec_eqE4 _ _ (u :: t) false rfl rfl rfl) ?_)
                  go_ret
                  exact ⟨by rw [HD2.out]; rfl, HW.out⟩
                · have n11 : ((x : Int) == 11) = false := by simp; omega
                  by_cases c12 : x = 12
                  · subst c12
                    go_enter Tryd.func15, Tryd.ntmps15
                    go_wp2_with fail
                    refine HP.out.mono ?_
                    rintro e w1 ⟨rfl, hB1⟩
                    go_upto_region 2 with (first
                      | (refine wpList_alloc_blk rfl 56 rfl H4.zero.cells zero4 ?_; intro w2 hbw2 hBw2 hsw2)
                      | (refine wpList_store_all rfl 56 _ _ rfl w1.heap.size h0.cells rfl rfl 56 _ hbw2 (size4 _ HOK.out) (H4.cells_same _ _ HOK.out H4.zero_ok) (H4.one _) ?_; intro w3 hbw3 hgw3 hsw3))
                    have hBw3 : Below w1.heap.size w1 w3 := bgrown hBw2 hgw3 (by omega) (by omega)
                    obtain ⟨g4, hg4⟩ : ∃ g, w1.heap.size = g := ⟨_, rfl⟩
                    rw [hg4] at hbw3
                    try rw [hg4]
                    have HK := Lib.hid hbw3
                    have HW := Lib.hid (bthen hB1 hBw3)
                    clear hbw2 hBw2 hsw2 hbw3 hgw3 hsw3 hBw3 hg4 hB1
                    go_wp2_with fail
                    refine (HQ.out w3).mono ?_
                    rintro e w4 ⟨rfl, hB4⟩
                    replace HW := Lib.hid (bthen HW.out hB4)
                    replace HK := Lib.hid (HK.out.on hB4)
                    have hd7 : w4.cell? ⟨g4, 7, none⟩ = some (.int .u8 h0.pro) := HK.out.cell 7
                    have hd5 : w4.cell? ⟨g4, 5, none⟩ = some (.int .i64 h0.off) := HK.out.cell 5
                    clear hB4
                    go_wp2_with (refine wpList_value (by rfl) (exec_eqE4 _ _ (u :: t) false rfl rfl rfl) ?_)
                    go_ret
                    exact ⟨by rw [HD2.out]; rfl, HW.out⟩
                  · have n12 : ((x : Int) == 12) = false := by simp; omega
                    have HF := Lib.hid (show errT x = false by unfold errT; rw [decide_eq_false c3, decide_eq_false c4, decide_eq_false c5, decide_eq_false c11, decide_eq_false c12]; rfl)
                    clear c3 c4 c5 c11 c12
                    go_enter Tryd.func15, Tryd.ntmps15
                    go_wp2_with fail
                    refine HP.out.mono ?_
                    rintro e w1 ⟨rfl, hB1⟩
                    go_upto_region 2 with (first
                      | (refine wpList_alloc_blk rfl 56 rfl H4.zero.cells zero4 ?_; intro w2 hbw2 hBw2 hsw2)
                      | (refine wpList_store_all rfl 56 _ _ rfl w1.heap.size h0.cells rfl rfl 56 _ hbw2 (size4 _ HOK.out) (H4.cells_same _ _ HOK.out H4.zero_ok) (H4.one _) ?_; intro w3 hbw3 hgw3 hsw3))
                    have hBw3 : Below w1.heap.size w1 w3 := bgrown hBw2 hgw3 (by omega) (by omega)
                    obtain ⟨g4, hg4⟩ : ∃ g, w1.heap.size = g := ⟨_, rfl⟩
                    rw [hg4] at hbw3
                    try rw [hg4]
                    have HK := Lib.hid hbw3
                    have HW := Lib.hid (bthen hB1 hBw3)
                    clear hbw2 hBw2 hsw2 hbw3 hgw3 hsw3 hBw3 hg4 hB1
                    go_wp2_with fail
                    refine (HQ.out w3).mono ?_
                    rintro e w4 ⟨rfl, hB4⟩
                    replace HW := Lib.hid (bthen HW.out hB4)
                    replace HK := Lib.hid (HK.out.on hB4)
                    have hd7 : w4.cell? ⟨g4, 7, none⟩ = some (.int .u8 h0.pro) := HK.out.cell 7
                    have hd5 : w4.cell? ⟨g4, 5, none⟩ = some (.int .i64 h0.off) := HK.out.cell 5
                    clear hB4
                    go_wp2_with (refine wpList_value (by rfl) (exec_eqE4 _ _ (u :: t) false rfl rfl rfl) ?_)
                    go_ret
                    exact ⟨by rw [HD2.out, HF.out]; rfl, HW.out⟩
    · have hB2 : (h0.pro != 1) = true := by simpa using hB
      have HD := Lib.hid (show RB = false by rw [hRF, decide_eq_false hB]; rfl)
      clear hRF hB
      go_enter Tryd.func15, Tryd.ntmps15
      go_wp2_with fail
      refine HP.out.mono ?_
      rintro e w1 ⟨rfl, hB1⟩
      go_upto_region 2 with (first
        | (refine wpList_alloc_blk rfl 56 rfl H4.zero.cells zero4 ?_; intro w2 hbw2 hBw2 hsw2)
        | (refine wpList_store_all rfl 56 _ _ rfl w1.heap.size h0.cells rfl rfl 56 _ hbw2 (size4 _ HOK.out) (H4.cells_same _ _ HOK.out H4.zero_ok) (H4.one _) ?_; intro w3 hbw3 hgw3 hsw3))
      have hBw3 : Below w1.heap.size w1 w3 := bgrown hBw2 hgw3 (by omega) (by omega)
      obtain ⟨g4, hg4⟩ : ∃ g, w1.heap.size = g := ⟨_, rfl⟩
      rw [hg4] at hbw3
      try rw [hg4]
      have HK := Lib.hid hbw3
      have HW := Lib.hid (bthen hB1 hBw3)
      clear hbw2 hBw2 hsw2 hbw3 hgw3 hsw3 hBw3 hg4 hB1
      go_wp2_with fail
      refine (HQ.out w3).mono ?_
      rintro e w4 ⟨rfl, hB4⟩
      replace HW := Lib.hid (bthen HW.out hB4)
      replace HK := Lib.hid (HK.out.on hB4)
      have hd7 : w4.cell? ⟨g4, 7, none⟩ = some (.int .u8 h0.pro) := HK.out.cell 7
      have hd5 : w4.cell? ⟨g4, 5, none⟩ = some (.int .i64 h0.off) := HK.out.cell 5
      clear hB4
      go_wp2_with fail
      go_ret
      exact ⟨by rw [HD.out]; rfl, HW.out⟩
  · have hA2 : (er != 0) = true := by simpa using hA
    have HD := Lib.hid (show RB = false by rw [hRF, decide_eq_false hA]; rfl)
    clear hRF hA
    go_enter Tryd.func15, Tryd.ntmps15
    go_wp2_with fail
    refine HP.out.mono ?_
    rintro e w1 ⟨rfl, hB1⟩
    go_upto_region 2 with (first
      | (refine wpList_alloc_blk rfl 56 rfl H4.zero.cells zero4 ?_; intro w2 hbw2 hBw2 hsw2)
      | (refine wpList_store_all rfl 56 _ _ rfl w1.heap.size h0.cells rfl rfl 56 _ hbw2 (size4 _ HOK.out) (H4.cells_same _ _ HOK.out H4.zero_ok) (H4.one _) ?_; intro w3 hbw3 hgw3 hsw3))
    have hBw3 : Below w1.heap.size w1 w3 := bgrown hBw2 hgw3 (by omega) (by omega)
    obtain ⟨g4, hg4⟩ : ∃ g, w1.heap.size = g := ⟨_, rfl⟩
    rw [hg4] at hbw3
    try rw [hg4]
    have HK := Lib.hid hbw3
    have HW := Lib.hid (bthen hB1 hBw3)
    clear hbw2 hBw2 hsw2 hbw3 hgw3 hsw3 hBw3 hg4 hB1
    go_wp2_with fail
    refine (HQ.out w3).mono ?_
    rintro e w4 ⟨rfl, hB4⟩
    replace HW := Lib.hid (bthen HW.out hB4)
    replace HK := Lib.hid (HK.out.on hB4)
    have hd7 : w4.cell? ⟨g4, 7, none⟩ = some (.int .u8 h0.pro) := HK.out.cell 7
    have hd5 : w4.cell? ⟨g4, 5, none⟩ = some (.int .i64 h0.off) := HK.out.cell 5
    clear hB4
    go_wp2_with fail
    go_ret
    exact ⟨by rw [HD.out]; rfl, HW.out⟩
end Go.Proofs.YtckbleiikldloaaDoor


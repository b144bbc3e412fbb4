/- Texts of this claim put together, in build order: each one's own remark stands ahead of it. -/
import Derived.Test.YtckbleiikldloaaDoorG21
/- What the reference's Get of errors of IPv4 (layer 23) computes. No condition but sizes. -/
namespace Go.Proofs.YtckbleiikldloaaDoor
open Go.RowKit
set_option linter.unusedVariables false
set_option maxRecDepth 20000
set_option linter.unusedSimpArgs false

theorem oneMm (x : Mm) : ∀ v ∈ x.cells, v.oneCell' = true := by
  intro v hv
  simp [Mm.cells] at hv
  rcases hv with rfl | rfl | rfl | rfl <;> rfl
theorem sizeMm (x : Mm) : (Tryd.prog.info? 34).map (·.size) = some x.cells.length := by show _ = some 4; kernel_rfl
def Mm.zero : Mm := ⟨0, 0, [], none, 0, 0, []⟩
theorem zeroMm (w : World) : (zeroValue 34).run Tryd.prog w = .ok (.agg Mm.zero.cells.toArray) w := by kernel_rfl
section
variable {w : World} {o : Oper} {a : Act} {ops : Array Oper} {rest : List Oper} {Q : Exit → Act → World → Prop}
theorem wpList_store_st (hgd : Region.wanted o (yielded ops a.tmps) = true) (x y : Operand) (ho : o.op = .store 9 x y) (g j : Nat) (z : List UInt8) (hx : a.eval x = .pointer (some ⟨g, j, none⟩)) (hy : a.eval y = str z) (t : TypeId) (cs : List Value) (u : Value) (hb : Blk w g t cs) (hj : cs[j]? = some u)
    (h : ∀ w', Blk w' g t (cs.set j (str z)) → w.grownBy w' (some g) → w'.heap.size = w.heap.size → wpList Tryd.prog ops Q rest (a.put o.dst undef) w') : wpList Tryd.prog ops Q (o :: rest) a w :=
  wpList_wanted hgd fun _ hK => wp_skip (w' := w.setCell ⟨g, j, none⟩ (str z)) (by
    have hc := (hb.cell j).trans hj
    have hf := hb.frozen j
    unfold execOp
    simp only [ho, hx, hy]
    go_simp) (hK _ _ (h _ (hb.set j _) (grown_setCells g [str z] j w w (grown_refl w _)) (by simp)))
end
def Mm.got (m : Mm) : Got := (m.kind, m.mtu, m.beg, m.st)
theorem Mm.zero_ok (w : World) : Mm.zero.ok w := ⟨by decide, by decide, by decide, Row.nil _ _ _ _, Nat.le_refl _, Nat.zero_le _, by simp [Mm.zero]⟩
theorem exec_eqSB {w : World} {o : Oper} {c : Act} (x y : Operand) (ty : TypeId) (ho : o.op = .binOp .eql 9 x y ty) (s r : List UInt8) (B : Bool) (hB : decide (s = r) = B) (hx : c.eval x = str s) (hy : c.eval y = str r) : (execOp c.eval o).run Tryd.prog w = .ok (.value (.bool B)) w := by
  unfold execOp
  simp only [ho, hx, hy]
  go_simp
  rw [← hB]
  by_cases h : s = r <;> simp [h]
/-- the kind that the first j fronts tell -/
def kj (s : List UInt8) : Nat → Int
  | 0 => -1
  | j + 1 => if frontK (j : Int) = s then (j : Int) else kj s j
theorem kj_kind (a b : UInt8) : kj [a, b] 3 = kind4F a.toNat b.toNat := by
  have e : ∀ (x : UInt8) (n : Nat), x.toNat = n → ∀ c : UInt8, (x = c ↔ c.toNat = n) := fun x n h c => ⟨fun e => by rw [← e, h], fun e => UInt8.toNat_inj.1 (by rw [h, e])⟩
  have h11 := e 11 11 rfl
  have h0 := e 0 0 rfl
  have h3 := e 3 3 rfl
  have h4 := e 4 4 rfl
  unfold kind4F kj kj kj kj
  have f2 : (frontK ((2 : Nat) : Int) = [a, b]) ↔ (a.toNat = 3 ∧ b.toNat = 0) := by
    show ([3, 0] : List UInt8) = [a, b] ↔ _
    simp [h3, h0]
  have f1 : (frontK ((1 : Nat) : Int) = [a, b]) ↔ (a.toNat = 3 ∧ b.toNat = 4) := by
    show ([3, 4] : List UInt8) = [a, b] ↔ _
    simp [h3, h4]
  have f0 : (frontK ((0 : Nat) : Int) = [a, b]) ↔ (a.toNat = 11 ∧ b.toNat = 0) := by
    show ([11, 0] : List UInt8) = [a, b] ↔ _
    simp [h11, h0]
  simp only [f0, f1, f2]
  by_cases c0 : a.toNat = 11 ∧ b.toNat = 0
  · rw [if_neg (by omega), if_neg (by omega), if_pos c0, if_pos c0]
    rfl
  · rw [if_neg c0, if_neg c0]
    by_cases c1 : a.toNat = 3 ∧ b.toNat = 4
    · rw [if_neg (by omega), if_pos c1, if_pos c1]
      rfl
    · rw [if_neg c1, if_neg c1]
      rfl
set_option maxHeartbeats 4000000 in
theorem rget23_any (l : List UInt8) (w : World) (hn : l.length ≤ 1000000) :
    Calls Tryd.prog 12 #[str l] w fun e w' => ∃ m' : Mm, e = .returned (.tuple #[.agg m'.cells.toArray, .int .i64 (getF4 l).2]) ∧ m'.ok w' ∧ m'.got = (getF4 l).1 ∧ Below w.heap.size w w' := by
  have P := fun W => rparse4_any l W (by omega)
  have BD := Lib.hid (fun W => rbody4_any l W (by omega))
  have hok := par4_ok l
  obtain ⟨S, hS⟩ : ∃ S, body4 l = S := ⟨_, rfl⟩
  have hSn : S.length ≤ 1000000 := by rw [← hS]; exact Nat.le_trans (body4_le l) hn
  obtain ⟨R, hR⟩ : ∃ R, getF4 l = R := ⟨_, rfl⟩
  rw [hR]
  have hRF : R = if (par4 l).2 ≠ 0 then (noGot, (par4 l).2) else if (par4 l).1.pro ≠ 1 ∨ (par4 l).1.more = true ∨ 0 < (par4 l).1.off then (noGot, 55) else if S.length < 8 then (noGot, 15) else if rawN S ≠ 65535 then (noGot, 14) else gotF4 S (kind4F (S.getD 0 0).toNat (S.getD 1 0).toNat) (numF S 6 2) := by
    rw [← hR, ← hS]
    unfold getF4 readF4
    split
    · rfl
    · split
      · rfl
      · split
        · rfl
        · split
          · rfl
          · rfl
  rw [hS] at BD
  clear hR hS
  cases hp : par4 l with
  | mk h4 er =>
  rw [hp] at hok hRF
  simp only [hp] at P hok hRF
  have HP := Lib.hid P
  have HOK := Lib.hid hok
  clear P hok hp hn
  have H0 := H4.zero_ok
  obtain ⟨g0, hg0⟩ : ∃ g, w.heap.size = g := ⟨_, rfl⟩
  have HG := Lib.hid hg0
  by_cases he : er = 0
  · subst he
    rw [if_neg (fun h => h rfl)] at hRF
    by_cases hp1 : h4.pro = 1
    · have hp1b : (h4.pro != 1) = false := by simp [hp1]
      cases hmo : h4.more
      · by_cases hof : 0 < h4.off
        · rw [if_pos (.inr (.inr hof))] at hRF
          have HR := Lib.hid hRF
          clear hRF hp1
          go_enter Tryd.func12, Tryd.ntmps12
          go_upto_region 1 with (refine wpList_alloc_blk (by rfl) 34 rfl Mm.zero.cells zeroMm ?_; intro w1 hb1 hB1 hs1)
          rw [hg0] at hb1
          try rw [hg0]
          have HZ := Lib.hid hb1
          have HW := Lib.hid hB1
          clear hb1 hB1 hs1
          go_wp2_with fail
          refine (HP.out w1).mono ?_
          rintro e w4 ⟨rfl, hb4⟩
          replace HZ := Lib.hid (HZ.out.on hb4)
          replace HW := Lib.hid (bthen HW.out hb4)
          clear hb4
          go_upto_region 2 with (first
            | (refine wpList_alloc_blk (by rfl) 56 rfl H4.zero.cells zero4 ?_; intro w5 hb5 hB5 hs5)
            | (refine wpList_store_all (by rfl) 56 _ _ rfl w4.heap.size h4.cells rfl rfl 56 _ hb5 (size4 _ HOK.out) (H4.cells_same _ _ HOK.out H0) (H4.one _) ?_; intro w6 hb6 hg6 hs6))
          obtain ⟨g2, hg2⟩ : ∃ g, w4.heap.size = g := ⟨_, rfl⟩
          have hne02 : g0 ≠ g2 := by have := HZ.out.lt; omega
          have hle2 : w.heap.size ≤ g2 := by rw [← hg2]; exact HW.out.size
          rw [hg2] at hb6 hg6
          try rw [hg2]
          have hB5w := bthen HW.out hB5
          replace HZ := Lib.hid ((HZ.out.on hB5).grown hg6 (fun e => hne02 (by injection e)))
          replace HW := Lib.hid (bgrown hB5w hg6 hB5w.size hle2)
          have hd7 : w6.cell? ⟨g2, 7, none⟩ = some (.int .u8 h4.pro) := hb6.cell 7
          have hd4 : w6.cell? ⟨g2, 4, none⟩ = some (.bool h4.more) := hb6.cell 4
          have hd5 : w6.cell? ⟨g2, 5, none⟩ = some (.int .i64 h4.off) := hb6.cell 5
          clear hb5 hB5 hs5 hb6 hg6 hs6 hB5w hg2
          go_wp2_with (refine wpList_store_all (by rfl) 34 _ _ rfl g0 Mm.zero.cells rfl rfl 34 _ HZ.out (sizeMm _) rfl (oneMm _) ?_; intro w99 hb9 hg9 hs9)
          have hB9 : Below w.heap.size w w99 := bgrown HW.out hg9 HW.out.size (by have := HG.out; omega)
          refine bodyPost_ret (results_cell2 rfl _ _ g0 _ _ _ rfl hb9 Tryd.underlying34 rfl (sizeMm Mm.zero)) rfl ?_
          exact ⟨Mm.zero, by rw [HR.out]; rfl, Mm.zero_ok _, by rw [HR.out]; rfl, by first | exact hB9 | (have h := hB9; rw [HG.out] at h; exact h)⟩
        · rw [if_neg (fun h => by rcases h with h | h | h; exact h hp1; rw [hmo] at h; cases h; exact hof h)] at hRF
          clear hp1
          by_cases h8 : S.length < 8
          · rw [if_pos h8] at hRF
            have HR := Lib.hid hRF
            have h8i : (S.length : Int) < 8 := by omega
            clear hRF
            go_enter Tryd.func12, Tryd.ntmps12
            go_upto_region 1 with (refine wpList_alloc_blk (by rfl) 34 rfl Mm.zero.cells zeroMm ?_; intro w1 hb1 hB1 hs1)
            rw [hg0] at hb1
            try rw [hg0]
            have HZ := Lib.hid hb1
            have HW := Lib.hid hB1
            clear hb1 hB1 hs1
            go_wp2_with fail
            refine (HP.out w1).mono ?_
            rintro e w4 ⟨rfl, hb4⟩
            replace HZ := Lib.hid (HZ.out.on hb4)
            replace HW := Lib.hid (bthen HW.out hb4)
            clear hb4
            go_upto_region 2 with (first
              | (refine wpList_alloc_blk (by rfl) 56 rfl H4.zero.cells zero4 ?_; intro w5 hb5 hB5 hs5)
              | (refine wpList_store_all (by rfl) 56 _ _ rfl w4.heap.size h4.cells rfl rfl 56 _ hb5 (size4 _ HOK.out) (H4.cells_same _ _ HOK.out H0) (H4.one _) ?_; intro w6 hb6 hg6 hs6))
            obtain ⟨g2, hg2⟩ : ∃ g, w4.heap.size = g := ⟨_, rfl⟩
            have hne02 : g0 ≠ g2 := by have := HZ.out.lt; omega
            have hle2 : w.heap.size ≤ g2 := by rw [← hg2]; exact HW.out.size
            rw [hg2] at hb6 hg6
            try rw [hg2]
            have hB5w := bthen HW.out hB5
            replace HZ := Lib.hid ((HZ.out.on hB5).grown hg6 (fun e => hne02 (by injection e)))
            replace HW := Lib.hid (bgrown hB5w hg6 hB5w.size hle2)
            have hd7 : w6.cell? ⟨g2, 7, none⟩ = some (.int .u8 h4.pro) := hb6.cell 7
            have hd4 : w6.cell? ⟨g2, 4, none⟩ = some (.bool h4.more) := hb6.cell 4
            have hd5 : w6.cell? ⟨g2, 5, none⟩ = some (.int .i64 h4.off) := hb6.cell 5
            clear hb5 hB5 hs5 hb6 hg6 hs6 hB5w hg2
            go_wp2_with fail
            refine (BD.out w6).mono ?_
            rintro e w7 ⟨rfl, hb⟩
            replace HZ := Lib.hid (HZ.out.on hb)
            replace HW := Lib.hid (bthen HW.out hb)
            clear hd7 hd4 hd5 hb
            go_wp2_with (refine wpList_store_all (by rfl) 34 _ _ rfl g0 Mm.zero.cells rfl rfl 34 _ HZ.out (sizeMm _) rfl (oneMm _) ?_; intro w99 hb9 hg9 hs9)
            have hB9 : Below w.heap.size w w99 := bgrown HW.out hg9 HW.out.size (by have := HG.out; omega)
            refine bodyPost_ret (results_cell2 rfl _ _ g0 _ _ _ rfl hb9 Tryd.underlying34 rfl (sizeMm Mm.zero)) rfl ?_
            exact ⟨Mm.zero, by rw [HR.out]; rfl, Mm.zero_ok _, by rw [HR.out]; rfl, by first | exact hB9 | (have h := hB9; rw [HG.out] at h; exact h)⟩
          · rw [if_neg h8] at hRF
            have h8i : ¬ (S.length : Int) < 8 := by omega
            have h8n : 8 ≤ S.length := by omega
            have RW := fun W => rraw_any S W (by omega)
            obtain ⟨rv, hrv⟩ : ∃ rv, rawN S = rv := ⟨_, rfl⟩
            rw [hrv] at hRF
            simp only [hrv] at RW
            have HRW := Lib.hid RW
            clear RW hrv h8
            by_cases hsum : rv = 65535
            · rw [if_neg (fun h => h hsum)] at hRF
              have hsum1 : ((rv : Int) != 65535) = false := by simp; omega
              have HRF := Lib.hid hRF
              clear hsum hRF
              go_enter Tryd.func12, Tryd.ntmps12
              go_upto_region 1 with (refine wpList_alloc_blk (by rfl) 34 rfl Mm.zero.cells zeroMm ?_; intro w1 hb1 hB1 hs1)
              rw [hg0] at hb1
              try rw [hg0]
              have HZ := Lib.hid hb1
              have HW := Lib.hid hB1
              clear hb1 hB1 hs1
              go_wp2_with fail
              refine (HP.out w1).mono ?_
              rintro e w4 ⟨rfl, hb4⟩
              replace HZ := Lib.hid (HZ.out.on hb4)
              replace HW := Lib.hid (bthen HW.out hb4)
              clear hb4
              go_upto_region 2 with (first
                | (refine wpList_alloc_blk (by rfl) 56 rfl H4.zero.cells zero4 ?_; intro w5 hb5 hB5 hs5)
                | (refine wpList_store_all (by rfl) 56 _ _ rfl w4.heap.size h4.cells rfl rfl 56 _ hb5 (size4 _ HOK.out) (H4.cells_same _ _ HOK.out H0) (H4.one _) ?_; intro w6 hb6 hg6 hs6))
              obtain ⟨g2, hg2⟩ : ∃ g, w4.heap.size = g := ⟨_, rfl⟩
              have hne02 : g0 ≠ g2 := by have := HZ.out.lt; omega
              have hle2 : w.heap.size ≤ g2 := by rw [← hg2]; exact HW.out.size
              rw [hg2] at hb6 hg6
              try rw [hg2]
              have hB5w := bthen HW.out hB5
              replace HZ := Lib.hid ((HZ.out.on hB5).grown hg6 (fun e => hne02 (by injection e)))
              replace HW := Lib.hid (bgrown hB5w hg6 hB5w.size hle2)
              have hd7 : w6.cell? ⟨g2, 7, none⟩ = some (.int .u8 h4.pro) := hb6.cell 7
              have hd4 : w6.cell? ⟨g2, 4, none⟩ = some (.bool h4.more) := hb6.cell 4
              have hd5 : w6.cell? ⟨g2, 5, none⟩ = some (.int .i64 h4.off) := hb6.cell 5
              clear hb5 hB5 hs5 hb6 hg6 hs6 hB5w hg2
              go_wp2_with fail
              refine (BD.out w6).mono ?_
              rintro e w7 ⟨rfl, hb⟩
              replace HZ := Lib.hid (HZ.out.on hb)
              replace HW := Lib.hid (bthen HW.out hb)
              clear hd7 hd4 hd5 hb
              go_wp2_with fail
              refine (HRW.out w7).mono ?_
              rintro e w8 ⟨rfl, rfl⟩
              obtain ⟨b0, hb0⟩ : ∃ u, S[0]? = some u := ⟨_, List.getElem?_eq_getElem (by omega)⟩
              obtain ⟨b1, hb1⟩ : ∃ u, S[1]? = some u := ⟨_, List.getElem?_eq_getElem (by omega)⟩
              obtain ⟨b4, hb4⟩ : ∃ u, S[4]? = some u := ⟨_, List.getElem?_eq_getElem (by omega)⟩
              obtain ⟨b5, hb5⟩ : ∃ u, S[5]? = some u := ⟨_, List.getElem?_eq_getElem (by omega)⟩
              have HB4 := Lib.hid (ba_get S 4 b4 hb4)
              have HB5 := Lib.hid (ba_get S 5 b5 hb5)
              have hrf := HRF.out
              have e0 : S.getD 0 0 = b0 := by rw [List.getD_eq_getElem?_getD, hb0]; rfl
              have e1 : S.getD 1 0 = b1 := by rw [List.getD_eq_getElem?_getD, hb1]; rfl
              have e4 : S.getD 4 0 = b4 := by rw [List.getD_eq_getElem?_getD, hb4]; rfl
              have e5 : S.getD 5 0 = b5 := by rw [List.getD_eq_getElem?_getD, hb5]; rfl
              unfold gotF4 at hrf
              rw [e0, e1, e4, e5] at hrf
              have hub4 := b4.toNat_lt
              have hub5 := b5.toNat_lt
              have hkb := kind4F_bd b0.toNat b1.toNat
              have hkk := kj_kind b0 b1
              obtain ⟨u4, hu4⟩ : ∃ u, b4.toNat = u := ⟨_, rfl⟩
              obtain ⟨u5, hu5⟩ : ∃ u, b5.toNat = u := ⟨_, rfl⟩
              have HU4 := Lib.hid hu4
              have HU5 := Lib.hid hu5
              rw [hu4, hu5] at hrf
              rw [hu4] at hub4
              rw [hu5] at hub5
              obtain ⟨k, hk⟩ : ∃ k, kind4F b0.toNat b1.toNat = k := ⟨_, rfl⟩
              rw [hk] at hrf hkb hkk
              have HKI := Lib.hid hkk
              have GT := fun W => rget_yes S 6 2 W (by omega) (by omega) (by omega) (by omega) (by omega)
              obtain ⟨mtu, hf⟩ : ∃ f, numF S 6 2 = f := ⟨_, rfl⟩
              have hfb : mtu < 65536 := by rw [← hf]; exact numF_bd S 6 2
              have hf' := hf
              unfold numF at hf'
              simp only [show ((6 : Int).toNat) = 6 from rfl, show ((2 : Int).toNat) = 2 from rfl, hf'] at GT
              have HGT := Lib.hid GT
              rw [hf] at hrf
              have hS2 : S.take 2 = [b0, b1] := by
                cases S with
                | nil => simp at h8n
                | cons x t => cases t with
                  | nil => simp at h8n
                  | cons y t2 =>
                    simp at hb0 hb1
                    subst hb0 hb1
                    rfl
              have HS2 := Lib.hid hS2
              obtain ⟨D, hD⟩ : ∃ D, S.drop 8 = D := ⟨_, rfl⟩
              have hDl : D.length + 8 = S.length := by rw [← hD, List.length_drop]; omega
              have h136 : S.drop 136 = D.drop 128 := by rw [← hD, List.drop_drop]
              rw [hD, h136] at hrf
              have HD8 := Lib.hid (show (ByteArray.mk S.toArray).extract 8 S.length = ByteArray.mk D.toArray by rw [str_ex, List.take_of_length_le (Nat.le_refl _), hD])
              have hBad := badK4_iff k mtu
              replace HRF := Lib.hid hrf
              clear hrf hD h136 hf hf' GT hk hkk hu4 hu5 e0 e1 e4 e5 hb0 hb1 hb4 hb5 hS2
              go_wp2_with fail
              go_loopw [7, 8] (fun kd i wr => ∃ j : Nat, j ≤ 3 ∧ i = .int .i64 (j : Nat) ∧ kd = .int .i64 (kj [b0, b1] j) ∧ Below w7.heap.size w7 wr) (fun _ i _ => 3 - (intOf i).toNat)
              case atStart => exact ⟨0, by omega, rfl, rfl, Below.refl _ _⟩
              case round =>
                obtain ⟨j, hj, rfl, rfl, hBe⟩ := hrel
                have hcase : j = 0 ∨ j = 1 ∨ j = 2 ∨ j = 3 := by omega
                have HBE := Lib.hid hBe
                clear hBe
                rcases hcase with rfl | rfl | rfl | rfl
                · by_cases hq : frontK 0 = [b0, b1]
                  · have HQ := Lib.hid (decide_eq_true hq)
                    have HN := Lib.hid (show kj [b0, b1] (0 + 1) = 0 from if_pos hq)
                    obtain ⟨kq, hkq⟩ : ∃ kq, kj [b0, b1] 0 = kq := ⟨_, rfl⟩
                    have HKQ := Lib.hid hkq
                    try rw [hkq]
                    clear hq hkq
                    go_wp2_with fail
                    refine wp_region_rel (fun A B => A.grownBy B none) (fun A => grown_refl A _) (fun A B C h k => grown_trans h k) (relAt (List.cons (fun v _ => v = .int .i64 0) (List.cons (fun v _ => v = str (frontK 0)) (List.cons (fun v _ => v = str S) (List.cons (fun v _ => v = str [b0, b1]) (List.cons (fun v _ => v = .bool true) ([]))))))) (MonoL.at_ (.cons (mono_val _) (.cons (mono_val _) (.cons (mono_val _) (.cons (mono_val _) (.cons (mono_val _) .nil)))))) (by kernel_rfl) (by kernel_rfl) ⟨?_, ?_, ?_, ?_, ?_, trivial⟩ ?_
                    · intro a vs W hX hR he hf K hK
                      rw [if_pos (wanted_none rfl)]
                      have e8 : a.eval (.tmp 8) = .int .i64 0 := hf 8 (by kernel_rfl)
                      refine wp_value (v := .int .i64 0) ?_ (hK _ _ rfl (grown_refl W _))
                      simp only [execOp, e8]
                      try go_simp
                      try (first | rfl | omega | (simp only [IntKind.wrap_i64, IntKind.wrap_u8, IntKind.wrap_u64, IntKind.wrap_u16, IntKind.wrap_u32]; omega) | (rw [Int.tmod_eq_emod_of_nonneg (by omega)]) | (rw [Int.tmod_eq_emod_of_nonneg (by omega)]; omega))
                    · intro a vs W hX hR he hf K hK
                      rw [if_pos (wanted_none rfl)]
                      have e49 : a.eval (.tmp 49) = .int .i64 0 := (he 0 49 (by kernel_rfl) rfl).trans (hR 0 (by kernel_rfl))
                      refine wp_enter (f := 25) (args := #[.int .i64 0]) (by simp only [execOp, e49]; go_simp; simpa [Act.eval] using e49) ((front_any 0 (by omega) (by omega) W).mono ?_)
                      rintro e w' ⟨rfl, hb⟩
                      exact ⟨_, rfl, hK _ _ rfl (below_grow hb _)⟩
                    · intro a vs W hX hR he hf K hK
                      rw [if_pos (wanted_none rfl)]
                      have e6 : a.eval (.tmp 6) = str S := hf 6 (by kernel_rfl)
                      refine wp_value (v := str S) ?_ (hK _ _ rfl (grown_refl W _))
                      simp only [execOp, e6]
                      try go_simp
                      try (first | rfl | omega | (simp only [IntKind.wrap_i64, IntKind.wrap_u8, IntKind.wrap_u64, IntKind.wrap_u16, IntKind.wrap_u32]; omega) | (rw [Int.tmod_eq_emod_of_nonneg (by omega)]) | (rw [Int.tmod_eq_emod_of_nonneg (by omega)]; omega))
                    · intro a vs W hX hR he hf K hK
                      rw [if_pos (wanted_none rfl)]
                      have e51 : a.eval (.tmp 51) = str S := (he 2 51 (by kernel_rfl) rfl).trans (hR 2 (by kernel_rfl))
                      have f51 := e51
                      simp only [Act.eval, Array.getD_eq_getD_getElem?] at f51
                      refine wp_value (v := str [b0, b1]) ?_ (hK _ _ rfl (grown_refl W _))
                      simp only [execOp, e51]
                      go_simp
                      rw [if_pos (by omega), str_ex, List.drop_zero, HS2.out]
                    · intro a vs W hX hR he hf K hK
                      rw [if_pos (wanted_none rfl)]
                      have e50 : a.eval (.tmp 50) = str (frontK 0) := (he 1 50 (by kernel_rfl) rfl).trans (hR 1 (by kernel_rfl))
                      have e52 : a.eval (.tmp 52) = str [b0, b1] := (he 3 52 (by kernel_rfl) rfl).trans (hR 3 (by kernel_rfl))
                      exact wp_value (exec_eqSB _ _ _ rfl (frontK 0) [b0, b1] true HQ.out e50 e52) (hK _ _ rfl (grown_refl W _))
                    · intro vs wx hXx hR
                      have q0 := hR 0 (by decide)
                      have q1 := hR 1 (by decide)
                      have q2 := hR 2 (by decide)
                      have q3 := hR 3 (by decide)
                      have q4 := hR 4 (by decide)
                      change vs 0 = .int .i64 0 at q0
                      change vs 1 = str (frontK 0) at q1
                      change vs 2 = str S at q2
                      change vs 3 = str [b0, b1] at q3
                      change vs 4 = .bool true at q4
                      simp only [putAll, Act.put, List.setIfInBounds_toArray, List.set_cons_zero, List.set_cons_succ, q0, q1, q2, q3, q4]
                      clear q0 q1 q2 q3 q4
                      clear hR
                      have hbx := HBE.out.trans ((bthen (below_drew _) (grow_below hXx)).mono HBE.out.size)
                      clear hXx
                      go_wp2_with fail
                      go_roundw
                      case rel => exact ⟨1, by omega, rfl, by rw [HN.out]; rfl, hbx⟩
                      case measure => simp [intOf]
                  · have HQ := Lib.hid (decide_eq_false hq)
                    have HN := Lib.hid (show kj [b0, b1] (0 + 1) = kj [b0, b1] 0 from if_neg hq)
                    obtain ⟨kq, hkq⟩ : ∃ kq, kj [b0, b1] 0 = kq := ⟨_, rfl⟩
                    have HKQ := Lib.hid hkq
                    try rw [hkq]
                    clear hq hkq
                    go_wp2_with fail
                    refine wp_region_rel (fun A B => A.grownBy B none) (fun A => grown_refl A _) (fun A B C h k => grown_trans h k) (relAt (List.cons (fun v _ => v = .int .i64 0) (List.cons (fun v _ => v = str (frontK 0)) (List.cons (fun v _ => v = str S) (List.cons (fun v _ => v = str [b0, b1]) (List.cons (fun v _ => v = .bool false) ([]))))))) (MonoL.at_ (.cons (mono_val _) (.cons (mono_val _) (.cons (mono_val _) (.cons (mono_val _) (.cons (mono_val _) .nil)))))) (by kernel_rfl) (by kernel_rfl) ⟨?_, ?_, ?_, ?_, ?_, trivial⟩ ?_
                    · intro a vs W hX hR he hf K hK
                      rw [if_pos (wanted_none rfl)]
                      have e8 : a.eval (.tmp 8) = .int .i64 0 := hf 8 (by kernel_rfl)
                      refine wp_value (v := .int .i64 0) ?_ (hK _ _ rfl (grown_refl W _))
                      simp only [execOp, e8]
                      try go_simp
                      try (first | rfl | omega | (simp only [IntKind.wrap_i64, IntKind.wrap_u8, IntKind.wrap_u64, IntKind.wrap_u16, IntKind.wrap_u32]; omega) | (rw [Int.tmod_eq_emod_of_nonneg (by omega)]) | (rw [Int.tmod_eq_emod_of_nonneg (by omega)]; omega))
                    · intro a vs W hX hR he hf K hK
                      rw [if_pos (wanted_none rfl)]
                      have e49 : a.eval (.tmp 49) = .int .i64 0 := (he 0 49 (by kernel_rfl) rfl).trans (hR 0 (by kernel_rfl))
                      refine wp_enter (f := 25) (args := #[.int .i64 0]) (by simp only [execOp, e49]; go_simp; simpa [Act.eval] using e49) ((front_any 0 (by omega) (by omega) W).mono ?_)
                      rintro e w' ⟨rfl, hb⟩
                      exact ⟨_, rfl, hK _ _ rfl (below_grow hb _)⟩
                    · intro a vs W hX hR he hf K hK
                      rw [if_pos (wanted_none rfl)]
                      have e6 : a.eval (.tmp 6) = str S := hf 6 (by kernel_rfl)
                      refine wp_value (v := str S) ?_ (hK _ _ rfl (grown_refl W _))
                      simp only [execOp, e6]
                      try go_simp
                      try (first | rfl | omega | (simp only [IntKind.wrap_i64, IntKind.wrap_u8, IntKind.wrap_u64, IntKind.wrap_u16, IntKind.wrap_u32]; omega) | (rw [Int.tmod_eq_emod_of_nonneg (by omega)]) | (rw [Int.tmod_eq_emod_of_nonneg (by omega)]; omega))
                    · intro a vs W hX hR he hf K hK
                      rw [if_pos (wanted_none rfl)]
                      have e51 : a.eval (.tmp 51) = str S := (he 2 51 (by kernel_rfl) rfl).trans (hR 2 (by kernel_rfl))
                      have f51 := e51
                      simp only [Act.eval, Array.getD_eq_getD_getElem?] at f51
                      refine wp_value (v := str [b0, b1]) ?_ (hK _ _ rfl (grown_refl W _))
                      simp only [execOp, e51]
                      go_simp
                      rw [if_pos (by omega), str_ex, List.drop_zero, HS2.out]
                    · intro a vs W hX hR he hf K hK
                      rw [if_pos (wanted_none rfl)]
                      have e50 : a.eval (.tmp 50) = str (frontK 0) := (he 1 50 (by kernel_rfl) rfl).trans (hR 1 (by kernel_rfl))
                      have e52 : a.eval (.tmp 52) = str [b0, b1] := (he 3 52 (by kernel_rfl) rfl).trans (hR 3 (by kernel_rfl))
                      exact wp_value (exec_eqSB _ _ _ rfl (frontK 0) [b0, b1] false HQ.out e50 e52) (hK _ _ rfl (grown_refl W _))
                    · intro vs wx hXx hR
                      have q0 := hR 0 (by decide)
                      have q1 := hR 1 (by decide)
                      have q2 := hR 2 (by decide)
                      have q3 := hR 3 (by decide)
                      have q4 := hR 4 (by decide)
                      change vs 0 = .int .i64 0 at q0
                      change vs 1 = str (frontK 0) at q1
                      change vs 2 = str S at q2
                      change vs 3 = str [b0, b1] at q3
                      change vs 4 = .bool false at q4
                      simp only [putAll, Act.put, List.setIfInBounds_toArray, List.set_cons_zero, List.set_cons_succ, q0, q1, q2, q3, q4]
                      clear q0 q1 q2 q3 q4
                      clear hR
                      have hbx := HBE.out.trans ((bthen (below_drew _) (grow_below hXx)).mono HBE.out.size)
                      clear hXx
                      go_wp2_with fail
                      go_roundw
                      case rel => exact ⟨1, by omega, rfl, by rw [HN.out, HKQ.out], hbx⟩
                      case measure => simp [intOf]
                · by_cases hq : frontK 1 = [b0, b1]
                  · have HQ := Lib.hid (decide_eq_true hq)
                    have HN := Lib.hid (show kj [b0, b1] (1 + 1) = 1 from if_pos hq)
                    obtain ⟨kq, hkq⟩ : ∃ kq, kj [b0, b1] 1 = kq := ⟨_, rfl⟩
                    have HKQ := Lib.hid hkq
                    try rw [hkq]
                    clear hq hkq
                    go_wp2_with fail
                    refine wp_region_rel (fun A B => A.grownBy B none) (fun A => grown_refl A _) (fun A B C h k => grown_trans h k) (relAt (List.cons (fun v _ => v = .int .i64 1) (List.cons (fun v _ => v = str (frontK 1)) (List.cons (fun v _ => v = str S) (List.cons (fun v _ => v = str [b0, b1]) (List.cons (fun v _ => v = .bool true) ([]))))))) (MonoL.at_ (.cons (mono_val _) (.cons (mono_val _) (.cons (mono_val _) (.cons (mono_val _) (.cons (mono_val _) .nil)))))) (by kernel_rfl) (by kernel_rfl) ⟨?_, ?_, ?_, ?_, ?_, trivial⟩ ?_
                    · intro a vs W hX hR he hf K hK
                      rw [if_pos (wanted_none rfl)]
                      have e8 : a.eval (.tmp 8) = .int .i64 1 := hf 8 (by kernel_rfl)
                      refine wp_value (v := .int .i64 1) ?_ (hK _ _ rfl (grown_refl W _))
                      simp only [execOp, e8]
                      try go_simp
                      try (first | rfl | omega | (simp only [IntKind.wrap_i64, IntKind.wrap_u8, IntKind.wrap_u64, IntKind.wrap_u16, IntKind.wrap_u32]; omega) | (rw [Int.tmod_eq_emod_of_nonneg (by omega)]) | (rw [Int.tmod_eq_emod_of_nonneg (by omega)]; omega))
                    · intro a vs W hX hR he hf K hK
                      rw [if_pos (wanted_none rfl)]
                      have e49 : a.eval (.tmp 49) = .int .i64 1 := (he 0 49 (by kernel_rfl) rfl).trans (hR 0 (by kernel_rfl))
                      refine wp_enter (f := 25) (args := #[.int .i64 1]) (by simp only [execOp, e49]; go_simp; simpa [Act.eval] using e49) ((front_any 1 (by omega) (by omega) W).mono ?_)
                      rintro e w' ⟨rfl, hb⟩
                      exact ⟨_, rfl, hK _ _ rfl (below_grow hb _)⟩
                    · intro a vs W hX hR he hf K hK
                      rw [if_pos (wanted_none rfl)]
                      have e6 : a.eval (.tmp 6) = str S := hf 6 (by kernel_rfl)
                      refine wp_value (v := str S) ?_ (hK _ _ rfl (grown_refl W _))
                      simp only [execOp, e6]
                      try go_simp
                      try (first | rfl | omega | (simp only [IntKind.wrap_i64, IntKind.wrap_u8, IntKind.wrap_u64, IntKind.wrap_u16, IntKind.wrap_u32]; omega) | (rw [Int.tmod_eq_emod_of_nonneg (by omega)]) | (rw [Int.tmod_eq_emod_of_nonneg (by omega)]; omega))
                    · intro a vs W hX hR he hf K hK
                      rw [if_pos (wanted_none rfl)]
                      have e51 : a.eval (.tmp 51) = str S := (he 2 51 (by kernel_rfl) rfl).trans (hR 2 (by kernel_rfl))
                      have f51 := e51
                      simp only [Act.eval, Array.getD_eq_getD_getElem?] at f51
                      refine wp_value (v := str [b0, b1]) ?_ (hK _ _ rfl (grown_refl W _))
                      simp only [execOp, e51]
                      go_simp
                      rw [if_pos (by omega), str_ex, List.drop_zero, HS2.out]
                    · intro a vs W hX hR he hf K hK
                      rw [if_pos (wanted_none rfl)]
                      have e50 : a.eval (.tmp 50) = str (frontK 1) := (he 1 50 (by kernel_rfl) rfl).trans (hR 1 (by kernel_rfl))
                      have e52 : a.eval (.tmp 52) = str [b0, b1] := (he 3 52 (by kernel_rfl) rfl).trans (hR 3 (by kernel_rfl))
                      exact wp_value (exec_eqSB _ _ _ rfl (frontK 1) [b0, b1] true HQ.out e50 e52) (hK _ _ rfl (grown_refl W _))
                    · intro vs wx hXx hR
                      have q0 := hR 0 (by decide)
                      have q1 := hR 1 (by decide)
                      have q2 := hR 2 (by decide)
                      have q3 := hR 3 (by decide)
                      have q4 := hR 4 (by decide)
                      change vs 0 = .int .i64 1 at q0
                      change vs 1 = str (frontK 1) at q1
                      change vs 2 = str S at q2
                      change vs 3 = str [b0, b1] at q3
                      change vs 4 = .bool true at q4
                      simp only [putAll, Act.put, List.setIfInBounds_toArray, List.set_cons_zero, List.set_cons_succ, q0, q1, q2, q3, q4]
                      clear q0 q1 q2 q3 q4
                      clear hR
                      have hbx := HBE.out.trans ((bthen (below_drew _) (grow_below hXx)).mono HBE.out.size)
                      clear hXx
                      go_wp2_with fail
                      go_roundw
                      case rel => exact ⟨2, by omega, rfl, by rw [HN.out]; rfl, hbx⟩
                      case measure => simp [intOf]
                  · have HQ := Lib.hid (decide_eq_false hq)
                    have HN := Lib.hid (show kj [b0, b1] (1 + 1) = kj [b0, b1] 1 from if_neg hq)
                    obtain ⟨kq, hkq⟩ : ∃ kq, kj [b0, b1] 1 = kq := ⟨_, rfl⟩
                    have HKQ := Lib.hid hkq
                    try rw [hkq]
                    clear hq hkq
                    go_wp2_with fail
                    refine wp_region_rel (fun A B => A.grownBy B none) (fun A => grown_refl A _) (fun A B C h k => grown_trans h k) (relAt (List.cons (fun v _ => v = .int .i64 1) (List.cons (fun v _ => v = str (frontK 1)) (List.cons (fun v _ => v = str S) (List.cons (fun v _ => v = str [b0, b1]) (List.cons (fun v _ => v = .bool false) ([]))))))) (MonoL.at_ (.cons (mono_val _) (.cons (mono_val _) (.cons (mono_val _) (.cons (mono_val _) (.cons (mono_val _) .nil)))))) (by kernel_rfl) (by kernel_rfl) ⟨?_, ?_, ?_, ?_, ?_, trivial⟩ ?_
                    · intro a vs W hX hR he hf K hK
                      rw [if_pos (wanted_none rfl)]
                      have e8 : a.eval (.tmp 8) = .int .i64 1 := hf 8 (by kernel_rfl)
                      refine wp_value (v := .int .i64 1) ?_ (hK _ _ rfl (grown_refl W _))
                      simp only [execOp, e8]
                      try go_simp
                      try (first | rfl | omega | (simp only [IntKind.wrap_i64, IntKind.wrap_u8, IntKind.wrap_u64, IntKind.wrap_u16, IntKind.wrap_u32]; omega) | (rw [Int.tmod_eq_emod_of_nonneg (by omega)]) | (rw [Int.tmod_eq_emod_of_nonneg (by omega)]; omega))
                    · intro a vs W hX hR he hf K hK
                      rw [if_pos (wanted_none rfl)]
                      have e49 : a.eval (.tmp 49) = .int .i64 1 := (he 0 49 (by kernel_rfl) rfl).trans (hR 0 (by kernel_rfl))
                      refine wp_enter (f := 25) (args := #[.int .i64 1]) (by simp only [execOp, e49]; go_simp; simpa [Act.eval] using e49) ((front_any 1 (by omega) (by omega) W).mono ?_)
                      rintro e w' ⟨rfl, hb⟩
                      exact ⟨_, rfl, hK _ _ rfl (below_grow hb _)⟩
                    · intro a vs W hX hR he hf K hK
                      rw [if_pos (wanted_none rfl)]
                      have e6 : a.eval (.tmp 6) = str S := hf 6 (by kernel_rfl)
                      refine wp_value (v := str S) ?_ (hK _ _ rfl (grown_refl W _))
                      simp only [execOp, e6]
                      try go_simp
                      try (first | rfl | omega | (simp only [IntKind.wrap_i64, IntKind.wrap_u8, IntKind.wrap_u64, IntKind.wrap_u16, IntKind.wrap_u32]; omega) | (rw [Int.tmod_eq_emod_of_nonneg (by omega)]) | (rw [Int.tmod_eq_emod_of_nonneg (by omega)]; omega))
                    · intro a vs W hX hR he hf K hK
                      rw [if_pos (wanted_none rfl)]
                      have e51 : a.eval (.tmp 51) = str S := (he 2 51 (by kernel_rfl) rfl).trans (hR 2 (by kernel_rfl))
                      have f51 := e51
                      simp only [Act.eval, Array.getD_eq_getD_getElem?] at f51
                      refine wp_value (v := str [b0, b1]) ?_ (hK _ _ rfl (grown_refl W _))
                      simp only [execOp, e51]
                      go_simp
                      rw [if_pos (by omega), str_ex, List.drop_zero, HS2.out]
                    · intro a vs W hX hR he hf K hK
                      rw [if_pos (wanted_none rfl)]
                      have e50 : a.eval (.tmp 50) = str (frontK 1) := (he 1 50 (by kernel_rfl) rfl).trans (hR 1 (by kernel_rfl))
                      have e52 : a.eval (.tmp 52) = str [b0, b1] := (he 3 52 (by kernel_rfl) rfl).trans (hR 3 (by kernel_rfl))
                      exact wp_value (exec_eqSB _ _ _ rfl (frontK 1) [b0, b1] false HQ.out e50 e52) (hK _ _ rfl (grown_refl W _))
                    · intro vs wx hXx hR
                      have q0 := hR 0 (by decide)
                      have q1 := hR 1 (by decide)
                      have q2 := hR 2 (by decide)
                      have q3 := hR 3 (by decide)
                      have q4 := hR 4 (by decide)
                      change vs 0 = .int .i64 1 at q0
                      change vs 1 = str (frontK 1) at q1
                      change vs 2 = str S at q2
                      change vs 3 = str [b0, b1] at q3
                      change vs 4 = .bool false at q4
                      simp only [putAll, Act.put, List.setIfInBounds_toArray, List.set_cons_zero, List.set_cons_succ, q0, q1, q2, q3, q4]
                      clear q0 q1 q2 q3 q4
                      clear hR
                      have hbx := HBE.out.trans ((bthen (below_drew _) (grow_below hXx)).mono HBE.out.size)
                      clear hXx
                      go_wp2_with fail
                      go_roundw
                      case rel => exact ⟨2, by omega, rfl, by rw [HN.out, HKQ.out], hbx⟩
                      case measure => simp [intOf]
                · by_cases hq : frontK 2 = [b0, b1]
                  · have HQ := Lib.hid (decide_eq_true hq)
                    have HN := Lib.hid (show kj [b0, b1] (2 + 1) = 2 from if_pos hq)
                    obtain ⟨kq, hkq⟩ : ∃ kq, kj [b0, b1] 2 = kq := ⟨_, rfl⟩
                    have HKQ := Lib.hid hkq
                    try rw [hkq]
                    clear hq hkq
                    go_wp2_with fail
                    refine wp_region_rel (fun A B => A.grownBy B none) (fun A => grown_refl A _) (fun A B C h k => grown_trans h k) (relAt (List.cons (fun v _ => v = .int .i64 2) (List.cons (fun v _ => v = str (frontK 2)) (List.cons (fun v _ => v = str S) (List.cons (fun v _ => v = str [b0, b1]) (List.cons (fun v _ => v = .bool true) ([]))))))) (MonoL.at_ (.cons (mono_val _) (.cons (mono_val _) (.cons (mono_val _) (.cons (mono_val _) (.cons (mono_val _) .nil)))))) (by kernel_rfl) (by kernel_rfl) ⟨?_, ?_, ?_, ?_, ?_, trivial⟩ ?_
                    · intro a vs W hX hR he hf K hK
                      rw [if_pos (wanted_none rfl)]
                      have e8 : a.eval (.tmp 8) = .int .i64 2 := hf 8 (by kernel_rfl)
                      refine wp_value (v := .int .i64 2) ?_ (hK _ _ rfl (grown_refl W _))
                      simp only [execOp, e8]
                      try go_simp
                      try (first | rfl | omega | (simp only [IntKind.wrap_i64, IntKind.wrap_u8, IntKind.wrap_u64, IntKind.wrap_u16, IntKind.wrap_u32]; omega) | (rw [Int.tmod_eq_emod_of_nonneg (by omega)]) | (rw [Int.tmod_eq_emod_of_nonneg (by omega)]; omega))
                    · intro a vs W hX hR he hf K hK
                      rw [if_pos (wanted_none rfl)]
                      have e49 : a.eval (.tmp 49) = .int .i64 2 := (he 0 49 (by kernel_rfl) rfl).trans (hR 0 (by kernel_rfl))
                      refine wp_enter (f := 25) (args := #[.int .i64 2]) (by simp only [execOp, e49]; go_simp; simpa [Act.eval] using e49) ((front_any 2 (by omega) (by omega) W).mono ?_)
                      rintro e w' ⟨rfl, hb⟩
                      exact ⟨_, rfl, hK _ _ rfl (below_grow hb _)⟩
                    · intro a vs W hX hR he hf K hK
                      rw [if_pos (wanted_none rfl)]
                      have e6 : a.eval (.tmp 6) = str S := hf 6 (by kernel_rfl)
                      refine wp_value (v := str S) ?_ (hK _ _ rfl (grown_refl W _))
                      simp only [execOp, e6]
                      try go_simp
                      try (first | rfl | omega | (simp only [IntKind.wrap_i64, IntKind.wrap_u8, IntKind.wrap_u64, IntKind.wrap_u16, IntKind.wrap_u32]; omega) | (rw [Int.tmod_eq_emod_of_nonneg (by omega)]) | (rw [Int.tmod_eq_emod_of_nonneg (by omega)]; omega))
                    · intro a vs W hX hR he hf K hK
                      rw [if_pos (wanted_none rfl)]
                      have e51 : a.eval (.tmp 51) = str S := (he 2 51 (by kernel_rfl) rfl).trans (hR 2 (by kernel_rfl))
                      have f51 := e51
                      simp only [Act.eval, Array.getD_eq_getD_getElem?] at f51
                      refine wp_value (v := str [b0, b1]) ?_ (hK _ _ rfl (grown_refl W _))
                      simp only [execOp, e51]
                      go_simp
                      rw [if_pos (by omega), str_ex, List.drop_zero, HS2.out]
                    · intro a vs W hX hR he hf K hK
                      rw [if_pos (wanted_none rfl)]
                      have e50 : a.eval (.tmp 50) = str (frontK 2) := (he 1 50 (by kernel_rfl) rfl).trans (hR 1 (by kernel_rfl))
                      have e52 : a.eval (.tmp 52) = str [b0, b1] := (he 3 52 (by kernel_rfl) rfl).trans (hR 3 (by kernel_rfl))
                      exact wp_value (exec_eqSB _ _ _ rfl (frontK 2) [b0, b1] true HQ.out e50 e52) (hK _ _ rfl (grown_refl W _))
                    · intro vs wx hXx hR
                      have q0 := hR 0 (by decide)
                      have q1 := hR 1 (by decide)
                      have q2 := hR 2 (by decide)
                      have q3 := hR 3 (by decide)
                      have q4 := hR 4 (by decide)
                      change vs 0 = .int .i64 2 at q0
                      change vs 1 = str (frontK 2) at q1
                      change vs 2 = str S at q2
                      change vs 3 = str [b0, b1] at q3
                      change vs 4 = .bool true at q4
                      simp only [putAll, Act.put, List.setIfInBounds_toArray, List.set_cons_zero, List.set_cons_succ, q0, q1, q2, q3, q4]
                      clear q0 q1 q2 q3 q4
                      clear hR
                      have hbx := HBE.out.trans ((bthen (below_drew _) (grow_below hXx)).mono HBE.out.size)
                      clear hXx
                      go_wp2_with fail
                      go_roundw
                      case rel => exact ⟨3, by omega, rfl, by rw [HN.out]; rfl, hbx⟩
                      case measure => simp [intOf]
                  · have HQ := Lib.hid (decide_eq_false hq)
                    have HN := Lib.hid (show kj [b0, b1] (2 + 1) = kj [b0, b1] 2 from if_neg hq)
                    obtain ⟨kq, hkq⟩ : ∃ kq, kj [b0, b1] 2 = kq := ⟨_, rfl⟩
                    have HKQ := Lib.hid hkq
                    try rw [hkq]
                    clear hq hkq
                    go_wp2_with fail
                    refine wp_region_rel (fun A B => A.grownBy B none) (fun A => grown_refl A _) (fun A B C h k => grown_trans h k) (relAt (List.cons (fun v _ => v = .int .i64 2) (List.cons (fun v _ => v = str (frontK 2)) (List.cons (fun v _ => v = str S) (List.cons (fun v _ => v = str [b0, b1]) (List.cons (fun v _ => v = .bool false) ([]))))))) (MonoL.at_ (.cons (mono_val _) (.cons (mono_val _) (.cons (mono_val _) (.cons (mono_val _) (.cons (mono_val _) .nil)))))) (by kernel_rfl) (by kernel_rfl) ⟨?_, ?_, ?_, ?_, ?_, trivial⟩ ?_
                    · intro a vs W hX hR he hf K hK
                      rw [if_pos (wanted_none rfl)]
                      have e8 : a.eval (.tmp 8) = .int .i64 2 := hf 8 (by kernel_rfl)
                      refine wp_value (v := .int .i64 2) ?_ (hK _ _ rfl (grown_refl W _))
                      simp only [execOp, e8]
                      try go_simp
                      try (first | rfl | omega | (simp only [IntKind.wrap_i64, IntKind.wrap_u8, IntKind.wrap_u64, IntKind.wrap_u16, IntKind.wrap_u32]; omega) | (rw [Int.tmod_eq_emod_of_nonneg (by omega)]) | (rw [Int.tmod_eq_emod_of_nonneg (by omega)]; omega))
                    · intro a vs W hX hR he hf K hK
                      rw [if_pos (wanted_none rfl)]
                      have e49 : a.eval (.tmp 49) = .int .i64 2 := (he 0 49 (by kernel_rfl) rfl).trans (hR 0 (by kernel_rfl))
                      refine wp_enter (f := 25) (args := #[.int .i64 2]) (by simp only [execOp, e49]; go_simp; simpa [Act.eval] using e49) ((front_any 2 (by omega) (by omega) W).mono ?_)
                      rintro e w' ⟨rfl, hb⟩
                      exact ⟨_, rfl, hK _ _ rfl (below_grow hb _)⟩
                    · intro a vs W hX hR he hf K hK
                      rw [if_pos (wanted_none rfl)]
                      have e6 : a.eval (.tmp 6) = str S := hf 6 (by kernel_rfl)
                      refine wp_value (v := str S) ?_ (hK _ _ rfl (grown_refl W _))
                      simp only [execOp, e6]
                      try go_simp
                      try (first | rfl | omega | (simp only [IntKind.wrap_i64, IntKind.wrap_u8, IntKind.wrap_u64, IntKind.wrap_u16, IntKind.wrap_u32]; omega) | (rw [Int.tmod_eq_emod_of_nonneg (by omega)]) | (rw [Int.tmod_eq_emod_of_nonneg (by omega)]; omega))
                    · intro a vs W hX hR he hf K hK
                      rw [if_pos (wanted_none rfl)]
                      have e51 : a.eval (.tmp 51) = str S := (he 2 51 (by kernel_rfl) rfl).trans (hR 2 (by kernel_rfl))
                      have f51 := e51
                      simp only [Act.eval, Array.getD_eq_getD_getElem?] at f51
                      refine wp_value (v := str [b0, b1]) ?_ (hK _ _ rfl (grown_refl W _))
                      simp only [execOp, e51]
                      go_simp
                      rw [if_pos (by omega), str_ex, List.drop_zero, HS2.out]
                    · intro a vs W hX hR he hf K hK
                      rw [if_pos (wanted_none rfl)]
                      have e50 : a.eval (.tmp 50) = str (frontK 2) := (he 1 50 (by kernel_rfl) rfl).trans (hR 1 (by kernel_rfl))
                      have e52 : a.eval (.tmp 52) = str [b0, b1] := (he 3 52 (by kernel_rfl) rfl).trans (hR 3 (by kernel_rfl))
                      exact wp_value (exec_eqSB _ _ _ rfl (frontK 2) [b0, b1] false HQ.out e50 e52) (hK _ _ rfl (grown_refl W _))
                    · intro vs wx hXx hR
                      have q0 := hR 0 (by decide)
                      have q1 := hR 1 (by decide)
                      have q2 := hR 2 (by decide)
                      have q3 := hR 3 (by decide)
                      have q4 := hR 4 (by decide)
                      change vs 0 = .int .i64 2 at q0
                      change vs 1 = str (frontK 2) at q1
                      change vs 2 = str S at q2
                      change vs 3 = str [b0, b1] at q3
                      change vs 4 = .bool false at q4
                      simp only [putAll, Act.put, List.setIfInBounds_toArray, List.set_cons_zero, List.set_cons_succ, q0, q1, q2, q3, q4]
                      clear q0 q1 q2 q3 q4
                      clear hR
                      have hbx := HBE.out.trans ((bthen (below_drew _) (grow_below hXx)).mono HBE.out.size)
                      clear hXx
                      go_wp2_with fail
                      go_roundw
                      case rel => exact ⟨3, by omega, rfl, by rw [HN.out, HKQ.out], hbx⟩
                      case measure => simp [intOf]
                · rw [HKI.out]
                  replace HZ := Lib.hid (HZ.out.on HBE.out)
                  replace HW := Lib.hid (bthen HW.out HBE.out)
                  clear HBE
                  have hix4 := HB4.out
                  have hix5 := HB5.out
                  have hu4o := HU4.out
                  have hu5o := HU5.out
                  have hl4 : 4 < S.length := by omega
                  have hl5 : 5 < S.length := by omega
                  have hx8 := HD8.out
                  go_wp2_with fail
                  refine (HGT.out wr).mono ?_
                  rintro e wg ⟨rfl, rfl⟩
                  by_cases hc0 : k < 0
                  · have hbk : badK4 k mtu = true := hBad.2 (.inl hc0)
                    have HR := Lib.hid (HRF.out.trans (if_pos (by rw [hbk]; rfl)))
                    clear hbk hBad
                    go_wp2_with (refine wpList_store_all (by rfl) 34 _ _ rfl g0 Mm.zero.cells rfl rfl 34 _ HZ.out (sizeMm _) rfl (oneMm _) ?_; intro w99 hb9 hg9 hs9)
                    have hB9 : Below w.heap.size w w99 := bgrown HW.out hg9 HW.out.size (by have := HG.out; omega)
                    refine bodyPost_ret (results_cell2 rfl _ _ g0 _ _ _ rfl hb9 Tryd.underlying34 rfl (sizeMm Mm.zero)) rfl ?_
                    exact ⟨Mm.zero, by rw [HR.out]; rfl, Mm.zero_ok _, by rw [HR.out]; rfl, by first | exact hB9 | (have h := hB9; rw [HG.out] at h; exact h)⟩
                  · by_cases hc4 : u4 = 0
                    · have h4b : ((u4 : Int) != 0) = false := by simp; omega
                      by_cases h5 : u5 = 0
                      · have h5b : ((u5 : Int) == 0) = true := by simp; omega
                        have h5c : ((u5 : Int) != 0) = false := by simp; omega
                        by_cases hk1 : k = 1
                        · have k1c : (k != 1) = false := by simp [hk1]
                          have hbk : badK4 k mtu = false := by
                            cases hB : badK4 k mtu
                            · rfl
                            · have := hBad.1 hB; omega
                          clear hk1 hBad
                          have hz := HRF.out
                          rw [hbk, hc4] at hz
                          simp only [Bool.false_or, ne_eq, not_true_eq_false, decide_false, Bool.false_eq_true, if_false] at hz
                          clear hbk hc4
                          rw [if_pos h5] at hz
                          clear h5
                          have hle8' : w.heap.size ≤ wr.heap.size := HW.out.size
                          have hg0b : g0 < wr.heap.size := HZ.out.lt
                          go_upto_region 21 with (first
                            | (refine wpList_alloc_blk (by rfl) 34 rfl Mm.zero.cells zeroMm ?_; intro wa hba hBa hsa)
                            | (refine wpList_store_all (by rfl) 34 _ _ rfl wr.heap.size (Mm.cells ⟨k, (mtu : Int), D, none, 0, 0, []⟩) rfl rfl 34 _ hba (sizeMm _) rfl (oneMm _) ?_; intro wb hbb hgb hsb))
                          have hrb : wr.heap.size ≤ wb.heap.size := by have := hBa.size; omega
                          have hBaw := bthen HW.out hBa
                          have hz8 := HZ.out.on hBa
                          obtain ⟨g8, hg8⟩ : ∃ g, wr.heap.size = g := ⟨_, rfl⟩
                          rw [hg8] at hbb hgb
                          try rw [hg8]
                          have hle8 : w.heap.size ≤ g8 := by omega
                          have hg08 : g0 ≠ g8 := by omega
                          replace HZ := Lib.hid (hz8.grown hgb (fun e => hg08 (by injection e)))
                          replace HW := Lib.hid (bgrown hBaw hgb hBaw.size hle8)
                          have HM := Lib.hid hbb
                          have hm2 : wb.cell? ⟨g8, 2, none⟩ = some (str D) := hbb.cell 2
                          clear hba hBa hsa hbb hgb hsb hBaw hz8 hg8
                          by_cases hL : 136 < S.length
                          · have hL2 : (128 : Int) < (D.length : Int) := by omega
                            have HR := Lib.hid (hz.trans (if_pos hL))
                            clear hz
                            go_upto_region 23 with fail
                            clear hm2
                            go_wp2_with (refine wpList_store_all (by rfl) 34 _ _ rfl g0 Mm.zero.cells rfl rfl 34 _ HZ.out (sizeMm _) rfl (oneMm _) ?_; intro w99 hb9 hg9 hs9)
                            have hB9 : Below w.heap.size w w99 := bgrown HW.out hg9 HW.out.size (by have := HG.out; omega)
                            refine bodyPost_ret (results_cell2 rfl _ _ g0 _ _ _ rfl hb9 Tryd.underlying34 rfl (sizeMm Mm.zero)) rfl ?_
                            exact ⟨Mm.zero, by rw [HR.out]; rfl, Mm.zero_ok _, by rw [HR.out]; rfl, by first | exact hB9 | (have h := hB9; rw [HG.out] at h; exact h)⟩
                          · have hL2 : ¬ (128 : Int) < (D.length : Int) := by omega
                            have HR := Lib.hid (hz.trans (if_neg hL))
                            clear hz
                            go_upto_region 24 with fail
                            clear hm2
                            go_wp2_with (first
                              | (refine wpList_load_blk (by rfl) 34 _ rfl g8 rfl 34 _ _ HM.out Tryd.underlying34 rfl (sizeMm _) ?_)
                              | (refine wpList_store_all (by rfl) 34 _ _ rfl g0 _ rfl rfl 34 _ HZ.out (sizeMm _) rfl (oneMm _) ?_; intro w13 hb13 hg13 hs13))
                            have hB13 : Below w.heap.size w w13 := bgrown HW.out hg13 HW.out.size (by have := HG.out; omega)
                            refine bodyPost_ret (results_cell2 rfl _ _ g0 _ _ _ rfl hb13 Tryd.underlying34 rfl (sizeMm _)) rfl ?_
                            exact ⟨⟨k, (mtu : Int), D, none, 0, 0, []⟩, by rw [HR.out]; rfl, ⟨⟨by dsimp only; omega, by dsimp only; omega⟩, ⟨by dsimp only; omega, by dsimp only; omega⟩, by dsimp only; omega, Row.nil _ _ _ _, Nat.le_refl _, Nat.zero_le _, by simp⟩, by rw [HR.out]; rfl, by first | exact hB13 | (have h := hB13; rw [HG.out] at h; exact h)⟩
                        · have k1c : (k != 1) = true := by simpa using hk1
                          by_cases hm0 : mtu = 0
                          · have hm1 : ¬ (0 : Int) < (mtu : Int) := by omega
                            have hbk : badK4 k mtu = false := by
                              cases hB : badK4 k mtu
                              · rfl
                              · have := hBad.1 hB; omega
                            clear hk1 hBad hm0
                            have hz := HRF.out
                            rw [hbk, hc4] at hz
                            simp only [Bool.false_or, ne_eq, not_true_eq_false, decide_false, Bool.false_eq_true, if_false] at hz
                            clear hbk hc4
                            rw [if_pos h5] at hz
                            clear h5
                            have hle8' : w.heap.size ≤ wr.heap.size := HW.out.size
                            have hg0b : g0 < wr.heap.size := HZ.out.lt
                            go_upto_region 21 with (first
                              | (refine wpList_alloc_blk (by rfl) 34 rfl Mm.zero.cells zeroMm ?_; intro wa hba hBa hsa)
                              | (refine wpList_store_all (by rfl) 34 _ _ rfl wr.heap.size (Mm.cells ⟨k, (mtu : Int), D, none, 0, 0, []⟩) rfl rfl 34 _ hba (sizeMm _) rfl (oneMm _) ?_; intro wb hbb hgb hsb))
                            have hrb : wr.heap.size ≤ wb.heap.size := by have := hBa.size; omega
                            have hBaw := bthen HW.out hBa
                            have hz8 := HZ.out.on hBa
                            obtain ⟨g8, hg8⟩ : ∃ g, wr.heap.size = g := ⟨_, rfl⟩
                            rw [hg8] at hbb hgb
                            try rw [hg8]
                            have hle8 : w.heap.size ≤ g8 := by omega
                            have hg08 : g0 ≠ g8 := by omega
                            replace HZ := Lib.hid (hz8.grown hgb (fun e => hg08 (by injection e)))
                            replace HW := Lib.hid (bgrown hBaw hgb hBaw.size hle8)
                            have HM := Lib.hid hbb
                            have hm2 : wb.cell? ⟨g8, 2, none⟩ = some (str D) := hbb.cell 2
                            clear hba hBa hsa hbb hgb hsb hBaw hz8 hg8
                            by_cases hL : 136 < S.length
                            · have hL2 : (128 : Int) < (D.length : Int) := by omega
                              have HR := Lib.hid (hz.trans (if_pos hL))
                              clear hz
                              go_upto_region 23 with fail
                              clear hm2
                              go_wp2_with (refine wpList_store_all (by rfl) 34 _ _ rfl g0 Mm.zero.cells rfl rfl 34 _ HZ.out (sizeMm _) rfl (oneMm _) ?_; intro w99 hb9 hg9 hs9)
                              have hB9 : Below w.heap.size w w99 := bgrown HW.out hg9 HW.out.size (by have := HG.out; omega)
                              refine bodyPost_ret (results_cell2 rfl _ _ g0 _ _ _ rfl hb9 Tryd.underlying34 rfl (sizeMm Mm.zero)) rfl ?_
                              exact ⟨Mm.zero, by rw [HR.out]; rfl, Mm.zero_ok _, by rw [HR.out]; rfl, by first | exact hB9 | (have h := hB9; rw [HG.out] at h; exact h)⟩
                            · have hL2 : ¬ (128 : Int) < (D.length : Int) := by omega
                              have HR := Lib.hid (hz.trans (if_neg hL))
                              clear hz
                              go_upto_region 24 with fail
                              clear hm2
                              go_wp2_with (first
                                | (refine wpList_load_blk (by rfl) 34 _ rfl g8 rfl 34 _ _ HM.out Tryd.underlying34 rfl (sizeMm _) ?_)
                                | (refine wpList_store_all (by rfl) 34 _ _ rfl g0 _ rfl rfl 34 _ HZ.out (sizeMm _) rfl (oneMm _) ?_; intro w13 hb13 hg13 hs13))
                              have hB13 : Below w.heap.size w w13 := bgrown HW.out hg13 HW.out.size (by have := HG.out; omega)
                              refine bodyPost_ret (results_cell2 rfl _ _ g0 _ _ _ rfl hb13 Tryd.underlying34 rfl (sizeMm _)) rfl ?_
                              exact ⟨⟨k, (mtu : Int), D, none, 0, 0, []⟩, by rw [HR.out]; rfl, ⟨⟨by dsimp only; omega, by dsimp only; omega⟩, ⟨by dsimp only; omega, by dsimp only; omega⟩, by dsimp only; omega, Row.nil _ _ _ _, Nat.le_refl _, Nat.zero_le _, by simp⟩, by rw [HR.out]; rfl, by first | exact hB13 | (have h := hB13; rw [HG.out] at h; exact h)⟩
                          · have hm1 : (0 : Int) < (mtu : Int) := by omega
                            have hbk : badK4 k mtu = true := hBad.2 (.inr ⟨hk1, hm0⟩)
                            have HR := Lib.hid (HRF.out.trans (if_pos (by rw [hbk]; rfl)))
                            clear hk1 hm0 hbk hBad
                            go_wp2_with (refine wpList_store_all (by rfl) 34 _ _ rfl g0 Mm.zero.cells rfl rfl 34 _ HZ.out (sizeMm _) rfl (oneMm _) ?_; intro w99 hb9 hg9 hs9)
                            have hB9 : Below w.heap.size w w99 := bgrown HW.out hg9 HW.out.size (by have := HG.out; omega)
                            refine bodyPost_ret (results_cell2 rfl _ _ g0 _ _ _ rfl hb9 Tryd.underlying34 rfl (sizeMm Mm.zero)) rfl ?_
                            exact ⟨Mm.zero, by rw [HR.out]; rfl, Mm.zero_ok _, by rw [HR.out]; rfl, by first | exact hB9 | (have h := hB9; rw [HG.out] at h; exact h)⟩
                      · have h5b : ((u5 : Int) == 0) = false := by simp; omega
                        have h5c : ((u5 : Int) != 0) = true := by simp; omega
                        by_cases h32 : u5 = 32
                        · have h32b : ((u5 : Int) != 32) = false := by simp; omega
                          by_cases hk1 : k = 1
                          · have k1c : (k != 1) = false := by simp [hk1]
                            have hbk : badK4 k mtu = false := by
                              cases hB : badK4 k mtu
                              · rfl
                              · have := hBad.1 hB; omega
                            clear hk1 hBad
                            have hz := HRF.out
                            rw [hbk, hc4] at hz
                            simp only [Bool.false_or, ne_eq, not_true_eq_false, decide_false, Bool.false_eq_true, if_false] at hz
                            clear hbk hc4
                            rw [if_neg h5, if_pos h32] at hz
                            clear h5 h32
                            have hle8' : w.heap.size ≤ wr.heap.size := HW.out.size
                            have hg0b : g0 < wr.heap.size := HZ.out.lt
                            go_upto_region 21 with (first
                              | (refine wpList_alloc_blk (by rfl) 34 rfl Mm.zero.cells zeroMm ?_; intro wa hba hBa hsa)
                              | (refine wpList_store_all (by rfl) 34 _ _ rfl wr.heap.size (Mm.cells ⟨k, (mtu : Int), D, none, 0, 0, []⟩) rfl rfl 34 _ hba (sizeMm _) rfl (oneMm _) ?_; intro wb hbb hgb hsb))
                            have hrb : wr.heap.size ≤ wb.heap.size := by have := hBa.size; omega
                            have hBaw := bthen HW.out hBa
                            have hz8 := HZ.out.on hBa
                            obtain ⟨g8, hg8⟩ : ∃ g, wr.heap.size = g := ⟨_, rfl⟩
                            rw [hg8] at hbb hgb
                            try rw [hg8]
                            have hle8 : w.heap.size ≤ g8 := by omega
                            have hg08 : g0 ≠ g8 := by omega
                            replace HZ := Lib.hid (hz8.grown hgb (fun e => hg08 (by injection e)))
                            replace HW := Lib.hid (bgrown hBaw hgb hBaw.size hle8)
                            have HM := Lib.hid hbb
                            have hm2 : wb.cell? ⟨g8, 2, none⟩ = some (str D) := hbb.cell 2
                            clear hba hBa hsa hbb hgb hsb hBaw hz8 hg8
                            by_cases hL : S.length < 136
                            · have hL2 : (D.length : Int) < 128 := by omega
                              have HR := Lib.hid (hz.trans (if_pos hL))
                              clear hz
                              go_upto_region 26 with fail
                              clear hm2
                              go_wp2_with (refine wpList_store_all (by rfl) 34 _ _ rfl g0 Mm.zero.cells rfl rfl 34 _ HZ.out (sizeMm _) rfl (oneMm _) ?_; intro w99 hb9 hg9 hs9)
                              have hB9 : Below w.heap.size w w99 := bgrown HW.out hg9 HW.out.size (by have := HG.out; omega)
                              refine bodyPost_ret (results_cell2 rfl _ _ g0 _ _ _ rfl hb9 Tryd.underlying34 rfl (sizeMm Mm.zero)) rfl ?_
                              exact ⟨Mm.zero, by rw [HR.out]; rfl, Mm.zero_ok _, by rw [HR.out]; rfl, by first | exact hB9 | (have h := hB9; rw [HG.out] at h; exact h)⟩
                            · have hL2 : ¬ (D.length : Int) < 128 := by omega
                              have hL3 : (128 : Int) ≤ (D.length : Int) := by omega
                              have hz1 := hz.trans (if_neg hL)
                              have TL := fun W => rtold22_any (D.drop 128) W (by rw [List.length_drop]; omega)
                              have hfit := told_fit (D.drop 128)
                              obtain ⟨T, hTT⟩ : ∃ T, (toldG (D.drop 128)).1 = T := ⟨_, rfl⟩
                              obtain ⟨p, hp⟩ : ∃ p, (toldG (D.drop 128)).2 = p := ⟨_, rfl⟩
                              rw [hTT, hp] at hz1
                              simp only [hTT, hp] at TL
                              rw [hTT] at hfit
                              have HTL := Lib.hid TL
                              have HFIT := Lib.hid hfit
                              have HSD := Lib.hid (str_drop D 128)
                              have HST := Lib.hid (str_ex D 0 128)
                              clear TL hTT hp hfit hz
                              go_wp2_with fail
                              rw [HSD.out]
                              refine (HTL.out wb).mono ?_
                              rintro e w12 ⟨A12, c12, rfl, hown, hb⟩
                              have hg8b : g8 < wb.heap.size := HM.out.lt
                              replace HZ := Lib.hid (HZ.out.on hb)
                              replace HW := Lib.hid (bthen HW.out hb)
                              have hk12 := HM.out.on hb
                              have hm2' : w12.cell? ⟨g8, 2, none⟩ = some (str D) := hk12.cell 2
                              have hfr : wb.heap.size ≤ w12.heap.size := hb.size
                              clear hm2 hb
                              by_cases hp0 : p = 0
                              · subst hp0
                                have HR := Lib.hid (hz1.trans (if_neg (fun h => h rfl)))
                                clear hz1
                                go_wp2_with (first
                                  | (refine wpList_store_st (by rfl) _ _ rfl g8 2 (D.take 128) rfl (by rw [HST.out]; rfl) 34 _ _ hk12 rfl ?_; intro w14 hk14 hg14 hs14; replace hk14 : Blk w14 g8 34 (Mm.cells ⟨k, (mtu : Int), D.take 128, none, 0, 0, []⟩) := hk14; clear hm2')
                                  | (refine wpList_store_en (by rfl) _ _ rfl g8 3 A12 T.length c12 rfl rfl 34 _ _ hk14 rfl ?_; intro w13 hk13 hg13 hs13; replace hk13 : Blk w13 g8 34 (Mm.cells ⟨k, (mtu : Int), D.take 128, A12, T.length, c12, T⟩) := hk13)
                                  | (refine wpList_load_blk (by rfl) 34 _ rfl g8 rfl 34 _ _ hk13 Tryd.underlying34 rfl (sizeMm _) ?_)
                                  | (refine wpList_store_all (by rfl) 34 _ _ rfl g0 _ rfl rfl 34 _ ((HZ.out.grown hg14 (fun e => hg08 (by injection e))).grown hg13 (fun e => hg08 (by injection e))) (sizeMm _) rfl (oneMm _) ?_; intro w15 hk15 hg15 hs15))
                                have hs12 := HW.out.size
                                have hB15 : Below w.heap.size w w15 := bgrown (bgrown (bgrown HW.out hg14 hs12 hle8) hg13 (by omega) hle8) hg15 (by omega) (by have := HG.out; omega)
                                have hfar : ∀ g, blk A12 c12 = some g → wb.heap.size ≤ g := own_far4 hown
                                have hown9 := ((hown.kept hg14 (fun g hg e => by injection e with e; have := hfar g hg; omega)).kept hg13 (fun g hg e => by injection e with e; have := hfar g hg; omega)).kept hg15 (fun g hg e => by injection e with e; have := hfar g hg; omega)
                                refine bodyPost_ret (results_cell2 rfl _ _ g0 _ _ _ rfl hk15 Tryd.underlying34 rfl (sizeMm _)) rfl ?_
                                exact ⟨⟨k, (mtu : Int), D.take 128, A12, T.length, c12, T⟩, by rw [HR.out]; rfl, ⟨⟨by dsimp only; omega, by dsimp only; omega⟩, ⟨by dsimp only; omega, by dsimp only; omega⟩, by dsimp only; rw [List.length_take]; omega, hown9.row, hown9.le, hown9.cap, HFIT.out⟩, by rw [HR.out]; rfl, by first | exact hB15 | (have h := hB15; rw [HG.out] at h; exact h)⟩
                              · have hpn : (p != 0) = true := by simpa using hp0
                                have HR := Lib.hid (hz1.trans (if_pos hp0))
                                clear hz1 hm2' hk12
                                go_wp2_with (refine wpList_store_all (by rfl) 34 _ _ rfl g0 Mm.zero.cells rfl rfl 34 _ HZ.out (sizeMm _) rfl (oneMm _) ?_; intro w99 hb9 hg9 hs9)
                                have hB9 : Below w.heap.size w w99 := bgrown HW.out hg9 HW.out.size (by have := HG.out; omega)
                                refine bodyPost_ret (results_cell2 rfl _ _ g0 _ _ _ rfl hb9 Tryd.underlying34 rfl (sizeMm Mm.zero)) rfl ?_
                                exact ⟨Mm.zero, by rw [HR.out]; rfl, Mm.zero_ok _, by rw [HR.out]; rfl, by first | exact hB9 | (have h := hB9; rw [HG.out] at h; exact h)⟩
                          · have k1c : (k != 1) = true := by simpa using hk1
                            by_cases hm0 : mtu = 0
                            · have hm1 : ¬ (0 : Int) < (mtu : Int) := by omega
                              have hbk : badK4 k mtu = false := by
                                cases hB : badK4 k mtu
                                · rfl
                                · have := hBad.1 hB; omega
                              clear hk1 hBad hm0
                              have hz := HRF.out
                              rw [hbk, hc4] at hz
                              simp only [Bool.false_or, ne_eq, not_true_eq_false, decide_false, Bool.false_eq_true, if_false] at hz
                              clear hbk hc4
                              rw [if_neg h5, if_pos h32] at hz
                              clear h5 h32
                              have hle8' : w.heap.size ≤ wr.heap.size := HW.out.size
                              have hg0b : g0 < wr.heap.size := HZ.out.lt
                              go_upto_region 21 with (first
                                | (refine wpList_alloc_blk (by rfl) 34 rfl Mm.zero.cells zeroMm ?_; intro wa hba hBa hsa)
                                | (refine wpList_store_all (by rfl) 34 _ _ rfl wr.heap.size (Mm.cells ⟨k, (mtu : Int), D, none, 0, 0, []⟩) rfl rfl 34 _ hba (sizeMm _) rfl (oneMm _) ?_; intro wb hbb hgb hsb))
                              have hrb : wr.heap.size ≤ wb.heap.size := by have := hBa.size; omega
                              have hBaw := bthen HW.out hBa
                              have hz8 := HZ.out.on hBa
                              obtain ⟨g8, hg8⟩ : ∃ g, wr.heap.size = g := ⟨_, rfl⟩
                              rw [hg8] at hbb hgb
                              try rw [hg8]
                              have hle8 : w.heap.size ≤ g8 := by omega
                              have hg08 : g0 ≠ g8 := by omega
                              replace HZ := Lib.hid (hz8.grown hgb (fun e => hg08 (by injection e)))
                              replace HW := Lib.hid (bgrown hBaw hgb hBaw.size hle8)
                              have HM := Lib.hid hbb
                              have hm2 : wb.cell? ⟨g8, 2, none⟩ = some (str D) := hbb.cell 2
                              clear hba hBa hsa hbb hgb hsb hBaw hz8 hg8
                              by_cases hL : S.length < 136
                              · have hL2 : (D.length : Int) < 128 := by omega
                                have HR := Lib.hid (hz.trans (if_pos hL))
                                clear hz
                                go_upto_region 26 with fail
                                clear hm2
                                go_wp2_with (refine wpList_store_all (by rfl) 34 _ _ rfl g0 Mm.zero.cells rfl rfl 34 _ HZ.out (sizeMm _) rfl (oneMm _) ?_; intro w99 hb9 hg9 hs9)
                                have hB9 : Below w.heap.size w w99 := bgrown HW.out hg9 HW.out.size (by have := HG.out; omega)
                                refine bodyPost_ret (results_cell2 rfl _ _ g0 _ _ _ rfl hb9 Tryd.underlying34 rfl (sizeMm Mm.zero)) rfl ?_
                                exact ⟨Mm.zero, by rw [HR.out]; rfl, Mm.zero_ok _, by rw [HR.out]; rfl, by first | exact hB9 | (have h := hB9; rw [HG.out] at h; exact h)⟩
                              · have hL2 : ¬ (D.length : Int) < 128 := by omega
                                have hL3 : (128 : Int) ≤ (D.length : Int) := by omega
                                have hz1 := hz.trans (if_neg hL)
                                have TL := fun W => rtold22_any (D.drop 128) W (by rw [List.length_drop]; omega)
                                have hfit := told_fit (D.drop 128)
                                obtain ⟨T, hTT⟩ : ∃ T, (toldG (D.drop 128)).1 = T := ⟨_, rfl⟩
                                obtain ⟨p, hp⟩ : ∃ p, (toldG (D.drop 128)).2 = p := ⟨_, rfl⟩
                                rw [hTT, hp] at hz1
                                simp only [hTT, hp] at TL
                                rw [hTT] at hfit
                                have HTL := Lib.hid TL
                                have HFIT := Lib.hid hfit
                                have HSD := Lib.hid (str_drop D 128)
                                have HST := Lib.hid (str_ex D 0 128)
                                clear TL hTT hp hfit hz
                                go_wp2_with fail
                                rw [HSD.out]
                                refine (HTL.out wb).mono ?_
                                rintro e w12 ⟨A12, c12, rfl, hown, hb⟩
                                have hg8b : g8 < wb.heap.size := HM.out.lt
                                replace HZ := Lib.hid (HZ.out.on hb)
                                replace HW := Lib.hid (bthen HW.out hb)
                                have hk12 := HM.out.on hb
                                have hm2' : w12.cell? ⟨g8, 2, none⟩ = some (str D) := hk12.cell 2
                                have hfr : wb.heap.size ≤ w12.heap.size := hb.size
                                clear hm2 hb
                                by_cases hp0 : p = 0
                                · subst hp0
                                  have HR := Lib.hid (hz1.trans (if_neg (fun h => h rfl)))
                                  clear hz1
                                  go_wp2_with (first
                                    | (refine wpList_store_st (by rfl) _ _ rfl g8 2 (D.take 128) rfl (by rw [HST.out]; rfl) 34 _ _ hk12 rfl ?_; intro w14 hk14 hg14 hs14; replace hk14 : Blk w14 g8 34 (Mm.cells ⟨k, (mtu : Int), D.take 128, none, 0, 0, []⟩) := hk14; clear hm2')
                                    | (refine wpList_store_en (by rfl) _ _ rfl g8 3 A12 T.length c12 rfl rfl 34 _ _ hk14 rfl ?_; intro w13 hk13 hg13 hs13; replace hk13 : Blk w13 g8 34 (Mm.cells ⟨k, (mtu : Int), D.take 128, A12, T.length, c12, T⟩) := hk13)
                                    | (refine wpList_load_blk (by rfl) 34 _ rfl g8 rfl 34 _ _ hk13 Tryd.underlying34 rfl (sizeMm _) ?_)
                                    | (refine wpList_store_all (by rfl) 34 _ _ rfl g0 _ rfl rfl 34 _ ((HZ.out.grown hg14 (fun e => hg08 (by injection e))).grown hg13 (fun e => hg08 (by injection e))) (sizeMm _) rfl (oneMm _) ?_; intro w15 hk15 hg15 hs15))
                                  have hs12 := HW.out.size
                                  have hB15 : Below w.heap.size w w15 := bgrown (bgrown (bgrown HW.out hg14 hs12 hle8) hg13 (by omega) hle8) hg15 (by omega) (by have := HG.out; omega)
                                  have hfar : ∀ g, blk A12 c12 = some g → wb.heap.size ≤ g := own_far4 hown
                                  have hown9 := ((hown.kept hg14 (fun g hg e => by injection e with e; have := hfar g hg; omega)).kept hg13 (fun g hg e => by injection e with e; have := hfar g hg; omega)).kept hg15 (fun g hg e => by injection e with e; have := hfar g hg; omega)
                                  refine bodyPost_ret (results_cell2 rfl _ _ g0 _ _ _ rfl hk15 Tryd.underlying34 rfl (sizeMm _)) rfl ?_
                                  exact ⟨⟨k, (mtu : Int), D.take 128, A12, T.length, c12, T⟩, by rw [HR.out]; rfl, ⟨⟨by dsimp only; omega, by dsimp only; omega⟩, ⟨by dsimp only; omega, by dsimp only; omega⟩, by dsimp only; rw [List.length_take]; omega, hown9.row, hown9.le, hown9.cap, HFIT.out⟩, by rw [HR.out]; rfl, by first | exact hB15 | (have h := hB15; rw [HG.out] at h; exact h)⟩
                                · have hpn : (p != 0) = true := by simpa using hp0
                                  have HR := Lib.hid (hz1.trans (if_pos hp0))
                                  clear hz1 hm2' hk12
                                  go_wp2_with (refine wpList_store_all (by rfl) 34 _ _ rfl g0 Mm.zero.cells rfl rfl 34 _ HZ.out (sizeMm _) rfl (oneMm _) ?_; intro w99 hb9 hg9 hs9)
                                  have hB9 : Below w.heap.size w w99 := bgrown HW.out hg9 HW.out.size (by have := HG.out; omega)
                                  refine bodyPost_ret (results_cell2 rfl _ _ g0 _ _ _ rfl hb9 Tryd.underlying34 rfl (sizeMm Mm.zero)) rfl ?_
                                  exact ⟨Mm.zero, by rw [HR.out]; rfl, Mm.zero_ok _, by rw [HR.out]; rfl, by first | exact hB9 | (have h := hB9; rw [HG.out] at h; exact h)⟩
                            · have hm1 : (0 : Int) < (mtu : Int) := by omega
                              have hbk : badK4 k mtu = true := hBad.2 (.inr ⟨hk1, hm0⟩)
                              have HR := Lib.hid (HRF.out.trans (if_pos (by rw [hbk]; rfl)))
                              clear hk1 hm0 hbk hBad
                              go_wp2_with (refine wpList_store_all (by rfl) 34 _ _ rfl g0 Mm.zero.cells rfl rfl 34 _ HZ.out (sizeMm _) rfl (oneMm _) ?_; intro w99 hb9 hg9 hs9)
                              have hB9 : Below w.heap.size w w99 := bgrown HW.out hg9 HW.out.size (by have := HG.out; omega)
                              refine bodyPost_ret (results_cell2 rfl _ _ g0 _ _ _ rfl hb9 Tryd.underlying34 rfl (sizeMm Mm.zero)) rfl ?_
                              exact ⟨Mm.zero, by rw [HR.out]; rfl, Mm.zero_ok _, by rw [HR.out]; rfl, by first | exact hB9 | (have h := hB9; rw [HG.out] at h; exact h)⟩
                        · have h32b : ((u5 : Int) != 32) = true := by simp; omega
                          have HR := Lib.hid (show R = (noGot, 15) by
                            have hz := HRF.out
                            by_cases hB : (badK4 k mtu || decide (u4 ≠ 0)) = true
                            · rw [if_pos hB] at hz; exact hz
                            · rw [if_neg hB, if_neg h5, if_neg h32] at hz; exact hz)
                          clear h32 h5 hBad hc4
                          go_wp2_with (refine wpList_store_all (by rfl) 34 _ _ rfl g0 Mm.zero.cells rfl rfl 34 _ HZ.out (sizeMm _) rfl (oneMm _) ?_; intro w99 hb9 hg9 hs9)
                          have hB9 : Below w.heap.size w w99 := bgrown HW.out hg9 HW.out.size (by have := HG.out; omega)
                          refine bodyPost_ret (results_cell2 rfl _ _ g0 _ _ _ rfl hb9 Tryd.underlying34 rfl (sizeMm Mm.zero)) rfl ?_
                          exact ⟨Mm.zero, by rw [HR.out]; rfl, Mm.zero_ok _, by rw [HR.out]; rfl, by first | exact hB9 | (have h := hB9; rw [HG.out] at h; exact h)⟩
                    · have h4b : ((u4 : Int) != 0) = true := by simp; omega
                      have HR := Lib.hid (HRF.out.trans (if_pos (by rw [decide_eq_true hc4, Bool.or_true])))
                      clear hc4 hBad
                      go_wp2_with (refine wpList_store_all (by rfl) 34 _ _ rfl g0 Mm.zero.cells rfl rfl 34 _ HZ.out (sizeMm _) rfl (oneMm _) ?_; intro w99 hb9 hg9 hs9)
                      have hB9 : Below w.heap.size w w99 := bgrown HW.out hg9 HW.out.size (by have := HG.out; omega)
                      refine bodyPost_ret (results_cell2 rfl _ _ g0 _ _ _ rfl hb9 Tryd.underlying34 rfl (sizeMm Mm.zero)) rfl ?_
                      exact ⟨Mm.zero, by rw [HR.out]; rfl, Mm.zero_ok _, by rw [HR.out]; rfl, by first | exact hB9 | (have h := hB9; rw [HG.out] at h; exact h)⟩
            · rw [if_pos hsum] at hRF
              have hsum1 : ((rv : Int) != 65535) = true := by simp; omega
              have HR := Lib.hid hRF
              clear hsum hRF
              go_enter Tryd.func12, Tryd.ntmps12
              go_upto_region 1 with (refine wpList_alloc_blk (by rfl) 34 rfl Mm.zero.cells zeroMm ?_; intro w1 hb1 hB1 hs1)
              rw [hg0] at hb1
              try rw [hg0]
              have HZ := Lib.hid hb1
              have HW := Lib.hid hB1
              clear hb1 hB1 hs1
              go_wp2_with fail
              refine (HP.out w1).mono ?_
              rintro e w4 ⟨rfl, hb4⟩
              replace HZ := Lib.hid (HZ.out.on hb4)
              replace HW := Lib.hid (bthen HW.out hb4)
              clear hb4
              go_upto_region 2 with (first
                | (refine wpList_alloc_blk (by rfl) 56 rfl H4.zero.cells zero4 ?_; intro w5 hb5 hB5 hs5)
                | (refine wpList_store_all (by rfl) 56 _ _ rfl w4.heap.size h4.cells rfl rfl 56 _ hb5 (size4 _ HOK.out) (H4.cells_same _ _ HOK.out H0) (H4.one _) ?_; intro w6 hb6 hg6 hs6))
              obtain ⟨g2, hg2⟩ : ∃ g, w4.heap.size = g := ⟨_, rfl⟩
              have hne02 : g0 ≠ g2 := by have := HZ.out.lt; omega
              have hle2 : w.heap.size ≤ g2 := by rw [← hg2]; exact HW.out.size
              rw [hg2] at hb6 hg6
              try rw [hg2]
              have hB5w := bthen HW.out hB5
              replace HZ := Lib.hid ((HZ.out.on hB5).grown hg6 (fun e => hne02 (by injection e)))
              replace HW := Lib.hid (bgrown hB5w hg6 hB5w.size hle2)
              have hd7 : w6.cell? ⟨g2, 7, none⟩ = some (.int .u8 h4.pro) := hb6.cell 7
              have hd4 : w6.cell? ⟨g2, 4, none⟩ = some (.bool h4.more) := hb6.cell 4
              have hd5 : w6.cell? ⟨g2, 5, none⟩ = some (.int .i64 h4.off) := hb6.cell 5
              clear hb5 hB5 hs5 hb6 hg6 hs6 hB5w hg2
              go_wp2_with fail
              refine (BD.out w6).mono ?_
              rintro e w7 ⟨rfl, hb⟩
              replace HZ := Lib.hid (HZ.out.on hb)
              replace HW := Lib.hid (bthen HW.out hb)
              clear hd7 hd4 hd5 hb
              go_wp2_with fail
              refine (HRW.out w7).mono ?_
              rintro e w8 ⟨rfl, rfl⟩
              go_wp2_with (refine wpList_store_all (by rfl) 34 _ _ rfl g0 Mm.zero.cells rfl rfl 34 _ HZ.out (sizeMm _) rfl (oneMm _) ?_; intro w99 hb9 hg9 hs9)
              have hB9 : Below w.heap.size w w99 := bgrown HW.out hg9 HW.out.size (by have := HG.out; omega)
              refine bodyPost_ret (results_cell2 rfl _ _ g0 _ _ _ rfl hb9 Tryd.underlying34 rfl (sizeMm Mm.zero)) rfl ?_
              exact ⟨Mm.zero, by rw [HR.out]; rfl, Mm.zero_ok _, by rw [HR.out]; rfl, by first | exact hB9 | (have h := hB9; rw [HG.out] at h; exact h)⟩
      · rw [if_pos (.inr (.inl hmo))] at hRF
        have HR := Lib.hid hRF
        clear hRF hp1
        go_enter Tryd.func12, Tryd.ntmps12
        go_upto_region 1 with (refine wpList_alloc_blk (by rfl) 34 rfl Mm.zero.cells zeroMm ?_; intro w1 hb1 hB1 hs1)
        rw [hg0] at hb1
        try rw [hg0]
        have HZ := Lib.hid hb1
        have HW := Lib.hid hB1
        clear hb1 hB1 hs1
        go_wp2_with fail
        refine (HP.out w1).mono ?_
        rintro e w4 ⟨rfl, hb4⟩
        replace HZ := Lib.hid (HZ.out.on hb4)
        replace HW := Lib.hid (bthen HW.out hb4)
        clear hb4
        go_upto_region 2 with (first
          | (refine wpList_alloc_blk (by rfl) 56 rfl H4.zero.cells zero4 ?_; intro w5 hb5 hB5 hs5)
          | (refine wpList_store_all (by rfl) 56 _ _ rfl w4.heap.size h4.cells rfl rfl 56 _ hb5 (size4 _ HOK.out) (H4.cells_same _ _ HOK.out H0) (H4.one _) ?_; intro w6 hb6 hg6 hs6))
        obtain ⟨g2, hg2⟩ : ∃ g, w4.heap.size = g := ⟨_, rfl⟩
        have hne02 : g0 ≠ g2 := by have := HZ.out.lt; omega
        have hle2 : w.heap.size ≤ g2 := by rw [← hg2]; exact HW.out.size
        rw [hg2] at hb6 hg6
        try rw [hg2]
        have hB5w := bthen HW.out hB5
        replace HZ := Lib.hid ((HZ.out.on hB5).grown hg6 (fun e => hne02 (by injection e)))
        replace HW := Lib.hid (bgrown hB5w hg6 hB5w.size hle2)
        have hd7 : w6.cell? ⟨g2, 7, none⟩ = some (.int .u8 h4.pro) := hb6.cell 7
        have hd4 : w6.cell? ⟨g2, 4, none⟩ = some (.bool h4.more) := hb6.cell 4
        have hd5 : w6.cell? ⟨g2, 5, none⟩ = some (.int .i64 h4.off) := hb6.cell 5
        clear hb5 hB5 hs5 hb6 hg6 hs6 hB5w hg2
        go_wp2_with (refine wpList_store_all (by rfl) 34 _ _ rfl g0 Mm.zero.cells rfl rfl 34 _ HZ.out (sizeMm _) rfl (oneMm _) ?_; intro w99 hb9 hg9 hs9)
        have hB9 : Below w.heap.size w w99 := bgrown HW.out hg9 HW.out.size (by have := HG.out; omega)
        refine bodyPost_ret (results_cell2 rfl _ _ g0 _ _ _ rfl hb9 Tryd.underlying34 rfl (sizeMm Mm.zero)) rfl ?_
        exact ⟨Mm.zero, by rw [HR.out]; rfl, Mm.zero_ok _, by rw [HR.out]; rfl, by first | exact hB9 | (have h := hB9; rw [HG.out] at h; exact h)⟩
    · have hp1b : (h4.pro != 1) = true := by simpa using hp1
      rw [if_pos (.inl hp1)] at hRF
      have HR := Lib.hid hRF
      clear hRF hp1
      go_enter Tryd.func12, Tryd.ntmps12
      go_upto_region 1 with (refine wpList_alloc_blk (by rfl) 34 rfl Mm.zero.cells zeroMm ?_; intro w1 hb1 hB1 hs1)
      rw [hg0] at hb1
      try rw [hg0]
      have HZ := Lib.hid hb1
      have HW := Lib.hid hB1
      clear hb1 hB1 hs1
      go_wp2_with fail
      refine (HP.out w1).mono ?_
      rintro e w4 ⟨rfl, hb4⟩
      replace HZ := Lib.hid (HZ.out.on hb4)
      replace HW := Lib.hid (bthen HW.out hb4)
      clear hb4
      go_upto_region 2 with (first
        | (refine wpList_alloc_blk (by rfl) 56 rfl H4.zero.cells zero4 ?_; intro w5 hb5 hB5 hs5)
        | (refine wpList_store_all (by rfl) 56 _ _ rfl w4.heap.size h4.cells rfl rfl 56 _ hb5 (size4 _ HOK.out) (H4.cells_same _ _ HOK.out H0) (H4.one _) ?_; intro w6 hb6 hg6 hs6))
      obtain ⟨g2, hg2⟩ : ∃ g, w4.heap.size = g := ⟨_, rfl⟩
      have hne02 : g0 ≠ g2 := by have := HZ.out.lt; omega
      have hle2 : w.heap.size ≤ g2 := by rw [← hg2]; exact HW.out.size
      rw [hg2] at hb6 hg6
      try rw [hg2]
      have hB5w := bthen HW.out hB5
      replace HZ := Lib.hid ((HZ.out.on hB5).grown hg6 (fun e => hne02 (by injection e)))
      replace HW := Lib.hid (bgrown hB5w hg6 hB5w.size hle2)
      have hd7 : w6.cell? ⟨g2, 7, none⟩ = some (.int .u8 h4.pro) := hb6.cell 7
      have hd4 : w6.cell? ⟨g2, 4, none⟩ = some (.bool h4.more) := hb6.cell 4
      have hd5 : w6.cell? ⟨g2, 5, none⟩ = some (.int .i64 h4.off) := hb6.cell 5
      clear hb5 hB5 hs5 hb6 hg6 hs6 hB5w hg2
      go_wp2_with (refine wpList_store_all (by rfl) 34 _ _ rfl g0 Mm.zero.cells rfl rfl 34 _ HZ.out (sizeMm _) rfl (oneMm _) ?_; intro w99 hb9 hg9 hs9)
      have hB9 : Below w.heap.size w w99 := bgrown HW.out hg9 HW.out.size (by have := HG.out; omega)
      refine bodyPost_ret (results_cell2 rfl _ _ g0 _ _ _ rfl hb9 Tryd.underlying34 rfl (sizeMm Mm.zero)) rfl ?_
      exact ⟨Mm.zero, by rw [HR.out]; rfl, Mm.zero_ok _, by rw [HR.out]; rfl, by first | exact hB9 | (have h := hB9; rw [HG.out] at h; exact h)⟩
  · have hne : (er != 0) = true := by simpa using he
    rw [if_pos he] at hRF
    have HR := Lib.hid hRF
    clear hRF he
    go_enter Tryd.func12, Tryd.ntmps12
    go_upto_region 1 with (refine wpList_alloc_blk (by rfl) 34 rfl Mm.zero.cells zeroMm ?_; intro w1 hb1 hB1 hs1)
    rw [hg0] at hb1
    try rw [hg0]
    have HZ := Lib.hid hb1
    have HW := Lib.hid hB1
    clear hb1 hB1 hs1
    go_wp2_with fail
    refine (HP.out w1).mono ?_
    rintro e w4 ⟨rfl, hb4⟩
    replace HZ := Lib.hid (HZ.out.on hb4)
    replace HW := Lib.hid (bthen HW.out hb4)
    clear hb4
    go_upto_region 2 with (first
      | (refine wpList_alloc_blk (by rfl) 56 rfl H4.zero.cells zero4 ?_; intro w5 hb5 hB5 hs5)
      | (refine wpList_store_all (by rfl) 56 _ _ rfl w4.heap.size h4.cells rfl rfl 56 _ hb5 (size4 _ HOK.out) (H4.cells_same _ _ HOK.out H0) (H4.one _) ?_; intro w6 hb6 hg6 hs6))
    obtain ⟨g2, hg2⟩ : ∃ g, w4.heap.size = g := ⟨_, rfl⟩
    have hne02 : g0 ≠ g2 := by have := HZ.out.lt; omega
    have hle2 : w.heap.size ≤ g2 := by rw [← hg2]; exact HW.out.size
    rw [hg2] at hb6 hg6
    try rw [hg2]
    have hB5w := bthen HW.out hB5
    replace HZ := Lib.hid ((HZ.out.on hB5).grown hg6 (fun e => hne02 (by injection e)))
    replace HW := Lib.hid (bgrown hB5w hg6 hB5w.size hle2)
    have hd7 : w6.cell? ⟨g2, 7, none⟩ = some (.int .u8 h4.pro) := hb6.cell 7
    have hd4 : w6.cell? ⟨g2, 4, none⟩ = some (.bool h4.more) := hb6.cell 4
    have hd5 : w6.cell? ⟨g2, 5, none⟩ = some (.int .i64 h4.off) := hb6.cell 5
    clear hb5 hB5 hs5 hb6 hg6 hs6 hB5w hg2
    go_wp2_with (refine wpList_store_all (by rfl) 34 _ _ rfl g0 Mm.zero.cells rfl rfl 34 _ HZ.out (sizeMm _) rfl (oneMm _) ?_; intro w99 hb9 hg9 hs9)
    have hB9 : Below w.heap.size w w99 := bgrown HW.out hg9 HW.out.size (by have := HG.out; omega)
    refine bodyPost_ret (results_cell2 rfl _ _ g0 _ _ _ rfl hb9 Tryd.underlying34 rfl (sizeMm Mm.zero)) rfl ?_
    exact ⟨Mm.zero, by rw [HR.out]; rfl, Mm.zero_ok _, by rw [HR.out]; rfl, by first | exact hB9 | (have h := hB9; rw [HG.out] at h; exact h)⟩
end Go.Proofs.YtckbleiikldloaaDoor


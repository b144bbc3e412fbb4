/- Texts of this claim put together, in build order: each one's own remark stands ahead of it. -/
import Derived.Test.YtbcjkjmjljfhpaaDoorG24
import Derived.Test.YtbcjkjmjljfhpaaDoorG17
/- What the reference's Get of errors of IPv6 (layer 24) computes. No condition but sizes. -/
namespace Go.Proofs.YtbcjkjmjljfhpaaDoor
open Go.RowKit
set_option linter.unusedVariables false
set_option maxRecDepth 20000
set_option linter.unusedSimpArgs false

section
variable {w : World} {o : Oper} {a : Act} {ops : Array Oper} {rest : List Oper} {Q : Exit → Act → World → Prop}
theorem wpList_store_st (hgd : Region.wanted o (yielded ops a.tmps) = true) (x y : Operand) (ho : o.op = .store 9 x y) (g j : Nat) (z : List UInt8) (hx : a.eval x = .pointer (some ⟨g, j, none⟩)) (hy : a.eval y = str z) (t : TypeId) (cs : List Value) (u : Value) (hb : Blk w g t cs) (hj : cs[j]? = some u)
    (h : ∀ w', Blk w' g t (cs.set j (str z)) → w.grownBy w' (some g) → w'.heap.size = w.heap.size → wpList Tryd.prog ops Q rest (a.put o.dst undef) w') : wpList Tryd.prog ops Q (o :: rest) a w :=
  wpList_wanted hgd fun _ hK => wp_skip (w' := w.setCell ⟨g, j, none⟩ (str z)) (by
    have hc := (hb.cell j).trans hj
    have hf := hb.frozen j
    unfold execOp
    simp only [ho, hx, hy]
    go_simp) (hK _ _ (h _ (hb.set j _) (grown_setCells g [str z] j w w (grown_refl w _)) (by simp)))
end
def Mm.got (m : Mm) : Got := (m.kind, m.mtu, m.beg, m.st)
theorem Mm.zero_ok (w : World) : Mm.zero.ok w := ⟨by decide, by decide, by decide, Row.nil _ _ _ _, Nat.le_refl _, Nat.zero_le _, by simp [Mm.zero]⟩
theorem exec_buildM {w : World} {o : Oper} {q : Act} (x0 x2 : Operand) (ho : o.op = .build 34 #[(0, x0), (2, x2)]) (k : Int) (s : List UInt8) (h0 : q.eval x0 = .int .i64 k) (h2 : q.eval x2 = str s) :
    (execOp q.eval o).run Tryd.prog w = .ok (.value (.agg (Mm.cells ⟨k, 0, s, none, 0, 0, []⟩).toArray)) w := by
  have hr : (Instr.build 34 #[(0, .int .i64 k), (2, str s)]).run Tryd.prog w = .ok (.agg (Mm.cells ⟨k, 0, s, none, 0, 0, []⟩).toArray) w := by kernel_rfl
  unfold execOp
  simp only [ho, List.map_toArray, List.map_cons, List.map_nil, h0, h2, Sem.run_bind]
  simp only [Act.eval, hr, Result.andThen_ok]
  rfl

set_option maxHeartbeats 4000000 in
theorem rget24_any (l : List UInt8) (w : World) (hn : l.length ≤ 1000000) :
    Calls Tryd.prog 12 #[str l] w fun e w' => ∃ m' : Mm, e = .returned (.tuple #[.agg m'.cells.toArray, .int .i64 (getF6 l).2]) ∧ m'.ok w' ∧ m'.got = (getF6 l).1 ∧ Below w.heap.size w w' := by
  have P := fun W => rparse6_any l W (by omega)
  have BD := Lib.hid (fun W => rbody6_any l W (by omega))
  have hok := par6_ok l
  obtain ⟨S, hS⟩ : ∃ S, body6 l = S := ⟨_, rfl⟩
  have hSn : S.length ≤ 1000000 := by rw [← hS]; exact Nat.le_trans (body6_le l) hn
  obtain ⟨R, hR⟩ : ∃ R, getF6 l = R := ⟨_, rfl⟩
  rw [hR]
  have hRF : R = if (par6 l).2 ≠ 0 then (noGot, (par6 l).2) else if (par6 l).1.next ≠ 58 then (noGot, 55) else if S.length < 8 then (noGot, 15) else if rawN (pseudoF (par6 l).1.src (par6 l).1.dst 58 (S.length : Int) ++ S) ≠ 65535 then (noGot, 14) else gotF S (kindF (S.getD 0 0).toNat) (numF S 4 4) := by
    rw [← hR, ← hS]
    unfold getF6 readF psF
    split
    · rfl
    · split
      · rfl
      · split
        · rfl
        · split
          · rfl
          · rfl
  rw [hS] at BD
  clear hR hS
  cases hp : par6 l with
  | mk h6 er =>
  rw [hp] at hok hRF
  simp only [hp] at P hok hRF
  have HP := Lib.hid P
  have HOK := Lib.hid hok
  have HS5 := Lib.hid (h6.drop_src hok)
  have HD21 := Lib.hid (h6.drop_dst hok)
  clear P hok hp hn
  have H0 := H6.zero_ok
  obtain ⟨g0, hg0⟩ : ∃ g, w.heap.size = g := ⟨_, rfl⟩
  have HG := Lib.hid hg0
  by_cases he : er = 0
  · subst he
    rw [if_neg (fun h => h rfl)] at hRF
    by_cases hnx : h6.next = 58
    · have hnx1 : (h6.next != 58) = false := by simp [hnx]
      rw [if_neg (fun h => h hnx)] at hRF
      clear hnx
      by_cases h8 : S.length < 8
      · rw [if_pos h8] at hRF
        have HR := Lib.hid hRF
        have h8i : (S.length : Int) < 8 := by omega
        clear hRF
        go_enter Tryd.func12, Tryd.ntmps12
        go_upto_region 1 with (refine wpList_alloc_blk (by rfl) 34 rfl Mm.zero.cells zeroMm ?_; intro w1 hb1 hB1 hs1)
        rw [hg0] at hb1
        try rw [hg0]
        have HZ := Lib.hid hb1
        have HW := Lib.hid hB1
        clear hb1 hB1 hs1
        go_upto_region 2 with (first
          | (refine wpList_alloc_blk (by rfl) 34 rfl Mm.zero.cells zeroMm ?_; intro w2 hb2 hB2 hs2)
          | (refine wpList_store_all (by rfl) 34 _ _ rfl w1.heap.size Mm.zero.cells rfl rfl 34 _ hb2 (sizeMm _) rfl (oneMm _) ?_; intro w3 hb3 hg3 hs3))
        obtain ⟨g1, hg1⟩ : ∃ g, w1.heap.size = g := ⟨_, rfl⟩
        have hne01 : g0 ≠ g1 := by have := HZ.out.lt; omega
        have hle1 : w.heap.size ≤ g1 := by rw [← hg1]; exact HW.out.size
        rw [hg1] at hb3 hg3
        try rw [hg1]
        have hB2w := bthen HW.out hB2
        replace HZ := Lib.hid ((HZ.out.on hB2).grown hg3 (fun e => hne01 (by injection e)))
        replace HW := Lib.hid (bgrown hB2w hg3 hB2w.size hle1)
        have HN := Lib.hid hb3
        clear hb2 hB2 hs2 hb3 hg3 hs3 hB2w
        go_wp2_with fail
        refine (HP.out w3).mono ?_
        rintro e w4 ⟨rfl, hb4⟩
        replace HZ := Lib.hid (HZ.out.on hb4)
        replace HN := Lib.hid (HN.out.on hb4)
        replace HW := Lib.hid (bthen HW.out hb4)
        clear hb4
        go_upto_region 3 with (first
          | (refine wpList_alloc_blk (by rfl) 58 rfl H6.zero.cells zero6 ?_; intro w5 hb5 hB5 hs5)
          | (refine wpList_store_all (by rfl) 58 _ _ rfl w4.heap.size h6.cells rfl rfl 58 _ hb5 (size6 _ HOK.out) (H6.cells_same _ _ HOK.out H0) (H6.one _) ?_; intro w6 hb6 hg6 hs6))
        obtain ⟨g2, hg2⟩ : ∃ g, w4.heap.size = g := ⟨_, rfl⟩
        have hne02 : g0 ≠ g2 := by have := HZ.out.lt; omega
        have hne12 : g1 ≠ g2 := by have := HN.out.lt; omega
        have hle2 : w.heap.size ≤ g2 := by rw [← hg2]; exact HW.out.size
        rw [hg2] at hb6 hg6
        try rw [hg2]
        have hB5w := bthen HW.out hB5
        replace HZ := Lib.hid ((HZ.out.on hB5).grown hg6 (fun e => hne02 (by injection e)))
        replace HN := Lib.hid ((HN.out.on hB5).grown hg6 (fun e => hne12 (by injection e)))
        replace HW := Lib.hid (bgrown hB5w hg6 hB5w.size hle2)
        have HK := Lib.hid hb6
        have hd3 : w6.cell? ⟨g2, 3, none⟩ = some (.int .u8 h6.next) := hb6.cell 3
        clear hb5 hB5 hs5 hb6 hg6 hs6 hB5w hg2 hg1
        go_wp2_with fail
        refine (BD.out w6).mono ?_
        rintro e w7 ⟨rfl, hb⟩
        replace HZ := Lib.hid (HZ.out.on hb)
        replace HN := Lib.hid (HN.out.on hb)
        replace HW := Lib.hid (bthen HW.out hb)
        replace HK := Lib.hid (HK.out.on hb)
        clear hd3 hb
        go_wp2_with (first
          | (refine wpList_load_blk (by rfl) 34 _ rfl g1 rfl 34 _ _ HN.out Tryd.underlying34 rfl (sizeMm _) ?_)
          | (refine wpList_store_all (by rfl) 34 _ _ rfl g0 Mm.zero.cells rfl rfl 34 _ HZ.out (sizeMm _) rfl (oneMm _) ?_; intro w99 hb9 hg9 hs9))
        have hB9 : Below w.heap.size w w99 := bgrown HW.out hg9 HW.out.size (by have := HG.out; omega)
        refine bodyPost_ret (results_cell2 rfl _ _ g0 _ _ _ rfl hb9 Tryd.underlying34 rfl (sizeMm Mm.zero)) rfl ?_
        exact ⟨Mm.zero, by rw [HR.out]; rfl, Mm.zero_ok _, by rw [HR.out]; rfl, hB9⟩
      · rw [if_neg h8] at hRF
        have h8i : ¬ (S.length : Int) < 8 := by omega
        have h8n : 8 ≤ S.length := by omega
        obtain ⟨ps, hps⟩ : ∃ ps, pseudoF h6.src h6.dst 58 (S.length : Int) = ps := ⟨_, rfl⟩
        rw [hps] at hRF
        have hpsl : ps.length ≤ 40 := by rw [← hps]; exact pseudoF_le _ _ _ _
        have HPS := Lib.hid hps
        have RW := fun W => rraw_any (ps ++ S) W (by rw [List.length_append]; omega)
        obtain ⟨rv, hrv⟩ : ∃ rv, rawN (ps ++ S) = rv := ⟨_, rfl⟩
        rw [hrv] at hRF
        simp only [hrv] at RW
        have HRW := Lib.hid RW
        clear RW hrv hps h8
        by_cases hsum : rv = 65535
        · rw [if_neg (fun h => h hsum)] at hRF
          have hsum1 : ((rv : Int) != 65535) = false := by simp; omega
          have HRF := Lib.hid hRF
          clear hsum hRF
          go_enter Tryd.func12, Tryd.ntmps12
          go_upto_region 1 with (refine wpList_alloc_blk (by rfl) 34 rfl Mm.zero.cells zeroMm ?_; intro w1 hb1 hB1 hs1)
          rw [hg0] at hb1
          try rw [hg0]
          have HZ := Lib.hid hb1
          have HW := Lib.hid hB1
          clear hb1 hB1 hs1
          go_upto_region 2 with (first
            | (refine wpList_alloc_blk (by rfl) 34 rfl Mm.zero.cells zeroMm ?_; intro w2 hb2 hB2 hs2)
            | (refine wpList_store_all (by rfl) 34 _ _ rfl w1.heap.size Mm.zero.cells rfl rfl 34 _ hb2 (sizeMm _) rfl (oneMm _) ?_; intro w3 hb3 hg3 hs3))
          obtain ⟨g1, hg1⟩ : ∃ g, w1.heap.size = g := ⟨_, rfl⟩
          have hne01 : g0 ≠ g1 := by have := HZ.out.lt; omega
          have hle1 : w.heap.size ≤ g1 := by rw [← hg1]; exact HW.out.size
          rw [hg1] at hb3 hg3
          try rw [hg1]
          have hB2w := bthen HW.out hB2
          replace HZ := Lib.hid ((HZ.out.on hB2).grown hg3 (fun e => hne01 (by injection e)))
          replace HW := Lib.hid (bgrown hB2w hg3 hB2w.size hle1)
          have HN := Lib.hid hb3
          clear hb2 hB2 hs2 hb3 hg3 hs3 hB2w
          go_wp2_with fail
          refine (HP.out w3).mono ?_
          rintro e w4 ⟨rfl, hb4⟩
          replace HZ := Lib.hid (HZ.out.on hb4)
          replace HN := Lib.hid (HN.out.on hb4)
          replace HW := Lib.hid (bthen HW.out hb4)
          clear hb4
          go_upto_region 3 with (first
            | (refine wpList_alloc_blk (by rfl) 58 rfl H6.zero.cells zero6 ?_; intro w5 hb5 hB5 hs5)
            | (refine wpList_store_all (by rfl) 58 _ _ rfl w4.heap.size h6.cells rfl rfl 58 _ hb5 (size6 _ HOK.out) (H6.cells_same _ _ HOK.out H0) (H6.one _) ?_; intro w6 hb6 hg6 hs6))
          obtain ⟨g2, hg2⟩ : ∃ g, w4.heap.size = g := ⟨_, rfl⟩
          have hne02 : g0 ≠ g2 := by have := HZ.out.lt; omega
          have hne12 : g1 ≠ g2 := by have := HN.out.lt; omega
          have hle2 : w.heap.size ≤ g2 := by rw [← hg2]; exact HW.out.size
          rw [hg2] at hb6 hg6
          try rw [hg2]
          have hB5w := bthen HW.out hB5
          replace HZ := Lib.hid ((HZ.out.on hB5).grown hg6 (fun e => hne02 (by injection e)))
          replace HN := Lib.hid ((HN.out.on hB5).grown hg6 (fun e => hne12 (by injection e)))
          replace HW := Lib.hid (bgrown hB5w hg6 hB5w.size hle2)
          have HK := Lib.hid hb6
          have hd3 : w6.cell? ⟨g2, 3, none⟩ = some (.int .u8 h6.next) := hb6.cell 3
          clear hb5 hB5 hs5 hb6 hg6 hs6 hB5w hg2 hg1
          go_wp2_with fail
          refine (BD.out w6).mono ?_
          rintro e w7 ⟨rfl, hb⟩
          replace HZ := Lib.hid (HZ.out.on hb)
          replace HN := Lib.hid (HN.out.on hb)
          replace HW := Lib.hid (bthen HW.out hb)
          replace HK := Lib.hid (HK.out.on hb)
          clear hd3 hb
          go_wp2_with fail
          refine wp_region_rel (fun A B => A.grownBy B none) (fun A => grown_refl A _) (fun A B C h k => grown_trans h k) (relAt (List.cons (fun v _ => v = .pointer (some ⟨g2, 5, none⟩)) (List.cons (fun v _ => v = .agg (bv h6.src).toArray) (List.cons (fun v _ => v = str h6.src) (List.cons (fun v _ => v = .pointer (some ⟨g2, 21, none⟩)) (List.cons (fun v _ => v = .agg (bv h6.dst).toArray) (List.cons (fun v _ => v = str h6.dst) (List.cons (fun v _ => v = str S) (List.cons (fun v _ => v = .int .i64 (S.length : Int)) (List.cons (fun v _ => v = str ps) (List.cons (fun v _ => v = str ps) ([])))))))))))) (MonoL.at_ (.cons (mono_val _) (.cons (mono_val _) (.cons (mono_val _) (.cons (mono_val _) (.cons (mono_val _) (.cons (mono_val _) (.cons (mono_val _) (.cons (mono_val _) (.cons (mono_val _) (.cons (mono_val _) .nil))))))))))) (by kernel_rfl) (by kernel_rfl) ⟨?_, ?_, ?_, ?_, ?_, ?_, ?_, ?_, ?_, ?_, trivial⟩ ?_
          · intro a vs W hX hR he hf K hK
            rw [if_pos (wanted_none rfl)]
            have e5 : a.eval (.tmp 5) = .pointer (some ⟨g2, 0, none⟩) := hf 5 (by kernel_rfl)
            refine wp_value (v := .pointer (some ⟨g2, 5, none⟩)) ?_ (hK _ _ rfl (grown_refl W _))
            simp only [execOp, e5]
            try go_simp
            try (first | rfl | omega | (simp only [IntKind.wrap_i64, IntKind.wrap_u8, IntKind.wrap_u64, IntKind.wrap_u16, IntKind.wrap_u32]; omega) | (rw [Int.tmod_eq_emod_of_nonneg (by omega)]) | (rw [Int.tmod_eq_emod_of_nonneg (by omega)]; omega))
          · intro a vs W hX hR he hf K hK
            rw [if_pos (wanted_none rfl)]
            have e34 : a.eval (.tmp 34) = .pointer (some ⟨g2, 5, none⟩) := (he 0 34 (by kernel_rfl) rfl).trans (hR 0 (by kernel_rfl))
            have hbW := bthen (below_drew _) (grow_below hX)
            have hr := (HK.out.on hbW).range 5 16
            rw [HS5.out] at hr
            exact wp_value (exec_load_mid 26 _ rfl g2 5 e34 _ _ hr Tryd.underlying26 rfl (size24 _ HOK.out.src)) (hK _ _ rfl (grown_refl W _))
          · intro a vs W hX hR he hf K hK
            rw [if_pos (wanted_none rfl)]
            have e35 : a.eval (.tmp 35) = .agg (bv h6.src).toArray := (he 1 35 (by kernel_rfl) rfl).trans (hR 1 (by kernel_rfl))
            refine wp_enter (f := 26) (args := #[.agg (bv h6.src).toArray]) (by simp only [execOp, e35]; go_simp; simpa [Act.eval] using e35) ((text_any h6.src W HOK.out.src).mono ?_)
            rintro e w' ⟨rfl, hb⟩
            exact ⟨_, rfl, hK _ _ rfl (below_grow hb _)⟩
          · intro a vs W hX hR he hf K hK
            rw [if_pos (wanted_none rfl)]
            have e5 : a.eval (.tmp 5) = .pointer (some ⟨g2, 0, none⟩) := hf 5 (by kernel_rfl)
            refine wp_value (v := .pointer (some ⟨g2, 21, none⟩)) ?_ (hK _ _ rfl (grown_refl W _))
            simp only [execOp, e5]
            try go_simp
            try (first | rfl | omega | (simp only [IntKind.wrap_i64, IntKind.wrap_u8, IntKind.wrap_u64, IntKind.wrap_u16, IntKind.wrap_u32]; omega) | (rw [Int.tmod_eq_emod_of_nonneg (by omega)]) | (rw [Int.tmod_eq_emod_of_nonneg (by omega)]; omega))
          · intro a vs W hX hR he hf K hK
            rw [if_pos (wanted_none rfl)]
            have e37 : a.eval (.tmp 37) = .pointer (some ⟨g2, 21, none⟩) := (he 3 37 (by kernel_rfl) rfl).trans (hR 3 (by kernel_rfl))
            have hbW := bthen (below_drew _) (grow_below hX)
            have hr := (HK.out.on hbW).range 21 16
            rw [HD21.out] at hr
            exact wp_value (exec_load_mid 26 _ rfl g2 21 e37 _ _ hr Tryd.underlying26 rfl (size24 _ HOK.out.dst)) (hK _ _ rfl (grown_refl W _))
          · intro a vs W hX hR he hf K hK
            rw [if_pos (wanted_none rfl)]
            have e38 : a.eval (.tmp 38) = .agg (bv h6.dst).toArray := (he 4 38 (by kernel_rfl) rfl).trans (hR 4 (by kernel_rfl))
            refine wp_enter (f := 26) (args := #[.agg (bv h6.dst).toArray]) (by simp only [execOp, e38]; go_simp; simpa [Act.eval] using e38) ((text_any h6.dst W HOK.out.dst).mono ?_)
            rintro e w' ⟨rfl, hb⟩
            exact ⟨_, rfl, hK _ _ rfl (below_grow hb _)⟩
          · intro a vs W hX hR he hf K hK
            rw [if_pos (wanted_none rfl)]
            have e7 : a.eval (.tmp 7) = str S := hf 7 (by kernel_rfl)
            refine wp_value (v := str S) ?_ (hK _ _ rfl (grown_refl W _))
            simp only [execOp, e7]
            try go_simp
            try (first | rfl | omega | (simp only [IntKind.wrap_i64, IntKind.wrap_u8, IntKind.wrap_u64, IntKind.wrap_u16, IntKind.wrap_u32]; omega) | (rw [Int.tmod_eq_emod_of_nonneg (by omega)]) | (rw [Int.tmod_eq_emod_of_nonneg (by omega)]; omega))
          · intro a vs W hX hR he hf K hK
            rw [if_pos (wanted_none rfl)]
            have e40 : a.eval (.tmp 40) = str S := (he 6 40 (by kernel_rfl) rfl).trans (hR 6 (by kernel_rfl))
            have f40 := e40
            simp only [Act.eval, Array.getD_eq_getD_getElem?] at f40
            refine wp_value (v := .int .i64 (S.length : Int)) ?_ (hK _ _ rfl (grown_refl W _))
            simp only [execOp, e40]
            try go_simp
            try (first | rfl | omega | (simp only [IntKind.wrap_i64, IntKind.wrap_u8, IntKind.wrap_u64, IntKind.wrap_u16, IntKind.wrap_u32]; omega) | (rw [Int.tmod_eq_emod_of_nonneg (by omega)]) | (rw [Int.tmod_eq_emod_of_nonneg (by omega)]; omega))
          · intro a vs W hX hR he hf K hK
            rw [if_pos (wanted_none rfl)]
            have e36 : a.eval (.tmp 36) = str h6.src := (he 2 36 (by kernel_rfl) rfl).trans (hR 2 (by kernel_rfl))
            have e39 : a.eval (.tmp 39) = str h6.dst := (he 5 39 (by kernel_rfl) rfl).trans (hR 5 (by kernel_rfl))
            have e41 : a.eval (.tmp 41) = .int .i64 (S.length : Int) := (he 7 41 (by kernel_rfl) rfl).trans (hR 7 (by kernel_rfl))
            refine wp_enter (f := 25) (args := #[str h6.src, str h6.dst, .int .i64 58, .int .i64 (S.length : Int)]) (by simp only [execOp, e36, e39, e41]; go_simp; exact ⟨by simpa [Act.eval] using e36, by simpa [Act.eval] using e39, by simpa [Act.eval] using e41⟩) ((rpseudo_any h6.src h6.dst 58 (S.length : Int) W (by have := HOK.out.src; omega) (by have := HOK.out.dst; omega) (by omega) (by omega) (by omega) (by omega)).mono ?_)
            rintro e w' ⟨rfl, hb⟩
            exact ⟨_, rfl, hK _ _ (congrArg (fun z => str z) HPS.out) (below_grow hb _)⟩
          · intro a vs W hX hR he hf K hK
            rw [if_pos (wanted_none rfl)]
            have e42 : a.eval (.tmp 42) = str ps := (he 8 42 (by kernel_rfl) rfl).trans (hR 8 (by kernel_rfl))
            refine wp_value (v := str ps) ?_ (hK _ _ rfl (grown_refl W _))
            simp only [execOp, e42]
            try go_simp
            try (first | rfl | omega | (simp only [IntKind.wrap_i64, IntKind.wrap_u8, IntKind.wrap_u64, IntKind.wrap_u16, IntKind.wrap_u32]; omega) | (rw [Int.tmod_eq_emod_of_nonneg (by omega)]) | (rw [Int.tmod_eq_emod_of_nonneg (by omega)]; omega))
          · intro vs w8 hX8 hR
            have q0 := hR 0 (by decide)
            have q1 := hR 1 (by decide)
            have q2 := hR 2 (by decide)
            have q3 := hR 3 (by decide)
            have q4 := hR 4 (by decide)
            have q5 := hR 5 (by decide)
            have q6 := hR 6 (by decide)
            have q7 := hR 7 (by decide)
            have q8 := hR 8 (by decide)
            have q9 := hR 9 (by decide)
            change vs 0 = .pointer (some ⟨g2, 5, none⟩) at q0
            change vs 1 = .agg (bv h6.src).toArray at q1
            change vs 2 = str h6.src at q2
            change vs 3 = .pointer (some ⟨g2, 21, none⟩) at q3
            change vs 4 = .agg (bv h6.dst).toArray at q4
            change vs 5 = str h6.dst at q5
            change vs 6 = str S at q6
            change vs 7 = .int .i64 (S.length : Int) at q7
            change vs 8 = str ps at q8
            change vs 9 = str ps at q9
            simp only [putAll, Act.put, List.setIfInBounds_toArray, List.set_cons_zero, List.set_cons_succ, q0, q1, q2, q3, q4, q5, q6, q7, q8, q9]
            clear q0 q1 q2 q3 q4 q5 q6 q7 q8 q9
            clear hR
            have hb := bthen (below_drew _) (grow_below hX8)
            replace HZ := Lib.hid (HZ.out.on hb)
            replace HN := Lib.hid (HN.out.on hb)
            replace HW := Lib.hid (bthen HW.out hb)
            clear hX8 hb HK
            go_wp2_with (refine wpList_value (by rfl) (exec_add _ _ _ _ rfl Tryd.underlying9 ps S rfl rfl (by omega)) ?_)
            refine (HRW.out w8).mono ?_
            rintro e w9 ⟨rfl, rfl⟩
            obtain ⟨b0, hb0⟩ : ∃ u, S[0]? = some u := ⟨_, List.getElem?_eq_getElem (by omega)⟩
            obtain ⟨b1, hb1⟩ : ∃ u, S[1]? = some u := ⟨_, List.getElem?_eq_getElem (by omega)⟩
            have HB0 := Lib.hid (ba_get S 0 b0 hb0)
            have HB1 := Lib.hid (ba_get S 1 b1 hb1)
            have hrf := HRF.out
            have e0 : S.getD 0 0 = b0 := by rw [List.getD_eq_getElem?_getD, hb0]; rfl
            have e1 : S.getD 1 0 = b1 := by rw [List.getD_eq_getElem?_getD, hb1]; rfl
            unfold gotF at hrf
            rw [e0, e1] at hrf
            have hub1 := b1.toNat_lt
            have hub0 := b0.toNat_lt
            have KD := Lib.hid (fun W => rkind24_any b0.toNat W (by omega))
            obtain ⟨u0, hu0⟩ : ∃ u, b0.toNat = u := ⟨_, rfl⟩
            obtain ⟨u1, hu1⟩ : ∃ u, b1.toNat = u := ⟨_, rfl⟩
            have hub : u0 ≤ 255 := by omega
            have hkb := kindF_bd u0
            have HU0 := Lib.hid hu0
            have HU1 := Lib.hid hu1
            rw [hu0, hu1] at hrf
            obtain ⟨k, hk⟩ : ∃ k, kindF u0 = k := ⟨_, rfl⟩
            rw [hk] at hrf hkb
            have HKI := Lib.hid hk
            have GT := fun W => rget_yes S 4 4 W (by omega) (by omega) (by omega) (by omega) (by omega)
            obtain ⟨four, hf⟩ : ∃ f, numF S 4 4 = f := ⟨_, rfl⟩
            have hfb : four < 4294967296 := by rw [← hf]; exact numF_bd S 4 4
            have hf' := hf
            unfold numF at hf'
            simp only [show ((4 : Int).toNat) = 4 from rfl, hf'] at GT
            have HGT := Lib.hid GT
            rw [hf] at hrf
            obtain ⟨D, hD⟩ : ∃ D, S.drop 8 = D := ⟨_, rfl⟩
            have hDl : D.length + 8 = S.length := by rw [← hD, List.length_drop]; omega
            have h136 : S.drop 136 = D.drop 128 := by rw [← hD, List.drop_drop]
            rw [hD, h136] at hrf
            have HD8 := Lib.hid hD
            have hFull := full_iff k four
            have hBad := badK_iff k four
            replace HRF := Lib.hid hrf
            clear hrf hD h136 hf hf' GT hk hu0 hu1 hub1 hub0 KD e0 e1 hb0 hb1
            go_wp2_with fail
            refine wp_region_last 7 (fun A B => A.grownBy B none) (fun A => grown_refl A _) (fun A B C h k => grown_trans h k) (relAt (List.cons (fun v _ => v = str S) (List.cons (fun v _ => v = .int .u8 (u0 : Int)) (List.cons (fun v _ => v = .int .i64 k) (List.cons (fun v _ => v = str S) (List.cons (fun v _ => v = str D) (List.cons (fun v _ => v = .agg (Mm.cells ⟨k, 0, D, none, 0, 0, []⟩).toArray) (List.cons (fun v W => ∃ g, v = .pointer (some ⟨g, 0, none⟩) ∧ w8.heap.size ≤ g ∧ Blk W g 34 Mm.zero.cells) ([]))))))))) (MonoL.at_ (.cons (mono_val _) (.cons (mono_val _) (.cons (mono_val _) (.cons (mono_val _) (.cons (mono_val _) (.cons (mono_val _) (.cons (fun _ _ _ ⟨g, hv, hg, hz⟩ hx => ⟨g, hv, hg, hz.on (grow_below hx)⟩) .nil)))))))) (by kernel_rfl) (by kernel_rfl) rfl (by kernel_rfl) _ rfl rfl ⟨?_, ?_, ?_, ?_, ?_, ?_, ?_, trivial⟩ ?_
            · intro a vs W hX hR he hf K hK
              rw [if_pos (wanted_none rfl)]
              have e7 : a.eval (.tmp 7) = str S := hf 7 (by kernel_rfl)
              refine wp_value (v := str S) ?_ (hK _ _ rfl (grown_refl W _))
              simp only [execOp, e7]
              try go_simp
              try (first | rfl | omega | (simp only [IntKind.wrap_i64, IntKind.wrap_u8, IntKind.wrap_u64, IntKind.wrap_u16, IntKind.wrap_u32]; omega) | (rw [Int.tmod_eq_emod_of_nonneg (by omega)]) | (rw [Int.tmod_eq_emod_of_nonneg (by omega)]; omega))
            · intro a vs W hX hR he hf K hK
              rw [if_pos (wanted_none rfl)]
              have e49 : a.eval (.tmp 49) = str S := (he 0 49 (by kernel_rfl) rfl).trans (hR 0 (by kernel_rfl))
              refine wp_value (v := .int .u8 (u0 : Int)) ?_ (hK _ _ rfl (grown_refl W _))
              simp only [execOp, e49]
              have hg := HB0.out
              go_simp
              rw [if_pos (by omega), HU0.out]
            · intro a vs W hX hR he hf K hK
              rw [if_pos (wanted_none rfl)]
              have e50 : a.eval (.tmp 50) = .int .u8 (u0 : Int) := (he 1 50 (by kernel_rfl) rfl).trans (hR 1 (by kernel_rfl))
              refine wp_enter (f := 36) (args := #[.int .u8 (u0 : Int)]) (by simp only [execOp, e50]; go_simp; simpa [Act.eval] using e50) ((rkind24_any u0 W hub).mono ?_)
              rintro e w' ⟨rfl, hb⟩
              exact ⟨_, rfl, hK _ _ (congrArg (fun z => Value.int .i64 z) HKI.out) (below_grow hb _)⟩
            · intro a vs W hX hR he hf K hK
              rw [if_pos (wanted_none rfl)]
              have e7 : a.eval (.tmp 7) = str S := hf 7 (by kernel_rfl)
              refine wp_value (v := str S) ?_ (hK _ _ rfl (grown_refl W _))
              simp only [execOp, e7]
              try go_simp
              try (first | rfl | omega | (simp only [IntKind.wrap_i64, IntKind.wrap_u8, IntKind.wrap_u64, IntKind.wrap_u16, IntKind.wrap_u32]; omega) | (rw [Int.tmod_eq_emod_of_nonneg (by omega)]) | (rw [Int.tmod_eq_emod_of_nonneg (by omega)]; omega))
            · intro a vs W hX hR he hf K hK
              rw [if_pos (wanted_none rfl)]
              have e52 : a.eval (.tmp 52) = str S := (he 3 52 (by kernel_rfl) rfl).trans (hR 3 (by kernel_rfl))
              have f52 := e52
              simp only [Act.eval, Array.getD_eq_getD_getElem?] at f52
              refine wp_value (v := str D) ?_ (hK _ _ rfl (grown_refl W _))
              simp only [execOp, e52]
              go_simp
              rw [str_ex, List.take_of_length_le (Nat.le_refl _), HD8.out]
            · intro a vs W hX hR he hf K hK
              rw [if_pos (wanted_none rfl)]
              have e51 : a.eval (.tmp 51) = .int .i64 k := (he 2 51 (by kernel_rfl) rfl).trans (hR 2 (by kernel_rfl))
              have e53 : a.eval (.tmp 53) = str D := (he 4 53 (by kernel_rfl) rfl).trans (hR 4 (by kernel_rfl))
              have f51 := e51
              simp only [Act.eval, Array.getD_eq_getD_getElem?] at f51
              have f53 := e53
              simp only [Act.eval, Array.getD_eq_getD_getElem?] at f53
              exact wp_value (exec_buildM _ _ rfl k D e51 e53) (hK _ _ rfl (grown_refl W _))
            · intro a vs W hX hR he hf K hK
              rw [if_pos (wanted_none rfl)]
              refine wp_alloc_blk 34 rfl Mm.zero.cells zeroMm ?_
              intro g w' hbg hb' hs' hgs
              exact hK _ _ ⟨g, rfl, by rw [hgs]; exact (grow_below hX).size, hbg⟩ (below_grow hb' _)
            · intro vs wx hX10 hR
              have q0 := hR 0 (by decide)
              have q1 := hR 1 (by decide)
              have q2 := hR 2 (by decide)
              have q3 := hR 3 (by decide)
              have q4 := hR 4 (by decide)
              have q5 := hR 5 (by decide)
              have q6 := hR 6 (by decide)
              change vs 0 = str S at q0
              change vs 1 = .int .u8 (u0 : Int) at q1
              change vs 2 = .int .i64 k at q2
              change vs 3 = str S at q3
              change vs 4 = str D at q4
              change vs 5 = .agg (Mm.cells ⟨k, 0, D, none, 0, 0, []⟩).toArray at q5
              change (fun v W => ∃ g, v = .pointer (some ⟨g, 0, none⟩) ∧ w8.heap.size ≤ g ∧ Blk W g 34 Mm.zero.cells) (vs 6) wx at q6
              simp only [putAll, Act.put, List.setIfInBounds_toArray, List.set_cons_zero, List.set_cons_succ, List.take_succ_cons, List.take_zero, q0, q1, q2, q3, q4, q5]
              clear q0 q1 q2 q3 q4 q5
              clear hR
              obtain ⟨g8, hv, hg8, hbg⟩ := q6
              rw [hv]
              have hbW := bthen (below_drew _) (grow_below hX10)
              have hk4 := HZ.out.on hbW
              have hn4 := HN.out.on hbW
              have hB4 := bthen HW.out hbW
              have hg08 : g0 ≠ g8 := by have := HZ.out.lt; omega
              have hg18 : g1 ≠ g8 := by have := HN.out.lt; omega
              have hle8 : w.heap.size ≤ g8 := by have := HW.out.size; omega
              have hg0x : g0 < w8.heap.size := HZ.out.lt
              refine wp_store_all 34 _ _ rfl g8 (Mm.cells ⟨k, 0, D, none, 0, 0, []⟩) rfl rfl 34 _ hbg (sizeMm _) rfl (oneMm _) ?_
              intro w10 hk5 hg5 hs5
              try simp only [List.getElem_toArray, List.getElem_cons_succ, List.getElem_cons_zero, Act.put, List.setIfInBounds_toArray, List.set_cons_zero, List.set_cons_succ]
              have hg0w : g0 < w10.heap.size := by have := hbW.size; omega
              replace HZ := Lib.hid (hk4.grown hg5 (fun e => hg08 (by injection e)))
              replace HN := Lib.hid (hn4.grown hg5 (fun e => hg18 (by injection e)))
              replace HW := Lib.hid (bgrown hB4 hg5 hB4.size hle8)
              have HM := Lib.hid hk5
              have hm0 : w10.cell? ⟨g8, 0, none⟩ = some (.int .i64 k) := hk5.cell 0
              have hm2 : w10.cell? ⟨g8, 2, none⟩ = some (str D) := hk5.cell 2
              clear hX10 hv hbg hbW hk4 hn4 hB4 hk5 hg5 hs5 HP BD HRW HB0 HKI HU0
              by_cases hc0 : k < 0
              · have hbk : badK k four = true := hBad.2 (.inl hc0)
                have HR := Lib.hid (HRF.out.trans (if_pos (by rw [hbk]; rfl)))
                clear hbk hBad hFull
                go_wp2_with fail
                refine (HGT.out w10).mono ?_
                rintro e w11 ⟨rfl, rfl⟩
                have hix := HB1.out
                have hix2 := HU1.out
                have hl1 : 1 < S.length := by omega
                go_upto_region 17 with fail
                clear hm0 hm2
                go_wp2_with (first
                  | (refine wpList_load_blk (by rfl) 34 _ rfl g1 rfl 34 _ _ HN.out Tryd.underlying34 rfl (sizeMm _) ?_)
                  | (refine wpList_store_all (by rfl) 34 _ _ rfl g0 Mm.zero.cells rfl rfl 34 _ HZ.out (sizeMm _) rfl (oneMm _) ?_; intro w99 hb9 hg9 hs9))
                have hB9 : Below w.heap.size w w99 := bgrown HW.out hg9 HW.out.size (by have := HG.out; omega)
                refine bodyPost_ret (results_cell2 rfl _ _ g0 _ _ _ rfl hb9 Tryd.underlying34 rfl (sizeMm Mm.zero)) rfl ?_
                exact ⟨Mm.zero, by rw [HR.out]; rfl, Mm.zero_ok _, by rw [HR.out]; rfl, hB9⟩
              · by_cases hc1 : u1 = 0
                · have hc1b : ((u1 : Int) != 0) = false := by simp; omega
                  by_cases hc2 : k = 1
                  · have hc2b : (k == 1) = true := by simp [hc2]
                    have hc2c : (k != 1) = false := by simp [hc2]
                    have hfl : fullB k four = false := by
                      cases hB : fullB k four
                      · rfl
                      · exact absurd hc2 (hFull.1 hB).1
                    by_cases hc3 : 65535 < four
                    · have hc3b : (65535 : Int) < (four : Int) := by omega
                      have hbk : badK k four = true := hBad.2 (.inr (.inl ⟨hc2, hc3⟩))
                      have HR := Lib.hid (HRF.out.trans (if_pos (by rw [hbk]; rfl)))
                      clear hbk hBad hFull hc2 hc1
                      go_wp2_with fail
                      refine (HGT.out w10).mono ?_
                      rintro e w11 ⟨rfl, rfl⟩
                      have hix := HB1.out
                      have hix2 := HU1.out
                      have hl1 : 1 < S.length := by omega
                      go_upto_region 17 with fail
                      clear hm0 hm2
                      go_wp2_with (first
                        | (refine wpList_load_blk (by rfl) 34 _ rfl g1 rfl 34 _ _ HN.out Tryd.underlying34 rfl (sizeMm _) ?_)
                        | (refine wpList_store_all (by rfl) 34 _ _ rfl g0 Mm.zero.cells rfl rfl 34 _ HZ.out (sizeMm _) rfl (oneMm _) ?_; intro w99 hb9 hg9 hs9))
                      have hB9 : Below w.heap.size w w99 := bgrown HW.out hg9 HW.out.size (by have := HG.out; omega)
                      refine bodyPost_ret (results_cell2 rfl _ _ g0 _ _ _ rfl hb9 Tryd.underlying34 rfl (sizeMm Mm.zero)) rfl ?_
                      exact ⟨Mm.zero, by rw [HR.out]; rfl, Mm.zero_ok _, by rw [HR.out]; rfl, hB9⟩
                    · have hc3b : ¬ (65535 : Int) < (four : Int) := by omega
                      have hbk : badK k four = false := by
                        cases hB : badK k four
                        · rfl
                        · have := hBad.1 hB; omega
                      have hz := HRF.out
                      rw [hbk, hfl, hc1] at hz
                      simp only [Bool.false_or, ne_eq, not_true_eq_false, decide_false, Bool.false_eq_true, if_false] at hz
                      clear hbk hBad hFull hc2 hc1 hfl
                      by_cases hL : 1240 < S.length
                      · have hL2 : (1232 : Int) < (D.length : Int) := by omega
                        have HR := Lib.hid (hz.trans (if_pos hL))
                        clear hz
                        go_wp2_with fail
                        refine (HGT.out w10).mono ?_
                        rintro e w11 ⟨rfl, rfl⟩
                        have hix := HB1.out
                        have hix2 := HU1.out
                        have hl1 : 1 < S.length := by omega
                        go_upto_region 19 with fail
                        clear hm0 hm2
                        go_wp2_with (first
                          | (refine wpList_load_blk (by rfl) 34 _ rfl g1 rfl 34 _ _ HN.out Tryd.underlying34 rfl (sizeMm _) ?_)
                          | (refine wpList_store_all (by rfl) 34 _ _ rfl g0 Mm.zero.cells rfl rfl 34 _ HZ.out (sizeMm _) rfl (oneMm _) ?_; intro w99 hb9 hg9 hs9))
                        have hB9 : Below w.heap.size w w99 := bgrown HW.out hg9 HW.out.size (by have := HG.out; omega)
                        refine bodyPost_ret (results_cell2 rfl _ _ g0 _ _ _ rfl hb9 Tryd.underlying34 rfl (sizeMm Mm.zero)) rfl ?_
                        exact ⟨Mm.zero, by rw [HR.out]; rfl, Mm.zero_ok _, by rw [HR.out]; rfl, hB9⟩
                      · have hL2 : ¬ (1232 : Int) < (D.length : Int) := by omega
                        have HR := Lib.hid (hz.trans (if_neg hL))
                        clear hz
                        go_wp2_with fail
                        refine (HGT.out w10).mono ?_
                        rintro e w11 ⟨rfl, rfl⟩
                        have hix := HB1.out
                        have hix2 := HU1.out
                        have hl1 : 1 < S.length := by omega
                        go_upto_region 21 with fail
                        clear hm0 hm2
                        have hM8 := HM.out
                        go_wp2_with (first
                          | (refine wpList_store_int (by rfl) _ _ rfl g8 1 (four : Int) rfl rfl 34 _ _ hM8 rfl ?_; intro w12 hk12 hg12 hs12; replace hk12 : Blk w12 g8 34 (Mm.cells ⟨k, (four : Int), D, none, 0, 0, []⟩) := hk12)
                          | (refine wpList_load_blk (by rfl) 34 _ rfl g8 rfl 34 _ _ hk12 Tryd.underlying34 rfl (sizeMm _) ?_)
                          | (refine wpList_store_all (by rfl) 34 _ _ rfl g0 _ rfl rfl 34 _ (HZ.out.grown hg12 (fun e => hg08 (by injection e))) (sizeMm _) rfl (oneMm _) ?_; intro w13 hb13 hg13 hs13))
                        have hB13 : Below w.heap.size w w13 := bgrown (bgrown HW.out hg12 HW.out.size hle8) hg13 (by have := HW.out.size; omega) (by have := HG.out; omega)
                        refine bodyPost_ret (results_cell2 rfl _ _ g0 _ _ _ rfl hb13 Tryd.underlying34 rfl (sizeMm _)) rfl ?_
                        exact ⟨⟨k, (four : Int), D, none, 0, 0, []⟩, by rw [HR.out]; rfl, ⟨⟨by dsimp only; omega, by dsimp only; omega⟩, ⟨by dsimp only; omega, by dsimp only; omega⟩, by dsimp only; omega, Row.nil _ _ _ _, Nat.le_refl _, Nat.zero_le _, by simp⟩, by rw [HR.out]; rfl, hB13⟩
                  · have hc2b : (k == 1) = false := by simpa using hc2
                    have hc2c : (k != 1) = true := by simpa using hc2
                    by_cases hc4 : four = 268435456
                    · have hc4b : ((four : Int) == 268435456) = true := by simp; omega
                      have hfl : fullB k four = true := hFull.2 ⟨hc2, hc4⟩
                      have hbk : badK k four = false := by
                        cases hB : badK k four
                        · rfl
                        · have := hBad.1 hB; omega
                      have hz := HRF.out
                      rw [hbk, hfl, hc1] at hz
                      simp only [Bool.false_or, ne_eq, not_true_eq_false, decide_false, Bool.false_eq_true, if_false, if_true] at hz
                      clear hbk hBad hFull hc2 hc1 hfl hc4
                      by_cases hL : S.length < 136
                      · have hL2 : (D.length : Int) < 128 := by omega
                        have HR := Lib.hid (hz.trans (if_pos hL))
                        clear hz
                        go_wp2_with fail
                        refine (HGT.out w10).mono ?_
                        rintro e w11 ⟨rfl, rfl⟩
                        have hix := HB1.out
                        have hix2 := HU1.out
                        have hl1 : 1 < S.length := by omega
                        go_upto_region 19 with fail
                        clear hm0 hm2
                        go_wp2_with (first
                          | (refine wpList_load_blk (by rfl) 34 _ rfl g1 rfl 34 _ _ HN.out Tryd.underlying34 rfl (sizeMm _) ?_)
                          | (refine wpList_store_all (by rfl) 34 _ _ rfl g0 Mm.zero.cells rfl rfl 34 _ HZ.out (sizeMm _) rfl (oneMm _) ?_; intro w99 hb9 hg9 hs9))
                        have hB9 : Below w.heap.size w w99 := bgrown HW.out hg9 HW.out.size (by have := HG.out; omega)
                        refine bodyPost_ret (results_cell2 rfl _ _ g0 _ _ _ rfl hb9 Tryd.underlying34 rfl (sizeMm Mm.zero)) rfl ?_
                        exact ⟨Mm.zero, by rw [HR.out]; rfl, Mm.zero_ok _, by rw [HR.out]; rfl, hB9⟩
                      · have hL2 : ¬ (D.length : Int) < 128 := by omega
                        have hL3 : (128 : Int) ≤ (D.length : Int) := by omega
                        have hz1 := hz.trans (if_neg hL)
                        have TL := fun W => rtold22_any (D.drop 128) W (by rw [List.length_drop]; omega)
                        have hfit := told_fit (D.drop 128)
                        obtain ⟨T, hTT⟩ : ∃ T, (toldG (D.drop 128)).1 = T := ⟨_, rfl⟩
                        obtain ⟨p, hp⟩ : ∃ p, (toldG (D.drop 128)).2 = p := ⟨_, rfl⟩
                        rw [hTT, hp] at hz1
                        simp only [hTT, hp] at TL
                        rw [hTT] at hfit
                        have HTL := Lib.hid TL
                        have HFIT := Lib.hid hfit
                        have HSD := Lib.hid (str_drop D 128)
                        have HST := Lib.hid (str_ex D 0 128)
                        clear TL hTT hp hfit hz
                        go_wp2_with fail
                        refine (HGT.out w10).mono ?_
                        rintro e w11 ⟨rfl, rfl⟩
                        have hix := HB1.out
                        have hix2 := HU1.out
                        have hl1 : 1 < S.length := by omega
                        go_upto_region 23 with fail
                        clear hm0
                        go_wp2_with fail
                        rw [HSD.out]
                        refine (HTL.out w10).mono ?_
                        rintro e w12 ⟨A12, c12, rfl, hown, hb⟩
                        replace HZ := Lib.hid (HZ.out.on hb)
                        replace HN := Lib.hid (HN.out.on hb)
                        replace HW := Lib.hid (bthen HW.out hb)
                        have hk12 := HM.out.on hb
                        have hm2' : w12.cell? ⟨g8, 2, none⟩ = some (str D) := hk12.cell 2
                        have hfr : w10.heap.size ≤ w12.heap.size := hb.size
                        have hg8b : g8 < w10.heap.size := HM.out.lt
                        have hg0b : g0 < w12.heap.size := HZ.out.lt
                        clear hm2 hb
                        by_cases hp0 : p = 0
                        · subst hp0
                          have HR := Lib.hid (hz1.trans (if_neg (fun h => h rfl)))
                          clear hz1
                          go_upto_region 27 with (refine wpList_store_en (by rfl) _ _ rfl g8 3 A12 T.length c12 rfl rfl 34 _ _ hk12 rfl ?_; intro w13 hk13 hg13 hs13; replace hk13 : Blk w13 g8 34 (Mm.cells ⟨k, 0, D, A12, T.length, c12, T⟩) := hk13)
                          clear hm2'
                          have hm2' : w13.cell? ⟨g8, 2, none⟩ = some (str D) := hk13.cell 2
                          go_wp2_with (first
                            | (refine wpList_store_st (by rfl) _ _ rfl g8 2 (D.take 128) rfl (by rw [HST.out]; rfl) 34 _ _ hk13 rfl ?_; intro w14 hk14 hg14 hs14; replace hk14 : Blk w14 g8 34 (Mm.cells ⟨k, 0, D.take 128, A12, T.length, c12, T⟩) := hk14; clear hm2')
                            | (refine wpList_load_blk (by rfl) 34 _ rfl g8 rfl 34 _ _ hk14 Tryd.underlying34 rfl (sizeMm _) ?_)
                            | (refine wpList_store_all (by rfl) 34 _ _ rfl g0 _ rfl rfl 34 _ ((HZ.out.grown hg13 (fun e => hg08 (by injection e))).grown hg14 (fun e => hg08 (by injection e))) (sizeMm _) rfl (oneMm _) ?_; intro w15 hk15 hg15 hs15))
                          have hs12 := HW.out.size
                          have hB15 : Below w.heap.size w w15 := bgrown (bgrown (bgrown HW.out hg13 hs12 hle8) hg14 (by omega) hle8) hg15 (by omega) (by have := HG.out; omega)
                          have hfar : ∀ g, blk A12 c12 = some g → w10.heap.size ≤ g := own_far4 hown
                          have hg0c : g0 < w10.heap.size := hg0w
                          have hown9 := ((hown.kept hg13 (fun g hg e => by injection e with e; have := hfar g hg; omega)).kept hg14 (fun g hg e => by injection e with e; have := hfar g hg; omega)).kept hg15 (fun g hg e => by injection e with e; have := hfar g hg; omega)
                          refine bodyPost_ret (results_cell2 rfl _ _ g0 _ _ _ rfl hk15 Tryd.underlying34 rfl (sizeMm _)) rfl ?_
                          exact ⟨⟨k, 0, D.take 128, A12, T.length, c12, T⟩, by rw [HR.out]; rfl, ⟨⟨by dsimp only; omega, by dsimp only; omega⟩, ⟨by dsimp only; omega, by dsimp only; omega⟩, by dsimp only; rw [List.length_take]; omega, hown9.row, hown9.le, hown9.cap, HFIT.out⟩, by rw [HR.out]; rfl, hB15⟩
                        · have hpn : (p != 0) = true := by simpa using hp0
                          have HR := Lib.hid (hz1.trans (if_pos hp0))
                          clear hz1 hm2' hk12
                          go_wp2_with (first
                            | (refine wpList_load_blk (by rfl) 34 _ rfl g1 rfl 34 _ _ HN.out Tryd.underlying34 rfl (sizeMm _) ?_)
                            | (refine wpList_store_all (by rfl) 34 _ _ rfl g0 Mm.zero.cells rfl rfl 34 _ HZ.out (sizeMm _) rfl (oneMm _) ?_; intro w99 hb9 hg9 hs9))
                          have hB9 : Below w.heap.size w w99 := bgrown HW.out hg9 HW.out.size (by have := HG.out; omega)
                          refine bodyPost_ret (results_cell2 rfl _ _ g0 _ _ _ rfl hb9 Tryd.underlying34 rfl (sizeMm Mm.zero)) rfl ?_
                          exact ⟨Mm.zero, by rw [HR.out]; rfl, Mm.zero_ok _, by rw [HR.out]; rfl, hB9⟩
                    · have hc4b : ((four : Int) == 268435456) = false := by simp; omega
                      have hfl : fullB k four = false := by
                        cases hB : fullB k four
                        · rfl
                        · exact absurd (hFull.1 hB).2 hc4
                      by_cases hc5 : four = 0
                      · have hc5b : ((four : Int) != 0) = false := by simp; omega
                        have hbk : badK k four = false := by
                          cases hB : badK k four
                          · rfl
                          · have := hBad.1 hB; omega
                        have hz := HRF.out
                        rw [hbk, hfl, hc1] at hz
                        simp only [Bool.false_or, ne_eq, not_true_eq_false, decide_false, Bool.false_eq_true, if_false] at hz
                        clear hbk hBad hFull hc2 hc1 hfl hc4 hc5
                        by_cases hL : 1240 < S.length
                        · have hL2 : (1232 : Int) < (D.length : Int) := by omega
                          have HR := Lib.hid (hz.trans (if_pos hL))
                          clear hz
                          go_wp2_with fail
                          refine (HGT.out w10).mono ?_
                          rintro e w11 ⟨rfl, rfl⟩
                          have hix := HB1.out
                          have hix2 := HU1.out
                          have hl1 : 1 < S.length := by omega
                          go_upto_region 19 with fail
                          clear hm0 hm2
                          go_wp2_with (first
                            | (refine wpList_load_blk (by rfl) 34 _ rfl g1 rfl 34 _ _ HN.out Tryd.underlying34 rfl (sizeMm _) ?_)
                            | (refine wpList_store_all (by rfl) 34 _ _ rfl g0 Mm.zero.cells rfl rfl 34 _ HZ.out (sizeMm _) rfl (oneMm _) ?_; intro w99 hb9 hg9 hs9))
                          have hB9 : Below w.heap.size w w99 := bgrown HW.out hg9 HW.out.size (by have := HG.out; omega)
                          refine bodyPost_ret (results_cell2 rfl _ _ g0 _ _ _ rfl hb9 Tryd.underlying34 rfl (sizeMm Mm.zero)) rfl ?_
                          exact ⟨Mm.zero, by rw [HR.out]; rfl, Mm.zero_ok _, by rw [HR.out]; rfl, hB9⟩
                        · have hL2 : ¬ (1232 : Int) < (D.length : Int) := by omega
                          have HR := Lib.hid (hz.trans (if_neg hL))
                          clear hz
                          go_wp2_with fail
                          refine (HGT.out w10).mono ?_
                          rintro e w11 ⟨rfl, rfl⟩
                          have hix := HB1.out
                          have hix2 := HU1.out
                          have hl1 : 1 < S.length := by omega
                          go_upto_region 21 with fail
                          clear hm0 hm2
                          have hM8 := HM.out
                          go_wp2_with (first
                            | (refine wpList_store_int (by rfl) _ _ rfl g8 1 (four : Int) rfl rfl 34 _ _ hM8 rfl ?_; intro w12 hk12 hg12 hs12; replace hk12 : Blk w12 g8 34 (Mm.cells ⟨k, (four : Int), D, none, 0, 0, []⟩) := hk12)
                            | (refine wpList_load_blk (by rfl) 34 _ rfl g8 rfl 34 _ _ hk12 Tryd.underlying34 rfl (sizeMm _) ?_)
                            | (refine wpList_store_all (by rfl) 34 _ _ rfl g0 _ rfl rfl 34 _ (HZ.out.grown hg12 (fun e => hg08 (by injection e))) (sizeMm _) rfl (oneMm _) ?_; intro w13 hb13 hg13 hs13))
                          have hB13 : Below w.heap.size w w13 := bgrown (bgrown HW.out hg12 HW.out.size hle8) hg13 (by have := HW.out.size; omega) (by have := HG.out; omega)
                          refine bodyPost_ret (results_cell2 rfl _ _ g0 _ _ _ rfl hb13 Tryd.underlying34 rfl (sizeMm _)) rfl ?_
                          exact ⟨⟨k, (four : Int), D, none, 0, 0, []⟩, by rw [HR.out]; rfl, ⟨⟨by dsimp only; omega, by dsimp only; omega⟩, ⟨by dsimp only; omega, by dsimp only; omega⟩, by dsimp only; omega, Row.nil _ _ _ _, Nat.le_refl _, Nat.zero_le _, by simp⟩, by rw [HR.out]; rfl, hB13⟩
                      · have hc5b : ((four : Int) != 0) = true := by simp; omega
                        have hbk : badK k four = true := hBad.2 (.inr (.inr ⟨hc2, hc4, hc5⟩))
                        have HR := Lib.hid (HRF.out.trans (if_pos (by rw [hbk]; rfl)))
                        clear hbk hBad hFull hc2 hc1 hfl hc4 hc5
                        go_wp2_with fail
                        refine (HGT.out w10).mono ?_
                        rintro e w11 ⟨rfl, rfl⟩
                        have hix := HB1.out
                        have hix2 := HU1.out
                        have hl1 : 1 < S.length := by omega
                        go_upto_region 17 with fail
                        clear hm0 hm2
                        go_wp2_with (first
                          | (refine wpList_load_blk (by rfl) 34 _ rfl g1 rfl 34 _ _ HN.out Tryd.underlying34 rfl (sizeMm _) ?_)
                          | (refine wpList_store_all (by rfl) 34 _ _ rfl g0 Mm.zero.cells rfl rfl 34 _ HZ.out (sizeMm _) rfl (oneMm _) ?_; intro w99 hb9 hg9 hs9))
                        have hB9 : Below w.heap.size w w99 := bgrown HW.out hg9 HW.out.size (by have := HG.out; omega)
                        refine bodyPost_ret (results_cell2 rfl _ _ g0 _ _ _ rfl hb9 Tryd.underlying34 rfl (sizeMm Mm.zero)) rfl ?_
                        exact ⟨Mm.zero, by rw [HR.out]; rfl, Mm.zero_ok _, by rw [HR.out]; rfl, hB9⟩
                · have hc1b : ((u1 : Int) != 0) = true := by simp; omega
                  have HR := Lib.hid (HRF.out.trans (if_pos (by rw [decide_eq_true hc1, Bool.or_true])))
                  clear hBad hFull hc1
                  by_cases hc2 : k = 1
                  · have hc2b : (k == 1) = true := by simp [hc2]
                    have hc2c : (k != 1) = false := by simp [hc2]
                    clear hc2
                    go_wp2_with fail
                    refine (HGT.out w10).mono ?_
                    rintro e w11 ⟨rfl, rfl⟩
                    have hix := HB1.out
                    have hix2 := HU1.out
                    have hl1 : 1 < S.length := by omega
                    go_upto_region 17 with fail
                    clear hm0 hm2
                    go_wp2_with (first
                      | (refine wpList_load_blk (by rfl) 34 _ rfl g1 rfl 34 _ _ HN.out Tryd.underlying34 rfl (sizeMm _) ?_)
                      | (refine wpList_store_all (by rfl) 34 _ _ rfl g0 Mm.zero.cells rfl rfl 34 _ HZ.out (sizeMm _) rfl (oneMm _) ?_; intro w99 hb9 hg9 hs9))
                    have hB9 : Below w.heap.size w w99 := bgrown HW.out hg9 HW.out.size (by have := HG.out; omega)
                    refine bodyPost_ret (results_cell2 rfl _ _ g0 _ _ _ rfl hb9 Tryd.underlying34 rfl (sizeMm Mm.zero)) rfl ?_
                    exact ⟨Mm.zero, by rw [HR.out]; rfl, Mm.zero_ok _, by rw [HR.out]; rfl, hB9⟩
                  · have hc2b : (k == 1) = false := by simpa using hc2
                    have hc2c : (k != 1) = true := by simpa using hc2
                    clear hc2
                    go_wp2_with fail
                    refine (HGT.out w10).mono ?_
                    rintro e w11 ⟨rfl, rfl⟩
                    have hix := HB1.out
                    have hix2 := HU1.out
                    have hl1 : 1 < S.length := by omega
                    go_upto_region 17 with fail
                    clear hm0 hm2
                    go_wp2_with (first
                      | (refine wpList_load_blk (by rfl) 34 _ rfl g1 rfl 34 _ _ HN.out Tryd.underlying34 rfl (sizeMm _) ?_)
                      | (refine wpList_store_all (by rfl) 34 _ _ rfl g0 Mm.zero.cells rfl rfl 34 _ HZ.out (sizeMm _) rfl (oneMm _) ?_; intro w99 hb9 hg9 hs9))
                    have hB9 : Below w.heap.size w w99 := bgrown HW.out hg9 HW.out.size (by have := HG.out; omega)
                    refine bodyPost_ret (results_cell2 rfl _ _ g0 _ _ _ rfl hb9 Tryd.underlying34 rfl (sizeMm Mm.zero)) rfl ?_
                    exact ⟨Mm.zero, by rw [HR.out]; rfl, Mm.zero_ok _, by rw [HR.out]; rfl, hB9⟩
        · rw [if_pos hsum] at hRF
          have hsum1 : ((rv : Int) != 65535) = true := by simp; omega
          have HR := Lib.hid hRF
          clear hsum hRF
          go_enter Tryd.func12, Tryd.ntmps12
          go_upto_region 1 with (refine wpList_alloc_blk (by rfl) 34 rfl Mm.zero.cells zeroMm ?_; intro w1 hb1 hB1 hs1)
          rw [hg0] at hb1
          try rw [hg0]
          have HZ := Lib.hid hb1
          have HW := Lib.hid hB1
          clear hb1 hB1 hs1
          go_upto_region 2 with (first
            | (refine wpList_alloc_blk (by rfl) 34 rfl Mm.zero.cells zeroMm ?_; intro w2 hb2 hB2 hs2)
            | (refine wpList_store_all (by rfl) 34 _ _ rfl w1.heap.size Mm.zero.cells rfl rfl 34 _ hb2 (sizeMm _) rfl (oneMm _) ?_; intro w3 hb3 hg3 hs3))
          obtain ⟨g1, hg1⟩ : ∃ g, w1.heap.size = g := ⟨_, rfl⟩
          have hne01 : g0 ≠ g1 := by have := HZ.out.lt; omega
          have hle1 : w.heap.size ≤ g1 := by rw [← hg1]; exact HW.out.size
          rw [hg1] at hb3 hg3
          try rw [hg1]
          have hB2w := bthen HW.out hB2
          replace HZ := Lib.hid ((HZ.out.on hB2).grown hg3 (fun e => hne01 (by injection e)))
          replace HW := Lib.hid (bgrown hB2w hg3 hB2w.size hle1)
          have HN := Lib.hid hb3
          clear hb2 hB2 hs2 hb3 hg3 hs3 hB2w
          go_wp2_with fail
          refine (HP.out w3).mono ?_
          rintro e w4 ⟨rfl, hb4⟩
          replace HZ := Lib.hid (HZ.out.on hb4)
          replace HN := Lib.hid (HN.out.on hb4)
          replace HW := Lib.hid (bthen HW.out hb4)
          clear hb4
          go_upto_region 3 with (first
            | (refine wpList_alloc_blk (by rfl) 58 rfl H6.zero.cells zero6 ?_; intro w5 hb5 hB5 hs5)
            | (refine wpList_store_all (by rfl) 58 _ _ rfl w4.heap.size h6.cells rfl rfl 58 _ hb5 (size6 _ HOK.out) (H6.cells_same _ _ HOK.out H0) (H6.one _) ?_; intro w6 hb6 hg6 hs6))
          obtain ⟨g2, hg2⟩ : ∃ g, w4.heap.size = g := ⟨_, rfl⟩
          have hne02 : g0 ≠ g2 := by have := HZ.out.lt; omega
          have hne12 : g1 ≠ g2 := by have := HN.out.lt; omega
          have hle2 : w.heap.size ≤ g2 := by rw [← hg2]; exact HW.out.size
          rw [hg2] at hb6 hg6
          try rw [hg2]
          have hB5w := bthen HW.out hB5
          replace HZ := Lib.hid ((HZ.out.on hB5).grown hg6 (fun e => hne02 (by injection e)))
          replace HN := Lib.hid ((HN.out.on hB5).grown hg6 (fun e => hne12 (by injection e)))
          replace HW := Lib.hid (bgrown hB5w hg6 hB5w.size hle2)
          have HK := Lib.hid hb6
          have hd3 : w6.cell? ⟨g2, 3, none⟩ = some (.int .u8 h6.next) := hb6.cell 3
          clear hb5 hB5 hs5 hb6 hg6 hs6 hB5w hg2 hg1
          go_wp2_with fail
          refine (BD.out w6).mono ?_
          rintro e w7 ⟨rfl, hb⟩
          replace HZ := Lib.hid (HZ.out.on hb)
          replace HN := Lib.hid (HN.out.on hb)
          replace HW := Lib.hid (bthen HW.out hb)
          replace HK := Lib.hid (HK.out.on hb)
          clear hd3 hb
          go_wp2_with fail
          refine wp_region_rel (fun A B => A.grownBy B none) (fun A => grown_refl A _) (fun A B C h k => grown_trans h k) (relAt (List.cons (fun v _ => v = .pointer (some ⟨g2, 5, none⟩)) (List.cons (fun v _ => v = .agg (bv h6.src).toArray) (List.cons (fun v _ => v = str h6.src) (List.cons (fun v _ => v = .pointer (some ⟨g2, 21, none⟩)) (List.cons (fun v _ => v = .agg (bv h6.dst).toArray) (List.cons (fun v _ => v = str h6.dst) (List.cons (fun v _ => v = str S) (List.cons (fun v _ => v = .int .i64 (S.length : Int)) (List.cons (fun v _ => v = str ps) (List.cons (fun v _ => v = str ps) ([])))))))))))) (MonoL.at_ (.cons (mono_val _) (.cons (mono_val _) (.cons (mono_val _) (.cons (mono_val _) (.cons (mono_val _) (.cons (mono_val _) (.cons (mono_val _) (.cons (mono_val _) (.cons (mono_val _) (.cons (mono_val _) .nil))))))))))) (by kernel_rfl) (by kernel_rfl) ⟨?_, ?_, ?_, ?_, ?_, ?_, ?_, ?_, ?_, ?_, trivial⟩ ?_
          · intro a vs W hX hR he hf K hK
            rw [if_pos (wanted_none rfl)]
            have e5 : a.eval (.tmp 5) = .pointer (some ⟨g2, 0, none⟩) := hf 5 (by kernel_rfl)
            refine wp_value (v := .pointer (some ⟨g2, 5, none⟩)) ?_ (hK _ _ rfl (grown_refl W _))
            simp only [execOp, e5]
            try go_simp
            try (first | rfl | omega | (simp only [IntKind.wrap_i64, IntKind.wrap_u8, IntKind.wrap_u64, IntKind.wrap_u16, IntKind.wrap_u32]; omega) | (rw [Int.tmod_eq_emod_of_nonneg (by omega)]) | (rw [Int.tmod_eq_emod_of_nonneg (by omega)]; omega))
          · intro a vs W hX hR he hf K hK
            rw [if_pos (wanted_none rfl)]
            have e34 : a.eval (.tmp 34) = .pointer (some ⟨g2, 5, none⟩) := (he 0 34 (by kernel_rfl) rfl).trans (hR 0 (by kernel_rfl))
            have hbW := bthen (below_drew _) (grow_below hX)
            have hr := (HK.out.on hbW).range 5 16
            rw [HS5.out] at hr
            exact wp_value (exec_load_mid 26 _ rfl g2 5 e34 _ _ hr Tryd.underlying26 rfl (size24 _ HOK.out.src)) (hK _ _ rfl (grown_refl W _))
          · intro a vs W hX hR he hf K hK
            rw [if_pos (wanted_none rfl)]
            have e35 : a.eval (.tmp 35) = .agg (bv h6.src).toArray := (he 1 35 (by kernel_rfl) rfl).trans (hR 1 (by kernel_rfl))
            refine wp_enter (f := 26) (args := #[.agg (bv h6.src).toArray]) (by simp only [execOp, e35]; go_simp; simpa [Act.eval] using e35) ((text_any h6.src W HOK.out.src).mono ?_)
            rintro e w' ⟨rfl, hb⟩
            exact ⟨_, rfl, hK _ _ rfl (below_grow hb _)⟩
          · intro a vs W hX hR he hf K hK
            rw [if_pos (wanted_none rfl)]
            have e5 : a.eval (.tmp 5) = .pointer (some ⟨g2, 0, none⟩) := hf 5 (by kernel_rfl)
            refine wp_value (v := .pointer (some ⟨g2, 21, none⟩)) ?_ (hK _ _ rfl (grown_refl W _))
            simp only [execOp, e5]
            try go_simp
            try (first | rfl | omega | (simp only [IntKind.wrap_i64, IntKind.wrap_u8, IntKind.wrap_u64, IntKind.wrap_u16, IntKind.wrap_u32]; omega) | (rw [Int.tmod_eq_emod_of_nonneg (by omega)]) | (rw [Int.tmod_eq_emod_of_nonneg (by omega)]; omega))
          · intro a vs W hX hR he hf K hK
            rw [if_pos (wanted_none rfl)]
            have e37 : a.eval (.tmp 37) = .pointer (some ⟨g2, 21, none⟩) := (he 3 37 (by kernel_rfl) rfl).trans (hR 3 (by kernel_rfl))
            have hbW := bthen (below_drew _) (grow_below hX)
            have hr := (HK.out.on hbW).range 21 16
            rw [HD21.out] at hr
            exact wp_value (exec_load_mid 26 _ rfl g2 21 e37 _ _ hr Tryd.underlying26 rfl (size24 _ HOK.out.dst)) (hK _ _ rfl (grown_refl W _))
          · intro a vs W hX hR he hf K hK
            rw [if_pos (wanted_none rfl)]
            have e38 : a.eval (.tmp 38) = .agg (bv h6.dst).toArray := (he 4 38 (by kernel_rfl) rfl).trans (hR 4 (by kernel_rfl))
            refine wp_enter (f := 26) (args := #[.agg (bv h6.dst).toArray]) (by simp only [execOp, e38]; go_simp; simpa [Act.eval] using e38) ((text_any h6.dst W HOK.out.dst).mono ?_)
            rintro e w' ⟨rfl, hb⟩
            exact ⟨_, rfl, hK _ _ rfl (below_grow hb _)⟩
          · intro a vs W hX hR he hf K hK
            rw [if_pos (wanted_none rfl)]
            have e7 : a.eval (.tmp 7) = str S := hf 7 (by kernel_rfl)
            refine wp_value (v := str S) ?_ (hK _ _ rfl (grown_refl W _))
            simp only [execOp, e7]
            try go_simp
            try (first | rfl | omega | (simp only [IntKind.wrap_i64, IntKind.wrap_u8, IntKind.wrap_u64, IntKind.wrap_u16, IntKind.wrap_u32]; omega) | (rw [Int.tmod_eq_emod_of_nonneg (by omega)]) | (rw [Int.tmod_eq_emod_of_nonneg (by omega)]; omega))
          · intro a vs W hX hR he hf K hK
            rw [if_pos (wanted_none rfl)]
            have e40 : a.eval (.tmp 40) = str S := (he 6 40 (by kernel_rfl) rfl).trans (hR 6 (by kernel_rfl))
            have f40 := e40
            simp only [Act.eval, Array.getD_eq_getD_getElem?] at f40
            refine wp_value (v := .int .i64 (S.length : Int)) ?_ (hK _ _ rfl (grown_refl W _))
            simp only [execOp, e40]
            try go_simp
            try (first | rfl | omega | (simp only [IntKind.wrap_i64, IntKind.wrap_u8, IntKind.wrap_u64, IntKind.wrap_u16, IntKind.wrap_u32]; omega) | (rw [Int.tmod_eq_emod_of_nonneg (by omega)]) | (rw [Int.tmod_eq_emod_of_nonneg (by omega)]; omega))
          · intro a vs W hX hR he hf K hK
            rw [if_pos (wanted_none rfl)]
            have e36 : a.eval (.tmp 36) = str h6.src := (he 2 36 (by kernel_rfl) rfl).trans (hR 2 (by kernel_rfl))
            have e39 : a.eval (.tmp 39) = str h6.dst := (he 5 39 (by kernel_rfl) rfl).trans (hR 5 (by kernel_rfl))
            have e41 : a.eval (.tmp 41) = .int .i64 (S.length : Int) := (he 7 41 (by kernel_rfl) rfl).trans (hR 7 (by kernel_rfl))
            refine wp_enter (f := 25) (args := #[str h6.src, str h6.dst, .int .i64 58, .int .i64 (S.length : Int)]) (by simp only [execOp, e36, e39, e41]; go_simp; exact ⟨by simpa [Act.eval] using e36, by simpa [Act.eval] using e39, by simpa [Act.eval] using e41⟩) ((rpseudo_any h6.src h6.dst 58 (S.length : Int) W (by have := HOK.out.src; omega) (by have := HOK.out.dst; omega) (by omega) (by omega) (by omega) (by omega)).mono ?_)
            rintro e w' ⟨rfl, hb⟩
            exact ⟨_, rfl, hK _ _ (congrArg (fun z => str z) HPS.out) (below_grow hb _)⟩
          · intro a vs W hX hR he hf K hK
            rw [if_pos (wanted_none rfl)]
            have e42 : a.eval (.tmp 42) = str ps := (he 8 42 (by kernel_rfl) rfl).trans (hR 8 (by kernel_rfl))
            refine wp_value (v := str ps) ?_ (hK _ _ rfl (grown_refl W _))
            simp only [execOp, e42]
            try go_simp
            try (first | rfl | omega | (simp only [IntKind.wrap_i64, IntKind.wrap_u8, IntKind.wrap_u64, IntKind.wrap_u16, IntKind.wrap_u32]; omega) | (rw [Int.tmod_eq_emod_of_nonneg (by omega)]) | (rw [Int.tmod_eq_emod_of_nonneg (by omega)]; omega))
          · intro vs w8 hX8 hR
            have q0 := hR 0 (by decide)
            have q1 := hR 1 (by decide)
            have q2 := hR 2 (by decide)
            have q3 := hR 3 (by decide)
            have q4 := hR 4 (by decide)
            have q5 := hR 5 (by decide)
            have q6 := hR 6 (by decide)
            have q7 := hR 7 (by decide)
            have q8 := hR 8 (by decide)
            have q9 := hR 9 (by decide)
            change vs 0 = .pointer (some ⟨g2, 5, none⟩) at q0
            change vs 1 = .agg (bv h6.src).toArray at q1
            change vs 2 = str h6.src at q2
            change vs 3 = .pointer (some ⟨g2, 21, none⟩) at q3
            change vs 4 = .agg (bv h6.dst).toArray at q4
            change vs 5 = str h6.dst at q5
            change vs 6 = str S at q6
            change vs 7 = .int .i64 (S.length : Int) at q7
            change vs 8 = str ps at q8
            change vs 9 = str ps at q9
            simp only [putAll, Act.put, List.setIfInBounds_toArray, List.set_cons_zero, List.set_cons_succ, q0, q1, q2, q3, q4, q5, q6, q7, q8, q9]
            clear q0 q1 q2 q3 q4 q5 q6 q7 q8 q9
            clear hR
            have hb := bthen (below_drew _) (grow_below hX8)
            replace HZ := Lib.hid (HZ.out.on hb)
            replace HN := Lib.hid (HN.out.on hb)
            replace HW := Lib.hid (bthen HW.out hb)
            clear hX8 hb HK
            go_wp2_with (refine wpList_value (by rfl) (exec_add _ _ _ _ rfl Tryd.underlying9 ps S rfl rfl (by omega)) ?_)
            refine (HRW.out w8).mono ?_
            rintro e w9 ⟨rfl, rfl⟩
            go_wp2_with (first
              | (refine wpList_load_blk (by rfl) 34 _ rfl g1 rfl 34 _ _ HN.out Tryd.underlying34 rfl (sizeMm _) ?_)
              | (refine wpList_store_all (by rfl) 34 _ _ rfl g0 Mm.zero.cells rfl rfl 34 _ HZ.out (sizeMm _) rfl (oneMm _) ?_; intro w99 hb9 hg9 hs9))
            have hB9 : Below w.heap.size w w99 := bgrown HW.out hg9 HW.out.size (by have := HG.out; omega)
            refine bodyPost_ret (results_cell2 rfl _ _ g0 _ _ _ rfl hb9 Tryd.underlying34 rfl (sizeMm Mm.zero)) rfl ?_
            exact ⟨Mm.zero, by rw [HR.out]; rfl, Mm.zero_ok _, by rw [HR.out]; rfl, hB9⟩
    · have hnx1 : (h6.next != 58) = true := by simpa using hnx
      rw [if_pos hnx] at hRF
      have HR := Lib.hid hRF
      clear hRF hnx
      go_enter Tryd.func12, Tryd.ntmps12
      go_upto_region 1 with (refine wpList_alloc_blk (by rfl) 34 rfl Mm.zero.cells zeroMm ?_; intro w1 hb1 hB1 hs1)
      rw [hg0] at hb1
      try rw [hg0]
      have HZ := Lib.hid hb1
      have HW := Lib.hid hB1
      clear hb1 hB1 hs1
      go_upto_region 2 with (first
        | (refine wpList_alloc_blk (by rfl) 34 rfl Mm.zero.cells zeroMm ?_; intro w2 hb2 hB2 hs2)
        | (refine wpList_store_all (by rfl) 34 _ _ rfl w1.heap.size Mm.zero.cells rfl rfl 34 _ hb2 (sizeMm _) rfl (oneMm _) ?_; intro w3 hb3 hg3 hs3))
      obtain ⟨g1, hg1⟩ : ∃ g, w1.heap.size = g := ⟨_, rfl⟩
      have hne01 : g0 ≠ g1 := by have := HZ.out.lt; omega
      have hle1 : w.heap.size ≤ g1 := by rw [← hg1]; exact HW.out.size
      rw [hg1] at hb3 hg3
      try rw [hg1]
      have hB2w := bthen HW.out hB2
      replace HZ := Lib.hid ((HZ.out.on hB2).grown hg3 (fun e => hne01 (by injection e)))
      replace HW := Lib.hid (bgrown hB2w hg3 hB2w.size hle1)
      have HN := Lib.hid hb3
      clear hb2 hB2 hs2 hb3 hg3 hs3 hB2w
      go_wp2_with fail
      refine (HP.out w3).mono ?_
      rintro e w4 ⟨rfl, hb4⟩
      replace HZ := Lib.hid (HZ.out.on hb4)
      replace HN := Lib.hid (HN.out.on hb4)
      replace HW := Lib.hid (bthen HW.out hb4)
      clear hb4
      go_upto_region 3 with (first
        | (refine wpList_alloc_blk (by rfl) 58 rfl H6.zero.cells zero6 ?_; intro w5 hb5 hB5 hs5)
        | (refine wpList_store_all (by rfl) 58 _ _ rfl w4.heap.size h6.cells rfl rfl 58 _ hb5 (size6 _ HOK.out) (H6.cells_same _ _ HOK.out H0) (H6.one _) ?_; intro w6 hb6 hg6 hs6))
      obtain ⟨g2, hg2⟩ : ∃ g, w4.heap.size = g := ⟨_, rfl⟩
      have hne02 : g0 ≠ g2 := by have := HZ.out.lt; omega
      have hne12 : g1 ≠ g2 := by have := HN.out.lt; omega
      have hle2 : w.heap.size ≤ g2 := by rw [← hg2]; exact HW.out.size
      rw [hg2] at hb6 hg6
      try rw [hg2]
      have hB5w := bthen HW.out hB5
      replace HZ := Lib.hid ((HZ.out.on hB5).grown hg6 (fun e => hne02 (by injection e)))
      replace HN := Lib.hid ((HN.out.on hB5).grown hg6 (fun e => hne12 (by injection e)))
      replace HW := Lib.hid (bgrown hB5w hg6 hB5w.size hle2)
      have HK := Lib.hid hb6
      have hd3 : w6.cell? ⟨g2, 3, none⟩ = some (.int .u8 h6.next) := hb6.cell 3
      clear hb5 hB5 hs5 hb6 hg6 hs6 hB5w hg2 hg1
      go_wp2_with (first
        | (refine wpList_load_blk (by rfl) 34 _ rfl g1 rfl 34 _ _ HN.out Tryd.underlying34 rfl (sizeMm _) ?_)
        | (refine wpList_store_all (by rfl) 34 _ _ rfl g0 Mm.zero.cells rfl rfl 34 _ HZ.out (sizeMm _) rfl (oneMm _) ?_; intro w99 hb9 hg9 hs9))
      have hB9 : Below w.heap.size w w99 := bgrown HW.out hg9 HW.out.size (by have := HG.out; omega)
      refine bodyPost_ret (results_cell2 rfl _ _ g0 _ _ _ rfl hb9 Tryd.underlying34 rfl (sizeMm Mm.zero)) rfl ?_
      exact ⟨Mm.zero, by rw [HR.out]; rfl, Mm.zero_ok _, by rw [HR.out]; rfl, hB9⟩
  · have hne : (er != 0) = true := by simpa using he
    rw [if_pos he] at hRF
    have HR := Lib.hid hRF
    clear hRF he
    go_enter Tryd.func12, Tryd.ntmps12
    go_upto_region 1 with (refine wpList_alloc_blk (by rfl) 34 rfl Mm.zero.cells zeroMm ?_; intro w1 hb1 hB1 hs1)
    rw [hg0] at hb1
    try rw [hg0]
    have HZ := Lib.hid hb1
    have HW := Lib.hid hB1
    clear hb1 hB1 hs1
    go_upto_region 2 with (first
      | (refine wpList_alloc_blk (by rfl) 34 rfl Mm.zero.cells zeroMm ?_; intro w2 hb2 hB2 hs2)
      | (refine wpList_store_all (by rfl) 34 _ _ rfl w1.heap.size Mm.zero.cells rfl rfl 34 _ hb2 (sizeMm _) rfl (oneMm _) ?_; intro w3 hb3 hg3 hs3))
    obtain ⟨g1, hg1⟩ : ∃ g, w1.heap.size = g := ⟨_, rfl⟩
    have hne01 : g0 ≠ g1 := by have := HZ.out.lt; omega
    have hle1 : w.heap.size ≤ g1 := by rw [← hg1]; exact HW.out.size
    rw [hg1] at hb3 hg3
    try rw [hg1]
    have hB2w := bthen HW.out hB2
    replace HZ := Lib.hid ((HZ.out.on hB2).grown hg3 (fun e => hne01 (by injection e)))
    replace HW := Lib.hid (bgrown hB2w hg3 hB2w.size hle1)
    have HN := Lib.hid hb3
    clear hb2 hB2 hs2 hb3 hg3 hs3 hB2w
    go_wp2_with fail
    refine (HP.out w3).mono ?_
    rintro e w4 ⟨rfl, hb4⟩
    replace HZ := Lib.hid (HZ.out.on hb4)
    replace HN := Lib.hid (HN.out.on hb4)
    replace HW := Lib.hid (bthen HW.out hb4)
    clear hb4
    go_upto_region 3 with (first
      | (refine wpList_alloc_blk (by rfl) 58 rfl H6.zero.cells zero6 ?_; intro w5 hb5 hB5 hs5)
      | (refine wpList_store_all (by rfl) 58 _ _ rfl w4.heap.size h6.cells rfl rfl 58 _ hb5 (size6 _ HOK.out) (H6.cells_same _ _ HOK.out H0) (H6.one _) ?_; intro w6 hb6 hg6 hs6))
    obtain ⟨g2, hg2⟩ : ∃ g, w4.heap.size = g := ⟨_, rfl⟩
    have hne02 : g0 ≠ g2 := by have := HZ.out.lt; omega
    have hne12 : g1 ≠ g2 := by have := HN.out.lt; omega
    have hle2 : w.heap.size ≤ g2 := by rw [← hg2]; exact HW.out.size
    rw [hg2] at hb6 hg6
    try rw [hg2]
    have hB5w := bthen HW.out hB5
    replace HZ := Lib.hid ((HZ.out.on hB5).grown hg6 (fun e => hne02 (by injection e)))
    replace HN := Lib.hid ((HN.out.on hB5).grown hg6 (fun e => hne12 (by injection e)))
    replace HW := Lib.hid (bgrown hB5w hg6 hB5w.size hle2)
    have HK := Lib.hid hb6
    have hd3 : w6.cell? ⟨g2, 3, none⟩ = some (.int .u8 h6.next) := hb6.cell 3
    clear hb5 hB5 hs5 hb6 hg6 hs6 hB5w hg2 hg1
    go_wp2_with (first
      | (refine wpList_load_blk (by rfl) 34 _ rfl g1 rfl 34 _ _ HN.out Tryd.underlying34 rfl (sizeMm _) ?_)
      | (refine wpList_store_all (by rfl) 34 _ _ rfl g0 Mm.zero.cells rfl rfl 34 _ HZ.out (sizeMm _) rfl (oneMm _) ?_; intro w99 hb9 hg9 hs9))
    have hB9 : Below w.heap.size w w99 := bgrown HW.out hg9 HW.out.size (by have := HG.out; omega)
    refine bodyPost_ret (results_cell2 rfl _ _ g0 _ _ _ rfl hb9 Tryd.underlying34 rfl (sizeMm Mm.zero)) rfl ?_
    exact ⟨Mm.zero, by rw [HR.out]; rfl, Mm.zero_ok _, by rw [HR.out]; rfl, hB9⟩
end Go.Proofs.YtbcjkjmjljfhpaaDoor


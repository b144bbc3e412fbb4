/- The walk of layer 17 (flow): Apart. No condition but those of the rows. -/
import Derived.Test.YthjjcglheialfaaLaw17
import Derived.Test.YthjjcglheialfaaOpenKey
import Derived.Test.YthjjcglheialfaaPlain17
import Derived.Deep.DeepCutAuto
namespace Go.Proofs.Ythjjcglheialfaa
open Go.RowKit
set_option linter.unusedVariables false
set_option maxRecDepth 20000
set_option linter.unusedSimpArgs false

theorem i64_mask16 (x : Int) : bits .and .i64 x 65535 = x % 65536 := by
  have hm : (BitVec.ofInt 64 65535).toNat = 2 ^ 16 - 1 := by decide
  have key : (BitVec.ofInt 64 x &&& BitVec.ofInt 64 65535).toNat = (x % ((2 ^ 64 : Nat) : Int)).toNat % 2 ^ 16 := by
    rw [BitVec.toNat_and, BitVec.toNat_ofInt, hm, Nat.and_two_pow_sub_one_eq_mod]
  show IntKind.i64.wrap ((BitVec.ofInt 64 x &&& BitVec.ofInt 64 65535).toNat : Nat) = _
  rw [key, IntKind.wrap_i64]
  omega
theorem beqd (x y : Int) : (x == y) = decide (x = y) := rfl
theorem exec_eqS {w : World} {o : Oper} {c : Act} (x y : Operand) (ty : TypeId) (ho : o.op = .binOp .eql 9 x y ty) (s t : List UInt8) (r : Bool) (hr : decide (s = t) = r) (hx : c.eval x = str s) (hy : c.eval y = str t) : (execOp c.eval o).run Try.prog w = .ok (.value (.bool r)) w := by
  subst hr
  unfold execOp
  simp only [ho, hx, hy]
  by_cases h : s = t
  · subst h
    go_simp
  · go_simp
theorem getSrc (k : Ky) (hk : k.ok) (i : Nat) (hi : i < 16) : k.cells[1 + i]? = (bv k.src)[i]? := by
  unfold Ky.cells
  rw [Nat.add_comm, List.getElem?_cons_succ, List.getElem?_append_left (by rw [bv_length, hk.src]; exact hi)]
theorem getDst (k : Ky) (hk : k.ok) (i : Nat) (hi : i < 16) : k.cells[17 + i]? = (bv k.dst)[i]? := by
  unfold Ky.cells
  rw [show 17 + i = (16 + i) + 1 by omega, List.getElem?_cons_succ, List.getElem?_append_right (by rw [bv_length, hk.src]; omega), bv_length, hk.src, show 16 + i - 16 = i by omega, List.getElem?_append_left (by rw [bv_length, hk.dst]; exact hi)]
def acc4 (a b : Ky) (k : Nat) : Bool := decide (a.src.take k = b.src.take k) && decide (a.dst.take k = b.dst.take k)
theorem take_eq_succ (s t : List UInt8) (k : Nat) (u v : UInt8) (hs : s[k]? = some u) (ht : t[k]? = some v) : decide (s.take (k + 1) = t.take (k + 1)) = (decide (s.take k = t.take k) && ((u.toNat : Int) == (v.toNat : Int))) := by
  have hk : k < s.length := (List.getElem?_eq_some_iff.1 hs).1
  have hk2 : k < t.length := (List.getElem?_eq_some_iff.1 ht).1
  rw [List.take_add_one, List.take_add_one, hs, ht]
  simp only [Option.toList_some]
  by_cases h : s.take k = t.take k
  · rw [h]
    by_cases huv : u = v
    · subst huv; simp
    · have hne : ¬ ((u.toNat : Int) = (v.toNat : Int)) := by
        intro h2
        exact huv (UInt8.toNat_inj.1 (by omega))
      simp [huv, hne]
  · have : ¬ (s.take k ++ [u] = t.take k ++ [v]) := by
      intro h2
      exact h (List.append_inj h2 (by simp; omega)).1
    simp [h, this]
theorem acc4_succ (a b : Ky) (k : Nat) (u v x y : UInt8) (hs : a.src[k]? = some u) (ht : b.src[k]? = some v) (hp : a.dst[k]? = some x) (hq : b.dst[k]? = some y) :
    acc4 a b (k + 1) = (acc4 a b k && ((u.toNat : Int) == (v.toNat : Int)) && ((x.toNat : Int) == (y.toNat : Int))) := by
  unfold acc4
  rw [take_eq_succ _ _ k u v hs ht, take_eq_succ _ _ k x y hp hq]
  cases decide (a.src.take k = b.src.take k) <;> cases decide (a.dst.take k = b.dst.take k) <;> simp
theorem exec_eqA16 {w : World} {o : Oper} {c : Act} (x y : Operand) (ty : TypeId) (ho : o.op = .binOp .eql 24 x y ty) (s t : List UInt8) (hs : s.length = 16) (ht : t.length = 16) (r : Bool) (hr : (s == t) = r) (hx : c.eval x = .agg (bv s).toArray) (hy : c.eval y = .agg (bv t).toArray) : (execOp c.eval o).run Try.prog w = .ok (.value (.bool r)) w := by
  have h1 := run_equalIn_bytes (P := Try.prog) w 9998 24 5 16 Try.underlying24 Try.underlying5 (fun w => by kernel_rfl) s t hs ht
  have h2 : (Op.equalIn 10000 24 (.agg (bv s).toArray) (.agg (bv t).toArray)).run Try.prog w = .ok r w := by rw [← hr]; exact h1
  unfold execOp
  simp only [ho, hx, hy, Sem.run_bind, run_eqGuard_agg w .eql 24 x y _ _ (show Try.prog.eqGuardType Try.prog.depth 24 = false by kernel_rfl), run_eql_struct, h2, Result.andThen_ok]
  rfl
set_option maxHeartbeats 4000000 in
theorem walk_FlowApart (w : World) (a b : Ky) (ha : a.fit) (hb : b.fit) :
    Calls Try.prog 6 #[.agg a.cells.toArray, .agg b.cells.toArray] w fun e w' => e = .returned (.bool true) ∧ Below w.heap.size w w' := by
  have HA := Lib.hid ha
  have HB := Lib.hid hb
  clear ha hb
  go_enter Try.func6, Try.ntmps6
  go_wp2_with (first
    | (refine wpList_box_blk rfl 26 _ rfl a.cells rfl ?_; intro w1 hp1 hB1 hs1)
    | (refine wpList_box_blk rfl 26 _ rfl b.cells rfl ?_; intro w2 hq2 hB2 hs2))
  have hp2 := hp1.on hB2
  have hB12 := bthen hB1 hB2
  obtain ⟨ga, hga⟩ : ∃ g, g = w.heap.size := ⟨_, rfl⟩
  obtain ⟨gb, hgb⟩ : ∃ g, g = w.heap.size + 1 := ⟨_, rfl⟩
  rw [← hga] at hp2
  rw [hs1, ← hgb] at hq2
  refine (awake_any w2).mono ?_
  rintro e w3 ⟨rfl, hb3⟩
  have HW := Lib.hid (bthen hB12 hb3)
  have HP := Lib.hid (hp2.on hb3)
  have HQ := Lib.hid (hq2.on hb3)
  clear hp1 hB1 hq2 hB2 hs2 hp2 hB12 hb3
  have hpa := HP.out.range 1 16
  rw [a.drop_src HA.out.ok] at hpa
  have hpd := HP.out.range 17 16
  rw [a.drop_dst HA.out.ok] at hpd
  have hqa := HQ.out.range 1 16
  rw [b.drop_src HB.out.ok] at hqa
  have hqd := HQ.out.range 17 16
  rw [b.drop_dst HB.out.ok] at hqd
  have HPA := Lib.hid hpa
  have HPD := Lib.hid hpd
  have HQA := Lib.hid hqa
  have HQD := Lib.hid hqd
  rw [← hgb, ← hga]
  clear hpa hpd hqa hqd hs1
  have HGA := Lib.hid hga
  have HGB := Lib.hid hgb
  clear hga hgb
  go_upto_region 4 with fail
  go_cut [6] (fun c wx => c = .bool (decide (a.src = b.src) && decide (a.dst = b.dst)) ∧ w3 = wx)
  case first =>
    by_cases h1 : a.src = b.src
    · have h1' : (a.src == b.src) = true := by simpa using h1
      by_cases h2 : a.dst = b.dst
      · have h2' : (a.dst == b.dst) = true := by simpa using h2
        have k1 : (decide (a.src = b.src) && decide (a.dst = b.dst)) = true := by simp [h1, h2]
        have K1 := Lib.hid h1'
        have K2 := Lib.hid h2'
        clear h1' h2' h1 h2
        have K := Lib.hid k1
        clear k1
        go_wp2_with (first
          | (refine wpList_value (by rfl) (exec_load_mid 24 _ rfl ga 1 rfl _ _ HPA.out Try.underlying24 rfl (size24 _ HA.out.ok.src)) ?_)
          | (refine wpList_value (by rfl) (exec_load_mid 24 _ rfl ga 17 rfl _ _ HPD.out Try.underlying24 rfl (size24 _ HA.out.ok.dst)) ?_)
          | (refine wpList_value (by rfl) (exec_load_mid 24 _ rfl gb 1 rfl _ _ HQA.out Try.underlying24 rfl (size24 _ HB.out.ok.src)) ?_)
          | (refine wpList_value (by rfl) (exec_load_mid 24 _ rfl gb 17 rfl _ _ HQD.out Try.underlying24 rfl (size24 _ HB.out.ok.dst)) ?_)
          | (refine wpList_value (by rfl) (exec_eqA16 _ _ _ rfl a.src b.src HA.out.ok.src HB.out.ok.src _ K1.out rfl rfl) ?_)
          | (refine wpList_value (by rfl) (exec_eqA16 _ _ _ rfl a.dst b.dst HA.out.ok.dst HB.out.ok.dst _ K2.out rfl rfl) ?_))
        go_meet
        exact ⟨by rw [K.out], rfl⟩
      · have h2' : (a.dst == b.dst) = false := by simpa using h2
        have k1 : (decide (a.src = b.src) && decide (a.dst = b.dst)) = false := by simp [h1, h2]
        have K1 := Lib.hid h1'
        have K2 := Lib.hid h2'
        clear h1' h2' h1 h2
        have K := Lib.hid k1
        clear k1
        go_wp2_with (first
          | (refine wpList_value (by rfl) (exec_load_mid 24 _ rfl ga 1 rfl _ _ HPA.out Try.underlying24 rfl (size24 _ HA.out.ok.src)) ?_)
          | (refine wpList_value (by rfl) (exec_load_mid 24 _ rfl ga 17 rfl _ _ HPD.out Try.underlying24 rfl (size24 _ HA.out.ok.dst)) ?_)
          | (refine wpList_value (by rfl) (exec_load_mid 24 _ rfl gb 1 rfl _ _ HQA.out Try.underlying24 rfl (size24 _ HB.out.ok.src)) ?_)
          | (refine wpList_value (by rfl) (exec_load_mid 24 _ rfl gb 17 rfl _ _ HQD.out Try.underlying24 rfl (size24 _ HB.out.ok.dst)) ?_)
          | (refine wpList_value (by rfl) (exec_eqA16 _ _ _ rfl a.src b.src HA.out.ok.src HB.out.ok.src _ K1.out rfl rfl) ?_)
          | (refine wpList_value (by rfl) (exec_eqA16 _ _ _ rfl a.dst b.dst HA.out.ok.dst HB.out.ok.dst _ K2.out rfl rfl) ?_))
        go_meet
        exact ⟨by rw [K.out], rfl⟩
    · have h1' : (a.src == b.src) = false := by simpa using h1
      have h2' : True := trivial
      have k1 : (decide (a.src = b.src) && decide (a.dst = b.dst)) = false := by simp [h1]
      have K1 := Lib.hid h1'
      have K2 := Lib.hid h2'
      clear h1' h2' h1
      have K := Lib.hid k1
      clear k1
      go_wp2_with (first
        | (refine wpList_value (by rfl) (exec_load_mid 24 _ rfl ga 1 rfl _ _ HPA.out Try.underlying24 rfl (size24 _ HA.out.ok.src)) ?_)
        | (refine wpList_value (by rfl) (exec_load_mid 24 _ rfl ga 17 rfl _ _ HPD.out Try.underlying24 rfl (size24 _ HA.out.ok.dst)) ?_)
        | (refine wpList_value (by rfl) (exec_load_mid 24 _ rfl gb 1 rfl _ _ HQA.out Try.underlying24 rfl (size24 _ HB.out.ok.src)) ?_)
        | (refine wpList_value (by rfl) (exec_load_mid 24 _ rfl gb 17 rfl _ _ HQD.out Try.underlying24 rfl (size24 _ HB.out.ok.dst)) ?_)
        | (refine wpList_value (by rfl) (exec_eqA16 _ _ _ rfl a.src b.src HA.out.ok.src HB.out.ok.src _ K1.out rfl rfl) ?_))
      go_meet
      exact ⟨by rw [K.out], rfl⟩
  case rest =>
    obtain ⟨hu6, hw⟩ := hcut
    subst hu6
    subst hw
    obtain ⟨A0, hA0⟩ : ∃ A0, A0 = a.six := ⟨_, rfl⟩
    obtain ⟨B0, hB0⟩ : ∃ B0, B0 = b.six := ⟨_, rfl⟩
    have c0 : w3.cell? ⟨ga, 0, none⟩ = some (.bool A0) := by rw [hA0]; exact HP.out.cell 0
    have d0 : w3.cell? ⟨gb, 0, none⟩ = some (.bool B0) := by rw [hB0]; exact HQ.out.cell 0
    have c33 : w3.cell? ⟨ga, 33, none⟩ = some (.int .u8 a.pro) := (HP.out.cell 33).trans (a.get_tail HA.out.ok 0)
    have c34 : w3.cell? ⟨ga, 34, none⟩ = some (.int .i64 a.fr) := (HP.out.cell 34).trans (a.get_tail HA.out.ok 1)
    have c35 : w3.cell? ⟨ga, 35, none⟩ = some (.int .i64 a.to) := (HP.out.cell 35).trans (a.get_tail HA.out.ok 2)
    have d33 : w3.cell? ⟨gb, 33, none⟩ = some (.int .u8 b.pro) := (HQ.out.cell 33).trans (b.get_tail HB.out.ok 0)
    have d34 : w3.cell? ⟨gb, 34, none⟩ = some (.int .i64 b.fr) := (HQ.out.cell 34).trans (b.get_tail HB.out.ok 1)
    have d35 : w3.cell? ⟨gb, 35, none⟩ = some (.int .i64 b.to) := (HQ.out.cell 35).trans (b.get_tail HB.out.ok 2)
    have HA0 := Lib.hid hA0
    have HB0 := Lib.hid hB0
    clear hA0 hB0
    have km := i64_mask16
    cases A0
    · go_wp2_with fail
      go_loopw [6, 7] (fun s i wr => ∃ k : Nat, k ≤ 4 ∧ i = .int .i64 k ∧ s = .bool (acc4 a b k) ∧ ∃ d, wr = w3.drewN d) (fun _ i _ => 4 - (intOf i).toNat)
      case atStart => exact ⟨0, by omega, rfl, rfl, 0, rfl⟩
      case round =>
        obtain ⟨k, hk, rfl, rfl, d, rfl⟩ := hrel
        by_cases hlt : k < 4
        · obtain ⟨u, hu⟩ := get_ex a.src (k := k) (by rw [HA.out.ok.src]; omega)
          obtain ⟨v, hv⟩ := get_ex b.src (k := k) (by rw [HB.out.ok.src]; omega)
          obtain ⟨x, hx⟩ := get_ex a.dst (k := k) (by rw [HA.out.ok.dst]; omega)
          obtain ⟨y, hy⟩ := get_ex b.dst (k := k) (by rw [HB.out.ok.dst]; omega)
          have e1 : w3.cell? ⟨ga, 1 + k, none⟩ = some (.int .u8 (u.toNat : Int)) := (HP.out.cell _).trans ((getSrc a HA.out.ok k (by omega)).trans (bv_get _ k u hu))
          have e2 : w3.cell? ⟨gb, 1 + k, none⟩ = some (.int .u8 (v.toNat : Int)) := (HQ.out.cell _).trans ((getSrc b HB.out.ok k (by omega)).trans (bv_get _ k v hv))
          have e3 : w3.cell? ⟨ga, 17 + k, none⟩ = some (.int .u8 (x.toNat : Int)) := (HP.out.cell _).trans ((getDst a HA.out.ok k (by omega)).trans (bv_get _ k x hx))
          have e4 : w3.cell? ⟨gb, 17 + k, none⟩ = some (.int .u8 (y.toNat : Int)) := (HQ.out.cell _).trans ((getDst b HB.out.ok k (by omega)).trans (bv_get _ k y hy))
          have hs := acc4_succ a b k u v x y hu hv hx hy
          obtain ⟨P0, hP0⟩ : ∃ P, P = acc4 a b k := ⟨_, rfl⟩
          obtain ⟨P1, hP1⟩ : ∃ P, P = ((u.toNat : Int) == (v.toNat : Int)) := ⟨_, rfl⟩
          obtain ⟨P2, hP2⟩ : ∃ P, P = ((x.toNat : Int) == (y.toNat : Int)) := ⟨_, rfl⟩
          rw [← hP0, ← hP1, ← hP2] at hs
          rw [← hP0]
          have HS := Lib.hid hs
          clear hs hu hv hx hy hP0
          cases P0 <;> cases P1 <;> cases P2
          all_goals
            have f1 := hP1.symm
            have f2 := hP2.symm
            clear hP1 hP2
            go_wp2_with fail
            go_quiet (fail)
            go_wp2_with fail
            all_goals (go_roundw; (case rel => exact ⟨k + 1, by omega, by simp, by rw [HS.out]; rfl, d + nq, rfl⟩); (case measure => simp [intOf]; omega))
        · have hk4 : k = 4 := by omega
          subst hk4
          obtain ⟨X, hX⟩ : ∃ X, X = acc4 a b 4 := ⟨_, rfl⟩
          rw [← hX]
          have HX : Hid (addrF a b = X) := Lib.hid (by unfold addrF; rw [← HA0.out, hX]; rfl)
          clear hX
          obtain ⟨w6, hw6⟩ : ∃ x, x = w3.drewN d := ⟨_, rfl⟩
          have hb6 : Below w3.heap.size w3 w6 := by rw [hw6]; exact below_drewN (Below.refl _ _) d
          rw [← hw6]
          replace HP := Lib.hid (HP.out.on hb6)
          replace HQ := Lib.hid (HQ.out.on hb6)
          replace HW := Lib.hid (bthen HW.out hb6)
          clear hb6 hw6 c0 c33 c34 c35 d0 d33 d34 d35 HPA HPD HQA HQD
          have c0 : w6.cell? ⟨ga, 0, none⟩ = some (.bool false) := by rw [HA0.out]; exact HP.out.cell 0
          have d0 : w6.cell? ⟨gb, 0, none⟩ = some (.bool B0) := by rw [HB0.out]; exact HQ.out.cell 0
          have c33 : w6.cell? ⟨ga, 33, none⟩ = some (.int .u8 a.pro) := (HP.out.cell 33).trans (a.get_tail HA.out.ok 0)
          have c34 : w6.cell? ⟨ga, 34, none⟩ = some (.int .i64 a.fr) := (HP.out.cell 34).trans (a.get_tail HA.out.ok 1)
          have c35 : w6.cell? ⟨ga, 35, none⟩ = some (.int .i64 a.to) := (HP.out.cell 35).trans (a.get_tail HA.out.ok 2)
          have d33 : w6.cell? ⟨gb, 33, none⟩ = some (.int .u8 b.pro) := (HQ.out.cell 33).trans (b.get_tail HB.out.ok 0)
          have d34 : w6.cell? ⟨gb, 34, none⟩ = some (.int .i64 b.fr) := (HQ.out.cell 34).trans (b.get_tail HB.out.ok 1)
          have d35 : w6.cell? ⟨gb, 35, none⟩ = some (.int .i64 b.to) := (HQ.out.cell 35).trans (b.get_tail HB.out.ok 2)
          go_upto_region 11 with fail
          go_cut [8] (fun c wx => c = .bool (sameF a b) ∧ w6 = wx)
          case first =>
            obtain ⟨P3, hP3⟩ : ∃ P, P = (a.pro == b.pro) := ⟨_, rfl⟩
            obtain ⟨P4, hP4⟩ : ∃ P, P = (a.fr % 65536 == b.fr % 65536) := ⟨_, rfl⟩
            obtain ⟨P5, hP5⟩ : ∃ P, P = (a.to % 65536 == b.to % 65536) := ⟨_, rfl⟩
            have hs : sameF a b = (decide (false = B0) && X && P3 && P4 && P5) := by unfold sameF; rw [HX.out, hP3, hP4, hP5, beqd, beqd, beqd, ← HA0.out, ← HB0.out]
            have HS := Lib.hid hs
            clear hs
            cases B0 <;> cases X <;> cases P3 <;> cases P4 <;> cases P5
            all_goals
              have e3 := hP3.symm
              have e4 := hP4.symm
              have e5 := hP5.symm
              clear hP3 hP4 hP5
              go_wp2_with fail
              all_goals (go_meet; refine ⟨?_, rfl⟩; first | (rw [HS.out]; rfl) | (rw [HS.out]; simp [e5]; done) | (exfalso; simp_all; done))
          case rest =>
            obtain ⟨hu8, hw8⟩ := hcut
            subst hu8
            subst hw8
            obtain ⟨S, hS⟩ : ∃ S, S = sameF a b := ⟨_, rfl⟩
            rw [← hS]
            have HS := Lib.hid hS
            clear hS
            clear c0 d0 c33 c34 c35 d33 d34 d35
            cases S
            · go_wp2_with fail
              refine wp_region_rel (fun A B => A.grownBy B none) (fun A => grown_refl A _) (fun A B C h k => grown_trans h k) (relAt (List.cons (fun v _ => v = .agg a.cells.toArray) (List.cons (OwnR w6.heap.size (bytesF a)) (List.cons (fun v _ => v = str (bytesF a)) (List.cons (fun v _ => v = .agg b.cells.toArray) (List.cons (OwnR w6.heap.size (bytesF b)) (List.cons (fun v _ => v = str (bytesF b)) (List.cons (fun v _ => v = .bool false) (List.cons (fun v _ => v = .bool false) ([])))))))))) (MonoL.at_ (.cons (mono_val _) (.cons (mono_own _ _) (.cons (mono_val _) (.cons (mono_val _) (.cons (mono_own _ _) (.cons (mono_val _) (.cons (mono_val _) (.cons (mono_val _) .nil))))))))) (by kernel_rfl) (by kernel_rfl) ⟨?_, ?_, ?_, ?_, ?_, ?_, ?_, ?_, trivial⟩ ?_
              · intro a0 vs W hX hR he hf K hK
                rw [if_pos (wanted_none rfl)]
                have e2 : a0.eval (.tmp 2) = .pointer (some ⟨ga, 0, none⟩) := hf 2 (by kernel_rfl)
                have hbW := bthen (below_drew _) (grow_below hX)
                exact wp_value (exec_load 26 _ rfl ga e2 26 a.cells _ (HP.out.on hbW) Try.underlying26 rfl (sizeK _ HA.out.ok)) (hK _ _ rfl (grown_refl W _))
              · intro a0 vs W hX hR he hf K hK
                rw [if_pos (wanted_none rfl)]
                have e88 : a0.eval (.tmp 88) = .agg a.cells.toArray := (he 0 88 (by kernel_rfl) rfl).trans (hR 0 (by kernel_rfl))
                have hs2 : w6.heap.size ≤ W.heap.size := (grow_below hX).size
                refine wp_enter (f := 11) (args := #[.agg a.cells.toArray]) (by simp only [execOp, e88]; go_simp; simpa [Act.eval] using e88) ((bytes17_any a HA.out W).mono ?_)
                rintro e w' ⟨A', n', c', rfl, ho, hb⟩
                exact ⟨_, rfl, hK _ _ ⟨A', n', c', rfl, ho.mono hs2⟩ (below_grow hb _)⟩
              · intro a0 vs W hX hR he hf K hK
                rw [if_pos (wanted_none rfl)]
                have e89 := he 1 89 (by kernel_rfl) rfl
                have p89 := hR 1 (by kernel_rfl)
                change (OwnR w6.heap.size (bytesF a)) (vs 1) W at p89
                obtain ⟨A', n', c', hv, ho⟩ := p89
                rw [hv] at e89
                exact wp_value (exec_str 22 9 5 _ rfl Try.underlying22 Try.underlying5 Try.underlying9 A' n' c' (bytesF a) e89 ho.ok) (hK _ _ rfl (grown_refl W _))
              · intro a0 vs W hX hR he hf K hK
                rw [if_pos (wanted_none rfl)]
                have e3 : a0.eval (.tmp 3) = .pointer (some ⟨gb, 0, none⟩) := hf 3 (by kernel_rfl)
                have hbW := bthen (below_drew _) (grow_below hX)
                exact wp_value (exec_load 26 _ rfl gb e3 26 b.cells _ (HQ.out.on hbW) Try.underlying26 rfl (sizeK _ HB.out.ok)) (hK _ _ rfl (grown_refl W _))
              · intro a0 vs W hX hR he hf K hK
                rw [if_pos (wanted_none rfl)]
                have e91 : a0.eval (.tmp 91) = .agg b.cells.toArray := (he 3 91 (by kernel_rfl) rfl).trans (hR 3 (by kernel_rfl))
                have hs2 : w6.heap.size ≤ W.heap.size := (grow_below hX).size
                refine wp_enter (f := 11) (args := #[.agg b.cells.toArray]) (by simp only [execOp, e91]; go_simp; simpa [Act.eval] using e91) ((bytes17_any b HB.out W).mono ?_)
                rintro e w' ⟨A', n', c', rfl, ho, hb⟩
                exact ⟨_, rfl, hK _ _ ⟨A', n', c', rfl, ho.mono hs2⟩ (below_grow hb _)⟩
              · intro a0 vs W hX hR he hf K hK
                rw [if_pos (wanted_none rfl)]
                have e92 := he 4 92 (by kernel_rfl) rfl
                have p92 := hR 4 (by kernel_rfl)
                change (OwnR w6.heap.size (bytesF b)) (vs 4) W at p92
                obtain ⟨A', n', c', hv, ho⟩ := p92
                rw [hv] at e92
                exact wp_value (exec_str 22 9 5 _ rfl Try.underlying22 Try.underlying5 Try.underlying9 A' n' c' (bytesF b) e92 ho.ok) (hK _ _ rfl (grown_refl W _))
              · intro a0 vs W hX hR he hf K hK
                rw [if_pos (wanted_none rfl)]
                have e90 : a0.eval (.tmp 90) = str (bytesF a) := (he 2 90 (by kernel_rfl) rfl).trans (hR 2 (by kernel_rfl))
                have e93 : a0.eval (.tmp 93) = str (bytesF b) := (he 5 93 (by kernel_rfl) rfl).trans (hR 5 (by kernel_rfl))
                exact wp_value (exec_eqS _ _ _ rfl (bytesF a) (bytesF b) _ ((same_bytes a b HA.out HB.out).trans HS.out.symm) e90 e93) (hK _ _ rfl (grown_refl W _))
              · intro a0 vs W hX hR he hf K hK
                rw [if_pos (wanted_none rfl)]
                have e94 : a0.eval (.tmp 94) = .bool false := (he 6 94 (by kernel_rfl) rfl).trans (hR 6 (by kernel_rfl))
                refine wp_value (v := .bool false) ?_ (hK _ _ rfl (grown_refl W _))
                simp only [execOp, e94]
                try go_simp
                try (first | rfl | omega | (simp only [IntKind.wrap_i64, IntKind.wrap_u8, IntKind.wrap_u64, IntKind.wrap_u16, IntKind.wrap_u32]; omega) | (rw [Int.tmod_eq_emod_of_nonneg (by omega)]) | (rw [Int.tmod_eq_emod_of_nonneg (by omega)]; omega))
              · intro vs w4 hX4 hR
                have q0 := hR 0 (by decide)
                have q1 := hR 1 (by decide)
                have q2 := hR 2 (by decide)
                have q3 := hR 3 (by decide)
                have q4 := hR 4 (by decide)
                have q5 := hR 5 (by decide)
                have q6 := hR 6 (by decide)
                have q7 := hR 7 (by decide)
                change vs 0 = .agg a.cells.toArray at q0
                change (OwnR w6.heap.size (bytesF a)) (vs 1) w4 at q1
                change vs 2 = str (bytesF a) at q2
                change vs 3 = .agg b.cells.toArray at q3
                change (OwnR w6.heap.size (bytesF b)) (vs 4) w4 at q4
                change vs 5 = str (bytesF b) at q5
                change vs 6 = .bool false at q6
                change vs 7 = .bool false at q7
                simp only [putAll, Act.put, List.setIfInBounds_toArray, List.set_cons_zero, List.set_cons_succ, q0, q2, q3, q5, q6, q7]
                clear q0 q2 q3 q5 q6 q7
                clear hR
                replace HP := Lib.hid (HP.out.on (bthen (below_drew _) (grow_below hX4)))
                replace HQ := Lib.hid (HQ.out.on (bthen (below_drew _) (grow_below hX4)))
                replace HW := Lib.hid (bthen HW.out (bthen (below_drew _) (grow_below hX4)))
                clear hX4 q1 q4
                go_wp2_with fail
                refine wp_region_rel (fun A B => A.grownBy B none) (fun A => grown_refl A _) (fun A B C h k => grown_trans h k) (relAt (List.cons (fun v _ => v = .bool false) (List.cons (fun v _ => v = .bool false) (List.cons (fun v _ => v = .bool true) (List.cons (fun v _ => v = .bool true) (List.cons (fun v _ => v = .bool false) (List.cons (fun v _ => v = .bool true) (List.cons (fun v _ => v = .bool true) (List.cons (fun v _ => v = undef) (List.cons (fun v _ => v = undef) (List.cons (fun v _ => v = undef) (List.cons (fun v _ => v = undef) (List.cons (fun v _ => v = undef) (List.cons (fun v _ => v = .bool true) (List.cons (fun v _ => v = .bool true) (List.cons (fun v _ => v = .bool true) ([]))))))))))))))))) (MonoL.at_ (.cons (mono_val _) (.cons (mono_val _) (.cons (mono_val _) (.cons (mono_val _) (.cons (mono_val _) (.cons (mono_val _) (.cons (mono_val _) (.cons (mono_val _) (.cons (mono_val _) (.cons (mono_val _) (.cons (mono_val _) (.cons (mono_val _) (.cons (mono_val _) (.cons (mono_val _) (.cons (mono_val _) .nil)))))))))))))))) (by kernel_rfl) (by kernel_rfl) ⟨?_, ?_, ?_, ?_, ?_, ?_, ?_, ?_, ?_, ?_, ?_, ?_, ?_, ?_, ?_, trivial⟩ ?_
                · intro a0 vs W hX hR he hf K hK
                  rw [if_pos (wanted_none rfl)]
                  have e9 : a0.eval (.tmp 9) = .bool false := hf 9 (by kernel_rfl)
                  refine wp_value (v := .bool false) ?_ (hK _ _ rfl (grown_refl W _))
                  simp only [execOp, e9]
                  try go_simp
                  try (first | rfl | omega | (simp only [IntKind.wrap_i64, IntKind.wrap_u8, IntKind.wrap_u64, IntKind.wrap_u16, IntKind.wrap_u32]; omega) | (rw [Int.tmod_eq_emod_of_nonneg (by omega)]) | (rw [Int.tmod_eq_emod_of_nonneg (by omega)]; omega))
                · intro a0 vs W hX hR he hf K hK
                  rw [if_pos (wanted_none rfl)]
                  have e8 : a0.eval (.tmp 8) = .bool false := hf 8 (by kernel_rfl)
                  refine wp_value (v := .bool false) ?_ (hK _ _ rfl (grown_refl W _))
                  simp only [execOp, e8]
                  try go_simp
                  try (first | rfl | omega | (simp only [IntKind.wrap_i64, IntKind.wrap_u8, IntKind.wrap_u64, IntKind.wrap_u16, IntKind.wrap_u32]; omega) | (rw [Int.tmod_eq_emod_of_nonneg (by omega)]) | (rw [Int.tmod_eq_emod_of_nonneg (by omega)]; omega))
                · intro a0 vs W hX hR he hf K hK
                  rw [if_pos (wanted_none rfl)]
                  have e95 : a0.eval (.tmp 95) = .bool false := (he 0 95 (by kernel_rfl) rfl).trans (hR 0 (by kernel_rfl))
                  have e96 : a0.eval (.tmp 96) = .bool false := (he 1 96 (by kernel_rfl) rfl).trans (hR 1 (by kernel_rfl))
                  refine wp_value (v := .bool true) ?_ (hK _ _ rfl (grown_refl W _))
                  simp only [execOp, e95, e96]
                  try go_simp
                  try (first | rfl | omega | (simp only [IntKind.wrap_i64, IntKind.wrap_u8, IntKind.wrap_u64, IntKind.wrap_u16, IntKind.wrap_u32]; omega) | (rw [Int.tmod_eq_emod_of_nonneg (by omega)]) | (rw [Int.tmod_eq_emod_of_nonneg (by omega)]; omega))
                · intro a0 vs W hX hR he hf K hK
                  rw [if_pos (wanted_none rfl)]
                  have e97 : a0.eval (.tmp 97) = .bool true := (he 2 97 (by kernel_rfl) rfl).trans (hR 2 (by kernel_rfl))
                  refine wp_value (v := .bool true) ?_ (hK _ _ rfl (grown_refl W _))
                  simp only [execOp, e97]
                  try go_simp
                  try (first | rfl | omega | (simp only [IntKind.wrap_i64, IntKind.wrap_u8, IntKind.wrap_u64, IntKind.wrap_u16, IntKind.wrap_u32]; omega) | (rw [Int.tmod_eq_emod_of_nonneg (by omega)]) | (rw [Int.tmod_eq_emod_of_nonneg (by omega)]; omega))
                · intro a0 vs W hX hR he hf K hK
                  have e98 : a0.eval (.tmp 98) = .bool true := (he 3 98 (by kernel_rfl) rfl).trans (hR 3 (by kernel_rfl))
                  refine Eq.mpr (if_pos (by exact (wanted_some rfl rfl e98).trans rfl)) ?_
                  have e8 : a0.eval (.tmp 8) = .bool false := hf 8 (by kernel_rfl)
                  refine wp_value (v := .bool false) ?_ (hK _ _ rfl (grown_refl W _))
                  simp only [execOp, e8]
                  try go_simp
                  try (first | rfl | omega | (simp only [IntKind.wrap_i64, IntKind.wrap_u8, IntKind.wrap_u64, IntKind.wrap_u16, IntKind.wrap_u32]; omega) | (rw [Int.tmod_eq_emod_of_nonneg (by omega)]) | (rw [Int.tmod_eq_emod_of_nonneg (by omega)]; omega))
                · intro a0 vs W hX hR he hf K hK
                  have e98 : a0.eval (.tmp 98) = .bool true := (he 3 98 (by kernel_rfl) rfl).trans (hR 3 (by kernel_rfl))
                  refine Eq.mpr (if_pos (by exact (wanted_some rfl rfl e98).trans rfl)) ?_
                  have e99 : a0.eval (.tmp 99) = .bool false := (he 4 99 (by kernel_rfl) rfl).trans (hR 4 (by kernel_rfl))
                  refine wp_value (v := .bool true) ?_ (hK _ _ rfl (grown_refl W _))
                  simp only [execOp, e99]
                  try go_simp
                  try (first | rfl | omega | (simp only [IntKind.wrap_i64, IntKind.wrap_u8, IntKind.wrap_u64, IntKind.wrap_u16, IntKind.wrap_u32]; omega) | (rw [Int.tmod_eq_emod_of_nonneg (by omega)]) | (rw [Int.tmod_eq_emod_of_nonneg (by omega)]; omega))
                · intro a0 vs W hX hR he hf K hK
                  have e98 : a0.eval (.tmp 98) = .bool true := (he 3 98 (by kernel_rfl) rfl).trans (hR 3 (by kernel_rfl))
                  refine Eq.mpr (if_pos (by exact (wanted_some rfl rfl e98).trans rfl)) ?_
                  have e100 : a0.eval (.tmp 100) = .bool true := (he 5 100 (by kernel_rfl) rfl).trans (hR 5 (by kernel_rfl))
                  refine wp_value (v := .bool true) ?_ (hK _ _ rfl (grown_refl W _))
                  simp only [execOp, e100]
                  try go_simp
                  try (first | rfl | omega | (simp only [IntKind.wrap_i64, IntKind.wrap_u8, IntKind.wrap_u64, IntKind.wrap_u16, IntKind.wrap_u32]; omega) | (rw [Int.tmod_eq_emod_of_nonneg (by omega)]) | (rw [Int.tmod_eq_emod_of_nonneg (by omega)]; omega))
                · intro a0 vs W hX hR he hf K hK
                  have e101 : a0.eval (.tmp 101) = .bool true := (he 6 101 (by kernel_rfl) rfl).trans (hR 6 (by kernel_rfl))
                  refine Eq.mpr (if_neg (fun hz => Bool.false_ne_true (Eq.trans (by exact Eq.symm ((wanted_some rfl rfl e101).trans rfl)) hz))) ?_
                  exact hK _ _ rfl (grown_refl W _)
                · intro a0 vs W hX hR he hf K hK
                  have e101 : a0.eval (.tmp 101) = .bool true := (he 6 101 (by kernel_rfl) rfl).trans (hR 6 (by kernel_rfl))
                  refine Eq.mpr (if_neg (fun hz => Bool.false_ne_true (Eq.trans (by exact Eq.symm ((wanted_some rfl rfl e101).trans rfl)) hz))) ?_
                  exact hK _ _ rfl (grown_refl W _)
                · intro a0 vs W hX hR he hf K hK
                  have e101 : a0.eval (.tmp 101) = .bool true := (he 6 101 (by kernel_rfl) rfl).trans (hR 6 (by kernel_rfl))
                  refine Eq.mpr (if_neg (fun hz => Bool.false_ne_true (Eq.trans (by exact Eq.symm ((wanted_some rfl rfl e101).trans rfl)) hz))) ?_
                  exact hK _ _ rfl (grown_refl W _)
                · intro a0 vs W hX hR he hf K hK
                  have e101 : a0.eval (.tmp 101) = .bool true := (he 6 101 (by kernel_rfl) rfl).trans (hR 6 (by kernel_rfl))
                  refine Eq.mpr (if_neg (fun hz => Bool.false_ne_true (Eq.trans (by exact Eq.symm ((wanted_some rfl rfl e101).trans rfl)) hz))) ?_
                  exact hK _ _ rfl (grown_refl W _)
                · intro a0 vs W hX hR he hf K hK
                  have e101 : a0.eval (.tmp 101) = .bool true := (he 6 101 (by kernel_rfl) rfl).trans (hR 6 (by kernel_rfl))
                  refine Eq.mpr (if_neg (fun hz => Bool.false_ne_true (Eq.trans (by exact Eq.symm ((wanted_some rfl rfl e101).trans rfl)) hz))) ?_
                  exact hK _ _ rfl (grown_refl W _)
                · intro a0 vs W hX hR he hf K hK
                  have e98 : a0.eval (.tmp 98) = .bool true := (he 3 98 (by kernel_rfl) rfl).trans (hR 3 (by kernel_rfl))
                  refine Eq.mpr (if_pos (by exact (wanted_some rfl rfl e98).trans rfl)) ?_
                  have e101 : a0.eval (.tmp 101) = .bool true := (he 6 101 (by kernel_rfl) rfl).trans (hR 6 (by kernel_rfl))
                  have e106 : a0.eval (.tmp 106) = undef := (he 11 106 (by kernel_rfl) rfl).trans (hR 11 (by kernel_rfl))
                  refine wp_value (v := .bool true) ?_ (hK _ _ rfl (grown_refl W _))
                  simp only [execOp, e101, e106]
                  try go_simp
                  try (first | rfl | omega | (simp only [IntKind.wrap_i64, IntKind.wrap_u8, IntKind.wrap_u64, IntKind.wrap_u16, IntKind.wrap_u32]; omega) | (rw [Int.tmod_eq_emod_of_nonneg (by omega)]) | (rw [Int.tmod_eq_emod_of_nonneg (by omega)]; omega))
                · intro a0 vs W hX hR he hf K hK
                  rw [if_pos (wanted_none rfl)]
                  have e98 : a0.eval (.tmp 98) = .bool true := (he 3 98 (by kernel_rfl) rfl).trans (hR 3 (by kernel_rfl))
                  have e107 : a0.eval (.tmp 107) = .bool true := (he 12 107 (by kernel_rfl) rfl).trans (hR 12 (by kernel_rfl))
                  refine wp_value (v := .bool true) ?_ (hK _ _ rfl (grown_refl W _))
                  simp only [execOp, e98, e107]
                  try go_simp
                  try (first | rfl | omega | (simp only [IntKind.wrap_i64, IntKind.wrap_u8, IntKind.wrap_u64, IntKind.wrap_u16, IntKind.wrap_u32]; omega) | (rw [Int.tmod_eq_emod_of_nonneg (by omega)]) | (rw [Int.tmod_eq_emod_of_nonneg (by omega)]; omega))
                · intro a0 vs W hX hR he hf K hK
                  rw [if_pos (wanted_none rfl)]
                  have e108 : a0.eval (.tmp 108) = .bool true := (he 13 108 (by kernel_rfl) rfl).trans (hR 13 (by kernel_rfl))
                  refine wp_value (v := .bool true) ?_ (hK _ _ rfl (grown_refl W _))
                  simp only [execOp, e108]
                  try go_simp
                  try (first | rfl | omega | (simp only [IntKind.wrap_i64, IntKind.wrap_u8, IntKind.wrap_u64, IntKind.wrap_u16, IntKind.wrap_u32]; omega) | (rw [Int.tmod_eq_emod_of_nonneg (by omega)]) | (rw [Int.tmod_eq_emod_of_nonneg (by omega)]; omega))
                · intro vs w5 hX5 hR
                  have q0 := hR 0 (by decide)
                  have q1 := hR 1 (by decide)
                  have q2 := hR 2 (by decide)
                  have q3 := hR 3 (by decide)
                  have q4 := hR 4 (by decide)
                  have q5 := hR 5 (by decide)
                  have q6 := hR 6 (by decide)
                  have q7 := hR 7 (by decide)
                  have q8 := hR 8 (by decide)
                  have q9 := hR 9 (by decide)
                  have q10 := hR 10 (by decide)
                  have q11 := hR 11 (by decide)
                  have q12 := hR 12 (by decide)
                  have q13 := hR 13 (by decide)
                  have q14 := hR 14 (by decide)
                  change vs 0 = .bool false at q0
                  change vs 1 = .bool false at q1
                  change vs 2 = .bool true at q2
                  change vs 3 = .bool true at q3
                  change vs 4 = .bool false at q4
                  change vs 5 = .bool true at q5
                  change vs 6 = .bool true at q6
                  change vs 7 = undef at q7
                  change vs 8 = undef at q8
                  change vs 9 = undef at q9
                  change vs 10 = undef at q10
                  change vs 11 = undef at q11
                  change vs 12 = .bool true at q12
                  change vs 13 = .bool true at q13
                  change vs 14 = .bool true at q14
                  simp only [putAll, Act.put, List.setIfInBounds_toArray, List.set_cons_zero, List.set_cons_succ, q0, q1, q2, q3, q4, q5, q6, q7, q8, q9, q10, q11, q12, q13, q14]
                  clear q0 q1 q2 q3 q4 q5 q6 q7 q8 q9 q10 q11 q12 q13 q14
                  clear hR
                  go_wp2
                  go_ret
                  exact ⟨rfl, bthen HW.out (bthen (below_drew _) (grow_below hX5))⟩
            · have HEQ := Lib.hid (same_hash a b HA.out HB.out HS.out.symm [])
              go_wp2_with fail
              refine wp_region_rel (fun A B => A.grownBy B none) (fun A => grown_refl A _) (fun A B C h k => grown_trans h k) (relAt (List.cons (fun v _ => v = .agg a.cells.toArray) (List.cons (OwnR w6.heap.size (bytesF a)) (List.cons (fun v _ => v = str (bytesF a)) (List.cons (fun v _ => v = .agg b.cells.toArray) (List.cons (OwnR w6.heap.size (bytesF b)) (List.cons (fun v _ => v = str (bytesF b)) (List.cons (fun v _ => v = .bool true) (List.cons (fun v _ => v = .bool true) ([])))))))))) (MonoL.at_ (.cons (mono_val _) (.cons (mono_own _ _) (.cons (mono_val _) (.cons (mono_val _) (.cons (mono_own _ _) (.cons (mono_val _) (.cons (mono_val _) (.cons (mono_val _) .nil))))))))) (by kernel_rfl) (by kernel_rfl) ⟨?_, ?_, ?_, ?_, ?_, ?_, ?_, ?_, trivial⟩ ?_
              · intro a0 vs W hX hR he hf K hK
                rw [if_pos (wanted_none rfl)]
                have e2 : a0.eval (.tmp 2) = .pointer (some ⟨ga, 0, none⟩) := hf 2 (by kernel_rfl)
                have hbW := bthen (below_drew _) (grow_below hX)
                exact wp_value (exec_load 26 _ rfl ga e2 26 a.cells _ (HP.out.on hbW) Try.underlying26 rfl (sizeK _ HA.out.ok)) (hK _ _ rfl (grown_refl W _))
              · intro a0 vs W hX hR he hf K hK
                rw [if_pos (wanted_none rfl)]
                have e88 : a0.eval (.tmp 88) = .agg a.cells.toArray := (he 0 88 (by kernel_rfl) rfl).trans (hR 0 (by kernel_rfl))
                have hs2 : w6.heap.size ≤ W.heap.size := (grow_below hX).size
                refine wp_enter (f := 11) (args := #[.agg a.cells.toArray]) (by simp only [execOp, e88]; go_simp; simpa [Act.eval] using e88) ((bytes17_any a HA.out W).mono ?_)
                rintro e w' ⟨A', n', c', rfl, ho, hb⟩
                exact ⟨_, rfl, hK _ _ ⟨A', n', c', rfl, ho.mono hs2⟩ (below_grow hb _)⟩
              · intro a0 vs W hX hR he hf K hK
                rw [if_pos (wanted_none rfl)]
                have e89 := he 1 89 (by kernel_rfl) rfl
                have p89 := hR 1 (by kernel_rfl)
                change (OwnR w6.heap.size (bytesF a)) (vs 1) W at p89
                obtain ⟨A', n', c', hv, ho⟩ := p89
                rw [hv] at e89
                exact wp_value (exec_str 22 9 5 _ rfl Try.underlying22 Try.underlying5 Try.underlying9 A' n' c' (bytesF a) e89 ho.ok) (hK _ _ rfl (grown_refl W _))
              · intro a0 vs W hX hR he hf K hK
                rw [if_pos (wanted_none rfl)]
                have e3 : a0.eval (.tmp 3) = .pointer (some ⟨gb, 0, none⟩) := hf 3 (by kernel_rfl)
                have hbW := bthen (below_drew _) (grow_below hX)
                exact wp_value (exec_load 26 _ rfl gb e3 26 b.cells _ (HQ.out.on hbW) Try.underlying26 rfl (sizeK _ HB.out.ok)) (hK _ _ rfl (grown_refl W _))
              · intro a0 vs W hX hR he hf K hK
                rw [if_pos (wanted_none rfl)]
                have e91 : a0.eval (.tmp 91) = .agg b.cells.toArray := (he 3 91 (by kernel_rfl) rfl).trans (hR 3 (by kernel_rfl))
                have hs2 : w6.heap.size ≤ W.heap.size := (grow_below hX).size
                refine wp_enter (f := 11) (args := #[.agg b.cells.toArray]) (by simp only [execOp, e91]; go_simp; simpa [Act.eval] using e91) ((bytes17_any b HB.out W).mono ?_)
                rintro e w' ⟨A', n', c', rfl, ho, hb⟩
                exact ⟨_, rfl, hK _ _ ⟨A', n', c', rfl, ho.mono hs2⟩ (below_grow hb _)⟩
              · intro a0 vs W hX hR he hf K hK
                rw [if_pos (wanted_none rfl)]
                have e92 := he 4 92 (by kernel_rfl) rfl
                have p92 := hR 4 (by kernel_rfl)
                change (OwnR w6.heap.size (bytesF b)) (vs 4) W at p92
                obtain ⟨A', n', c', hv, ho⟩ := p92
                rw [hv] at e92
                exact wp_value (exec_str 22 9 5 _ rfl Try.underlying22 Try.underlying5 Try.underlying9 A' n' c' (bytesF b) e92 ho.ok) (hK _ _ rfl (grown_refl W _))
              · intro a0 vs W hX hR he hf K hK
                rw [if_pos (wanted_none rfl)]
                have e90 : a0.eval (.tmp 90) = str (bytesF a) := (he 2 90 (by kernel_rfl) rfl).trans (hR 2 (by kernel_rfl))
                have e93 : a0.eval (.tmp 93) = str (bytesF b) := (he 5 93 (by kernel_rfl) rfl).trans (hR 5 (by kernel_rfl))
                exact wp_value (exec_eqS _ _ _ rfl (bytesF a) (bytesF b) _ ((same_bytes a b HA.out HB.out).trans HS.out.symm) e90 e93) (hK _ _ rfl (grown_refl W _))
              · intro a0 vs W hX hR he hf K hK
                rw [if_pos (wanted_none rfl)]
                have e94 : a0.eval (.tmp 94) = .bool true := (he 6 94 (by kernel_rfl) rfl).trans (hR 6 (by kernel_rfl))
                refine wp_value (v := .bool true) ?_ (hK _ _ rfl (grown_refl W _))
                simp only [execOp, e94]
                try go_simp
                try (first | rfl | omega | (simp only [IntKind.wrap_i64, IntKind.wrap_u8, IntKind.wrap_u64, IntKind.wrap_u16, IntKind.wrap_u32]; omega) | (rw [Int.tmod_eq_emod_of_nonneg (by omega)]) | (rw [Int.tmod_eq_emod_of_nonneg (by omega)]; omega))
              · intro vs w4 hX4 hR
                have q0 := hR 0 (by decide)
                have q1 := hR 1 (by decide)
                have q2 := hR 2 (by decide)
                have q3 := hR 3 (by decide)
                have q4 := hR 4 (by decide)
                have q5 := hR 5 (by decide)
                have q6 := hR 6 (by decide)
                have q7 := hR 7 (by decide)
                change vs 0 = .agg a.cells.toArray at q0
                change (OwnR w6.heap.size (bytesF a)) (vs 1) w4 at q1
                change vs 2 = str (bytesF a) at q2
                change vs 3 = .agg b.cells.toArray at q3
                change (OwnR w6.heap.size (bytesF b)) (vs 4) w4 at q4
                change vs 5 = str (bytesF b) at q5
                change vs 6 = .bool true at q6
                change vs 7 = .bool true at q7
                simp only [putAll, Act.put, List.setIfInBounds_toArray, List.set_cons_zero, List.set_cons_succ, q0, q2, q3, q5, q6, q7]
                clear q0 q2 q3 q5 q6 q7
                clear hR
                replace HP := Lib.hid (HP.out.on (bthen (below_drew _) (grow_below hX4)))
                replace HQ := Lib.hid (HQ.out.on (bthen (below_drew _) (grow_below hX4)))
                replace HW := Lib.hid (bthen HW.out (bthen (below_drew _) (grow_below hX4)))
                clear hX4 q1 q4
                go_wp2_with fail
                refine wp_region_rel (fun A B => A.grownBy B none) (fun A => grown_refl A _) (fun A B C h k => grown_trans h k) (relAt (List.cons (fun v _ => v = .bool true) (List.cons (fun v _ => v = .bool true) (List.cons (fun v _ => v = .bool true) (List.cons (fun v _ => v = .bool true) (List.cons (fun v _ => v = .bool true) (List.cons (fun v _ => v = .bool false) (List.cons (fun v _ => v = .bool false) (List.cons (fun v _ => v = .agg a.cells.toArray) (List.cons (fun v _ => v = .int .u32 (hashF a [] : Nat)) (List.cons (fun v _ => v = .agg b.cells.toArray) (List.cons (fun v _ => v = .int .u32 (hashF a [] : Nat)) (List.cons (fun v _ => v = .bool true) (List.cons (fun v _ => v = .bool true) (List.cons (fun v _ => v = .bool true) (List.cons (fun v _ => v = .bool true) ([]))))))))))))))))) (MonoL.at_ (.cons (mono_val _) (.cons (mono_val _) (.cons (mono_val _) (.cons (mono_val _) (.cons (mono_val _) (.cons (mono_val _) (.cons (mono_val _) (.cons (mono_val _) (.cons (mono_val _) (.cons (mono_val _) (.cons (mono_val _) (.cons (mono_val _) (.cons (mono_val _) (.cons (mono_val _) (.cons (mono_val _) .nil)))))))))))))))) (by kernel_rfl) (by kernel_rfl) ⟨?_, ?_, ?_, ?_, ?_, ?_, ?_, ?_, ?_, ?_, ?_, ?_, ?_, ?_, ?_, trivial⟩ ?_
                · intro a0 vs W hX hR he hf K hK
                  rw [if_pos (wanted_none rfl)]
                  have e9 : a0.eval (.tmp 9) = .bool true := hf 9 (by kernel_rfl)
                  refine wp_value (v := .bool true) ?_ (hK _ _ rfl (grown_refl W _))
                  simp only [execOp, e9]
                  try go_simp
                  try (first | rfl | omega | (simp only [IntKind.wrap_i64, IntKind.wrap_u8, IntKind.wrap_u64, IntKind.wrap_u16, IntKind.wrap_u32]; omega) | (rw [Int.tmod_eq_emod_of_nonneg (by omega)]) | (rw [Int.tmod_eq_emod_of_nonneg (by omega)]; omega))
                · intro a0 vs W hX hR he hf K hK
                  rw [if_pos (wanted_none rfl)]
                  have e8 : a0.eval (.tmp 8) = .bool true := hf 8 (by kernel_rfl)
                  refine wp_value (v := .bool true) ?_ (hK _ _ rfl (grown_refl W _))
                  simp only [execOp, e8]
                  try go_simp
                  try (first | rfl | omega | (simp only [IntKind.wrap_i64, IntKind.wrap_u8, IntKind.wrap_u64, IntKind.wrap_u16, IntKind.wrap_u32]; omega) | (rw [Int.tmod_eq_emod_of_nonneg (by omega)]) | (rw [Int.tmod_eq_emod_of_nonneg (by omega)]; omega))
                · intro a0 vs W hX hR he hf K hK
                  rw [if_pos (wanted_none rfl)]
                  have e95 : a0.eval (.tmp 95) = .bool true := (he 0 95 (by kernel_rfl) rfl).trans (hR 0 (by kernel_rfl))
                  have e96 : a0.eval (.tmp 96) = .bool true := (he 1 96 (by kernel_rfl) rfl).trans (hR 1 (by kernel_rfl))
                  refine wp_value (v := .bool true) ?_ (hK _ _ rfl (grown_refl W _))
                  simp only [execOp, e95, e96]
                  try go_simp
                  try (first | rfl | omega | (simp only [IntKind.wrap_i64, IntKind.wrap_u8, IntKind.wrap_u64, IntKind.wrap_u16, IntKind.wrap_u32]; omega) | (rw [Int.tmod_eq_emod_of_nonneg (by omega)]) | (rw [Int.tmod_eq_emod_of_nonneg (by omega)]; omega))
                · intro a0 vs W hX hR he hf K hK
                  rw [if_pos (wanted_none rfl)]
                  have e97 : a0.eval (.tmp 97) = .bool true := (he 2 97 (by kernel_rfl) rfl).trans (hR 2 (by kernel_rfl))
                  refine wp_value (v := .bool true) ?_ (hK _ _ rfl (grown_refl W _))
                  simp only [execOp, e97]
                  try go_simp
                  try (first | rfl | omega | (simp only [IntKind.wrap_i64, IntKind.wrap_u8, IntKind.wrap_u64, IntKind.wrap_u16, IntKind.wrap_u32]; omega) | (rw [Int.tmod_eq_emod_of_nonneg (by omega)]) | (rw [Int.tmod_eq_emod_of_nonneg (by omega)]; omega))
                · intro a0 vs W hX hR he hf K hK
                  have e98 : a0.eval (.tmp 98) = .bool true := (he 3 98 (by kernel_rfl) rfl).trans (hR 3 (by kernel_rfl))
                  refine Eq.mpr (if_pos (by exact (wanted_some rfl rfl e98).trans rfl)) ?_
                  have e8 : a0.eval (.tmp 8) = .bool true := hf 8 (by kernel_rfl)
                  refine wp_value (v := .bool true) ?_ (hK _ _ rfl (grown_refl W _))
                  simp only [execOp, e8]
                  try go_simp
                  try (first | rfl | omega | (simp only [IntKind.wrap_i64, IntKind.wrap_u8, IntKind.wrap_u64, IntKind.wrap_u16, IntKind.wrap_u32]; omega) | (rw [Int.tmod_eq_emod_of_nonneg (by omega)]) | (rw [Int.tmod_eq_emod_of_nonneg (by omega)]; omega))
                · intro a0 vs W hX hR he hf K hK
                  have e98 : a0.eval (.tmp 98) = .bool true := (he 3 98 (by kernel_rfl) rfl).trans (hR 3 (by kernel_rfl))
                  refine Eq.mpr (if_pos (by exact (wanted_some rfl rfl e98).trans rfl)) ?_
                  have e99 : a0.eval (.tmp 99) = .bool true := (he 4 99 (by kernel_rfl) rfl).trans (hR 4 (by kernel_rfl))
                  refine wp_value (v := .bool false) ?_ (hK _ _ rfl (grown_refl W _))
                  simp only [execOp, e99]
                  try go_simp
                  try (first | rfl | omega | (simp only [IntKind.wrap_i64, IntKind.wrap_u8, IntKind.wrap_u64, IntKind.wrap_u16, IntKind.wrap_u32]; omega) | (rw [Int.tmod_eq_emod_of_nonneg (by omega)]) | (rw [Int.tmod_eq_emod_of_nonneg (by omega)]; omega))
                · intro a0 vs W hX hR he hf K hK
                  have e98 : a0.eval (.tmp 98) = .bool true := (he 3 98 (by kernel_rfl) rfl).trans (hR 3 (by kernel_rfl))
                  refine Eq.mpr (if_pos (by exact (wanted_some rfl rfl e98).trans rfl)) ?_
                  have e100 : a0.eval (.tmp 100) = .bool false := (he 5 100 (by kernel_rfl) rfl).trans (hR 5 (by kernel_rfl))
                  refine wp_value (v := .bool false) ?_ (hK _ _ rfl (grown_refl W _))
                  simp only [execOp, e100]
                  try go_simp
                  try (first | rfl | omega | (simp only [IntKind.wrap_i64, IntKind.wrap_u8, IntKind.wrap_u64, IntKind.wrap_u16, IntKind.wrap_u32]; omega) | (rw [Int.tmod_eq_emod_of_nonneg (by omega)]) | (rw [Int.tmod_eq_emod_of_nonneg (by omega)]; omega))
                · intro a0 vs W hX hR he hf K hK
                  have e101 : a0.eval (.tmp 101) = .bool false := (he 6 101 (by kernel_rfl) rfl).trans (hR 6 (by kernel_rfl))
                  refine Eq.mpr (if_pos (by exact (wanted_some rfl rfl e101).trans rfl)) ?_
                  have e2 : a0.eval (.tmp 2) = .pointer (some ⟨ga, 0, none⟩) := hf 2 (by kernel_rfl)
                  have hbW := bthen (below_drew _) (grow_below hX)
                  exact wp_value (exec_load 26 _ rfl ga e2 26 a.cells _ (HP.out.on hbW) Try.underlying26 rfl (sizeK _ HA.out.ok)) (hK _ _ rfl (grown_refl W _))
                · intro a0 vs W hX hR he hf K hK
                  have e101 : a0.eval (.tmp 101) = .bool false := (he 6 101 (by kernel_rfl) rfl).trans (hR 6 (by kernel_rfl))
                  refine Eq.mpr (if_pos (by exact (wanted_some rfl rfl e101).trans rfl)) ?_
                  have e102 : a0.eval (.tmp 102) = .agg a.cells.toArray := (he 7 102 (by kernel_rfl) rfl).trans (hR 7 (by kernel_rfl))
                  refine wp_enter (f := 15) (args := #[.agg a.cells.toArray, .slice none 0 0]) (by simp only [execOp, e102]; go_simp; simpa [Act.eval] using e102) ((hash_any a HA.out none 0 0 [] W (Row.nil _ _ _ _) (by simp) (by omega)).mono ?_)
                  rintro e w' ⟨rfl, hb⟩
                  exact ⟨_, rfl, hK _ _ rfl (below_grow hb _)⟩
                · intro a0 vs W hX hR he hf K hK
                  have e101 : a0.eval (.tmp 101) = .bool false := (he 6 101 (by kernel_rfl) rfl).trans (hR 6 (by kernel_rfl))
                  refine Eq.mpr (if_pos (by exact (wanted_some rfl rfl e101).trans rfl)) ?_
                  have e3 : a0.eval (.tmp 3) = .pointer (some ⟨gb, 0, none⟩) := hf 3 (by kernel_rfl)
                  have hbW := bthen (below_drew _) (grow_below hX)
                  exact wp_value (exec_load 26 _ rfl gb e3 26 b.cells _ (HQ.out.on hbW) Try.underlying26 rfl (sizeK _ HB.out.ok)) (hK _ _ rfl (grown_refl W _))
                · intro a0 vs W hX hR he hf K hK
                  have e101 : a0.eval (.tmp 101) = .bool false := (he 6 101 (by kernel_rfl) rfl).trans (hR 6 (by kernel_rfl))
                  refine Eq.mpr (if_pos (by exact (wanted_some rfl rfl e101).trans rfl)) ?_
                  have e104 : a0.eval (.tmp 104) = .agg b.cells.toArray := (he 9 104 (by kernel_rfl) rfl).trans (hR 9 (by kernel_rfl))
                  refine wp_enter (f := 15) (args := #[.agg b.cells.toArray, .slice none 0 0]) (by simp only [execOp, e104]; go_simp; simpa [Act.eval] using e104) ((hash_any b HB.out none 0 0 [] W (Row.nil _ _ _ _) (by simp) (by omega)).mono ?_)
                  rintro e w' ⟨rfl, hb⟩
                  exact ⟨_, rfl, hK _ _ (congrArg (fun n : Nat => Value.int .u32 (n : Int)) HEQ.out.symm) (below_grow hb _)⟩
                · intro a0 vs W hX hR he hf K hK
                  have e101 : a0.eval (.tmp 101) = .bool false := (he 6 101 (by kernel_rfl) rfl).trans (hR 6 (by kernel_rfl))
                  refine Eq.mpr (if_pos (by exact (wanted_some rfl rfl e101).trans rfl)) ?_
                  have e103 : a0.eval (.tmp 103) = .int .u32 (hashF a [] : Nat) := (he 8 103 (by kernel_rfl) rfl).trans (hR 8 (by kernel_rfl))
                  have e105 : a0.eval (.tmp 105) = .int .u32 (hashF a [] : Nat) := (he 10 105 (by kernel_rfl) rfl).trans (hR 10 (by kernel_rfl))
                  refine wp_value (v := .bool true) ?_ (hK _ _ rfl (grown_refl W _))
                  simp only [execOp, e103, e105]
                  try go_simp
                  try (first | rfl | omega | (simp only [IntKind.wrap_i64, IntKind.wrap_u8, IntKind.wrap_u64, IntKind.wrap_u16, IntKind.wrap_u32]; omega) | (rw [Int.tmod_eq_emod_of_nonneg (by omega)]) | (rw [Int.tmod_eq_emod_of_nonneg (by omega)]; omega))
                · intro a0 vs W hX hR he hf K hK
                  have e98 : a0.eval (.tmp 98) = .bool true := (he 3 98 (by kernel_rfl) rfl).trans (hR 3 (by kernel_rfl))
                  refine Eq.mpr (if_pos (by exact (wanted_some rfl rfl e98).trans rfl)) ?_
                  have e101 : a0.eval (.tmp 101) = .bool false := (he 6 101 (by kernel_rfl) rfl).trans (hR 6 (by kernel_rfl))
                  have e106 : a0.eval (.tmp 106) = .bool true := (he 11 106 (by kernel_rfl) rfl).trans (hR 11 (by kernel_rfl))
                  refine wp_value (v := .bool true) ?_ (hK _ _ rfl (grown_refl W _))
                  simp only [execOp, e101, e106]
                  try go_simp
                  try (first | rfl | omega | (simp only [IntKind.wrap_i64, IntKind.wrap_u8, IntKind.wrap_u64, IntKind.wrap_u16, IntKind.wrap_u32]; omega) | (rw [Int.tmod_eq_emod_of_nonneg (by omega)]) | (rw [Int.tmod_eq_emod_of_nonneg (by omega)]; omega))
                · intro a0 vs W hX hR he hf K hK
                  rw [if_pos (wanted_none rfl)]
                  have e98 : a0.eval (.tmp 98) = .bool true := (he 3 98 (by kernel_rfl) rfl).trans (hR 3 (by kernel_rfl))
                  have e107 : a0.eval (.tmp 107) = .bool true := (he 12 107 (by kernel_rfl) rfl).trans (hR 12 (by kernel_rfl))
                  refine wp_value (v := .bool true) ?_ (hK _ _ rfl (grown_refl W _))
                  simp only [execOp, e98, e107]
                  try go_simp
                  try (first | rfl | omega | (simp only [IntKind.wrap_i64, IntKind.wrap_u8, IntKind.wrap_u64, IntKind.wrap_u16, IntKind.wrap_u32]; omega) | (rw [Int.tmod_eq_emod_of_nonneg (by omega)]) | (rw [Int.tmod_eq_emod_of_nonneg (by omega)]; omega))
                · intro a0 vs W hX hR he hf K hK
                  rw [if_pos (wanted_none rfl)]
                  have e108 : a0.eval (.tmp 108) = .bool true := (he 13 108 (by kernel_rfl) rfl).trans (hR 13 (by kernel_rfl))
                  refine wp_value (v := .bool true) ?_ (hK _ _ rfl (grown_refl W _))
                  simp only [execOp, e108]
                  try go_simp
                  try (first | rfl | omega | (simp only [IntKind.wrap_i64, IntKind.wrap_u8, IntKind.wrap_u64, IntKind.wrap_u16, IntKind.wrap_u32]; omega) | (rw [Int.tmod_eq_emod_of_nonneg (by omega)]) | (rw [Int.tmod_eq_emod_of_nonneg (by omega)]; omega))
                · intro vs w5 hX5 hR
                  have q0 := hR 0 (by decide)
                  have q1 := hR 1 (by decide)
                  have q2 := hR 2 (by decide)
                  have q3 := hR 3 (by decide)
                  have q4 := hR 4 (by decide)
                  have q5 := hR 5 (by decide)
                  have q6 := hR 6 (by decide)
                  have q7 := hR 7 (by decide)
                  have q8 := hR 8 (by decide)
                  have q9 := hR 9 (by decide)
                  have q10 := hR 10 (by decide)
                  have q11 := hR 11 (by decide)
                  have q12 := hR 12 (by decide)
                  have q13 := hR 13 (by decide)
                  have q14 := hR 14 (by decide)
                  change vs 0 = .bool true at q0
                  change vs 1 = .bool true at q1
                  change vs 2 = .bool true at q2
                  change vs 3 = .bool true at q3
                  change vs 4 = .bool true at q4
                  change vs 5 = .bool false at q5
                  change vs 6 = .bool false at q6
                  change vs 7 = .agg a.cells.toArray at q7
                  change vs 8 = .int .u32 (hashF a [] : Nat) at q8
                  change vs 9 = .agg b.cells.toArray at q9
                  change vs 10 = .int .u32 (hashF a [] : Nat) at q10
                  change vs 11 = .bool true at q11
                  change vs 12 = .bool true at q12
                  change vs 13 = .bool true at q13
                  change vs 14 = .bool true at q14
                  simp only [putAll, Act.put, List.setIfInBounds_toArray, List.set_cons_zero, List.set_cons_succ, q0, q1, q2, q3, q4, q5, q6, q7, q8, q9, q10, q11, q12, q13, q14]
                  clear q0 q1 q2 q3 q4 q5 q6 q7 q8 q9 q10 q11 q12 q13 q14
                  clear hR
                  go_wp2
                  go_ret
                  exact ⟨rfl, bthen HW.out (bthen (below_drew _) (grow_below hX5))⟩

    · obtain ⟨X, hX⟩ : ∃ X, X = (decide (a.src = b.src) && decide (a.dst = b.dst)) := ⟨_, rfl⟩
      rw [← hX]
      have HX : Hid (addrF a b = X) := Lib.hid (by unfold addrF; rw [← HA0.out, hX]; rfl)
      clear hX
      go_upto_region 11 with fail
      go_cut [8] (fun c wx => c = .bool (sameF a b) ∧ w3 = wx)
      case first =>
        obtain ⟨P3, hP3⟩ : ∃ P, P = (a.pro == b.pro) := ⟨_, rfl⟩
        obtain ⟨P4, hP4⟩ : ∃ P, P = (a.fr % 65536 == b.fr % 65536) := ⟨_, rfl⟩
        obtain ⟨P5, hP5⟩ : ∃ P, P = (a.to % 65536 == b.to % 65536) := ⟨_, rfl⟩
        have hs : sameF a b = (decide (true = B0) && X && P3 && P4 && P5) := by unfold sameF; rw [HX.out, hP3, hP4, hP5, beqd, beqd, beqd, ← HA0.out, ← HB0.out]
        have HS := Lib.hid hs
        clear hs
        cases B0 <;> cases X <;> cases P3 <;> cases P4 <;> cases P5
        all_goals
          have e3 := hP3.symm
          have e4 := hP4.symm
          have e5 := hP5.symm
          clear hP3 hP4 hP5
          go_wp2_with fail
          all_goals (go_meet; refine ⟨?_, rfl⟩; first | (rw [HS.out]; rfl) | (rw [HS.out]; simp [e5]; done) | (exfalso; simp_all; done))
      case rest =>
        obtain ⟨hu8, hw8⟩ := hcut
        subst hu8
        subst hw8
        obtain ⟨S, hS⟩ : ∃ S, S = sameF a b := ⟨_, rfl⟩
        rw [← hS]
        have HS := Lib.hid hS
        clear hS
        clear c0 d0 c33 c34 c35 d33 d34 d35
        cases S
        · go_wp2_with fail
          refine wp_region_rel (fun A B => A.grownBy B none) (fun A => grown_refl A _) (fun A B C h k => grown_trans h k) (relAt (List.cons (fun v _ => v = .agg a.cells.toArray) (List.cons (OwnR w3.heap.size (bytesF a)) (List.cons (fun v _ => v = str (bytesF a)) (List.cons (fun v _ => v = .agg b.cells.toArray) (List.cons (OwnR w3.heap.size (bytesF b)) (List.cons (fun v _ => v = str (bytesF b)) (List.cons (fun v _ => v = .bool false) (List.cons (fun v _ => v = .bool false) ([])))))))))) (MonoL.at_ (.cons (mono_val _) (.cons (mono_own _ _) (.cons (mono_val _) (.cons (mono_val _) (.cons (mono_own _ _) (.cons (mono_val _) (.cons (mono_val _) (.cons (mono_val _) .nil))))))))) (by kernel_rfl) (by kernel_rfl) ⟨?_, ?_, ?_, ?_, ?_, ?_, ?_, ?_, trivial⟩ ?_
          · intro a0 vs W hX hR he hf K hK
            rw [if_pos (wanted_none rfl)]
            have e2 : a0.eval (.tmp 2) = .pointer (some ⟨ga, 0, none⟩) := hf 2 (by kernel_rfl)
            have hbW := bthen (below_drew _) (grow_below hX)
            exact wp_value (exec_load 26 _ rfl ga e2 26 a.cells _ (HP.out.on hbW) Try.underlying26 rfl (sizeK _ HA.out.ok)) (hK _ _ rfl (grown_refl W _))
          · intro a0 vs W hX hR he hf K hK
            rw [if_pos (wanted_none rfl)]
            have e88 : a0.eval (.tmp 88) = .agg a.cells.toArray := (he 0 88 (by kernel_rfl) rfl).trans (hR 0 (by kernel_rfl))
            have hs2 : w3.heap.size ≤ W.heap.size := (grow_below hX).size
            refine wp_enter (f := 11) (args := #[.agg a.cells.toArray]) (by simp only [execOp, e88]; go_simp; simpa [Act.eval] using e88) ((bytes17_any a HA.out W).mono ?_)
            rintro e w' ⟨A', n', c', rfl, ho, hb⟩
            exact ⟨_, rfl, hK _ _ ⟨A', n', c', rfl, ho.mono hs2⟩ (below_grow hb _)⟩
          · intro a0 vs W hX hR he hf K hK
            rw [if_pos (wanted_none rfl)]
            have e89 := he 1 89 (by kernel_rfl) rfl
            have p89 := hR 1 (by kernel_rfl)
            change (OwnR w3.heap.size (bytesF a)) (vs 1) W at p89
            obtain ⟨A', n', c', hv, ho⟩ := p89
            rw [hv] at e89
            exact wp_value (exec_str 22 9 5 _ rfl Try.underlying22 Try.underlying5 Try.underlying9 A' n' c' (bytesF a) e89 ho.ok) (hK _ _ rfl (grown_refl W _))
          · intro a0 vs W hX hR he hf K hK
            rw [if_pos (wanted_none rfl)]
            have e3 : a0.eval (.tmp 3) = .pointer (some ⟨gb, 0, none⟩) := hf 3 (by kernel_rfl)
            have hbW := bthen (below_drew _) (grow_below hX)
            exact wp_value (exec_load 26 _ rfl gb e3 26 b.cells _ (HQ.out.on hbW) Try.underlying26 rfl (sizeK _ HB.out.ok)) (hK _ _ rfl (grown_refl W _))
          · intro a0 vs W hX hR he hf K hK
            rw [if_pos (wanted_none rfl)]
            have e91 : a0.eval (.tmp 91) = .agg b.cells.toArray := (he 3 91 (by kernel_rfl) rfl).trans (hR 3 (by kernel_rfl))
            have hs2 : w3.heap.size ≤ W.heap.size := (grow_below hX).size
            refine wp_enter (f := 11) (args := #[.agg b.cells.toArray]) (by simp only [execOp, e91]; go_simp; simpa [Act.eval] using e91) ((bytes17_any b HB.out W).mono ?_)
            rintro e w' ⟨A', n', c', rfl, ho, hb⟩
            exact ⟨_, rfl, hK _ _ ⟨A', n', c', rfl, ho.mono hs2⟩ (below_grow hb _)⟩
          · intro a0 vs W hX hR he hf K hK
            rw [if_pos (wanted_none rfl)]
            have e92 := he 4 92 (by kernel_rfl) rfl
            have p92 := hR 4 (by kernel_rfl)
            change (OwnR w3.heap.size (bytesF b)) (vs 4) W at p92
            obtain ⟨A', n', c', hv, ho⟩ := p92
            rw [hv] at e92
            exact wp_value (exec_str 22 9 5 _ rfl Try.underlying22 Try.underlying5 Try.underlying9 A' n' c' (bytesF b) e92 ho.ok) (hK _ _ rfl (grown_refl W _))
          · intro a0 vs W hX hR he hf K hK
            rw [if_pos (wanted_none rfl)]
            have e90 : a0.eval (.tmp 90) = str (bytesF a) := (he 2 90 (by kernel_rfl) rfl).trans (hR 2 (by kernel_rfl))
            have e93 : a0.eval (.tmp 93) = str (bytesF b) := (he 5 93 (by kernel_rfl) rfl).trans (hR 5 (by kernel_rfl))
            exact wp_value (exec_eqS _ _ _ rfl (bytesF a) (bytesF b) _ ((same_bytes a b HA.out HB.out).trans HS.out.symm) e90 e93) (hK _ _ rfl (grown_refl W _))
          · intro a0 vs W hX hR he hf K hK
            rw [if_pos (wanted_none rfl)]
            have e94 : a0.eval (.tmp 94) = .bool false := (he 6 94 (by kernel_rfl) rfl).trans (hR 6 (by kernel_rfl))
            refine wp_value (v := .bool false) ?_ (hK _ _ rfl (grown_refl W _))
            simp only [execOp, e94]
            try go_simp
            try (first | rfl | omega | (simp only [IntKind.wrap_i64, IntKind.wrap_u8, IntKind.wrap_u64, IntKind.wrap_u16, IntKind.wrap_u32]; omega) | (rw [Int.tmod_eq_emod_of_nonneg (by omega)]) | (rw [Int.tmod_eq_emod_of_nonneg (by omega)]; omega))
          · intro vs w4 hX4 hR
            have q0 := hR 0 (by decide)
            have q1 := hR 1 (by decide)
            have q2 := hR 2 (by decide)
            have q3 := hR 3 (by decide)
            have q4 := hR 4 (by decide)
            have q5 := hR 5 (by decide)
            have q6 := hR 6 (by decide)
            have q7 := hR 7 (by decide)
            change vs 0 = .agg a.cells.toArray at q0
            change (OwnR w3.heap.size (bytesF a)) (vs 1) w4 at q1
            change vs 2 = str (bytesF a) at q2
            change vs 3 = .agg b.cells.toArray at q3
            change (OwnR w3.heap.size (bytesF b)) (vs 4) w4 at q4
            change vs 5 = str (bytesF b) at q5
            change vs 6 = .bool false at q6
            change vs 7 = .bool false at q7
            simp only [putAll, Act.put, List.setIfInBounds_toArray, List.set_cons_zero, List.set_cons_succ, q0, q2, q3, q5, q6, q7]
            clear q0 q2 q3 q5 q6 q7
            clear hR
            replace HP := Lib.hid (HP.out.on (bthen (below_drew _) (grow_below hX4)))
            replace HQ := Lib.hid (HQ.out.on (bthen (below_drew _) (grow_below hX4)))
            replace HW := Lib.hid (bthen HW.out (bthen (below_drew _) (grow_below hX4)))
            clear hX4 q1 q4
            go_wp2_with fail
            refine wp_region_rel (fun A B => A.grownBy B none) (fun A => grown_refl A _) (fun A B C h k => grown_trans h k) (relAt (List.cons (fun v _ => v = .bool false) (List.cons (fun v _ => v = .bool false) (List.cons (fun v _ => v = .bool true) (List.cons (fun v _ => v = .bool true) (List.cons (fun v _ => v = .bool false) (List.cons (fun v _ => v = .bool true) (List.cons (fun v _ => v = .bool true) (List.cons (fun v _ => v = undef) (List.cons (fun v _ => v = undef) (List.cons (fun v _ => v = undef) (List.cons (fun v _ => v = undef) (List.cons (fun v _ => v = undef) (List.cons (fun v _ => v = .bool true) (List.cons (fun v _ => v = .bool true) (List.cons (fun v _ => v = .bool true) ([]))))))))))))))))) (MonoL.at_ (.cons (mono_val _) (.cons (mono_val _) (.cons (mono_val _) (.cons (mono_val _) (.cons (mono_val _) (.cons (mono_val _) (.cons (mono_val _) (.cons (mono_val _) (.cons (mono_val _) (.cons (mono_val _) (.cons (mono_val _) (.cons (mono_val _) (.cons (mono_val _) (.cons (mono_val _) (.cons (mono_val _) .nil)))))))))))))))) (by kernel_rfl) (by kernel_rfl) ⟨?_, ?_, ?_, ?_, ?_, ?_, ?_, ?_, ?_, ?_, ?_, ?_, ?_, ?_, ?_, trivial⟩ ?_
            · intro a0 vs W hX hR he hf K hK
              rw [if_pos (wanted_none rfl)]
              have e9 : a0.eval (.tmp 9) = .bool false := hf 9 (by kernel_rfl)
              refine wp_value (v := .bool false) ?_ (hK _ _ rfl (grown_refl W _))
              simp only [execOp, e9]
              try go_simp
              try (first | rfl | omega | (simp only [IntKind.wrap_i64, IntKind.wrap_u8, IntKind.wrap_u64, IntKind.wrap_u16, IntKind.wrap_u32]; omega) | (rw [Int.tmod_eq_emod_of_nonneg (by omega)]) | (rw [Int.tmod_eq_emod_of_nonneg (by omega)]; omega))
            · intro a0 vs W hX hR he hf K hK
              rw [if_pos (wanted_none rfl)]
              have e8 : a0.eval (.tmp 8) = .bool false := hf 8 (by kernel_rfl)
              refine wp_value (v := .bool false) ?_ (hK _ _ rfl (grown_refl W _))
              simp only [execOp, e8]
              try go_simp
              try (first | rfl | omega | (simp only [IntKind.wrap_i64, IntKind.wrap_u8, IntKind.wrap_u64, IntKind.wrap_u16, IntKind.wrap_u32]; omega) | (rw [Int.tmod_eq_emod_of_nonneg (by omega)]) | (rw [Int.tmod_eq_emod_of_nonneg (by omega)]; omega))
            · intro a0 vs W hX hR he hf K hK
              rw [if_pos (wanted_none rfl)]
              have e95 : a0.eval (.tmp 95) = .bool false := (he 0 95 (by kernel_rfl) rfl).trans (hR 0 (by kernel_rfl))
              have e96 : a0.eval (.tmp 96) = .bool false := (he 1 96 (by kernel_rfl) rfl).trans (hR 1 (by kernel_rfl))
              refine wp_value (v := .bool true) ?_ (hK _ _ rfl (grown_refl W _))
              simp only [execOp, e95, e96]
              try go_simp
              try (first | rfl | omega | (simp only [IntKind.wrap_i64, IntKind.wrap_u8, IntKind.wrap_u64, IntKind.wrap_u16, IntKind.wrap_u32]; omega) | (rw [Int.tmod_eq_emod_of_nonneg (by omega)]) | (rw [Int.tmod_eq_emod_of_nonneg (by omega)]; omega))
            · intro a0 vs W hX hR he hf K hK
              rw [if_pos (wanted_none rfl)]
              have e97 : a0.eval (.tmp 97) = .bool true := (he 2 97 (by kernel_rfl) rfl).trans (hR 2 (by kernel_rfl))
              refine wp_value (v := .bool true) ?_ (hK _ _ rfl (grown_refl W _))
              simp only [execOp, e97]
              try go_simp
              try (first | rfl | omega | (simp only [IntKind.wrap_i64, IntKind.wrap_u8, IntKind.wrap_u64, IntKind.wrap_u16, IntKind.wrap_u32]; omega) | (rw [Int.tmod_eq_emod_of_nonneg (by omega)]) | (rw [Int.tmod_eq_emod_of_nonneg (by omega)]; omega))
            · intro a0 vs W hX hR he hf K hK
              have e98 : a0.eval (.tmp 98) = .bool true := (he 3 98 (by kernel_rfl) rfl).trans (hR 3 (by kernel_rfl))
              refine Eq.mpr (if_pos (by exact (wanted_some rfl rfl e98).trans rfl)) ?_
              have e8 : a0.eval (.tmp 8) = .bool false := hf 8 (by kernel_rfl)
              refine wp_value (v := .bool false) ?_ (hK _ _ rfl (grown_refl W _))
              simp only [execOp, e8]
              try go_simp
              try (first | rfl | omega | (simp only [IntKind.wrap_i64, IntKind.wrap_u8, IntKind.wrap_u64, IntKind.wrap_u16, IntKind.wrap_u32]; omega) | (rw [Int.tmod_eq_emod_of_nonneg (by omega)]) | (rw [Int.tmod_eq_emod_of_nonneg (by omega)]; omega))
            · intro a0 vs W hX hR he hf K hK
              have e98 : a0.eval (.tmp 98) = .bool true := (he 3 98 (by kernel_rfl) rfl).trans (hR 3 (by kernel_rfl))
              refine Eq.mpr (if_pos (by exact (wanted_some rfl rfl e98).trans rfl)) ?_
              have e99 : a0.eval (.tmp 99) = .bool false := (he 4 99 (by kernel_rfl) rfl).trans (hR 4 (by kernel_rfl))
              refine wp_value (v := .bool true) ?_ (hK _ _ rfl (grown_refl W _))
              simp only [execOp, e99]
              try go_simp
              try (first | rfl | omega | (simp only [IntKind.wrap_i64, IntKind.wrap_u8, IntKind.wrap_u64, IntKind.wrap_u16, IntKind.wrap_u32]; omega) | (rw [Int.tmod_eq_emod_of_nonneg (by omega)]) | (rw [Int.tmod_eq_emod_of_nonneg (by omega)]; omega))
            · intro a0 vs W hX hR he hf K hK
              have e98 : a0.eval (.tmp 98) = .bool true := (he 3 98 (by kernel_rfl) rfl).trans (hR 3 (by kernel_rfl))
              refine Eq.mpr (if_pos (by exact (wanted_some rfl rfl e98).trans rfl)) ?_
              have e100 : a0.eval (.tmp 100) = .bool true := (he 5 100 (by kernel_rfl) rfl).trans (hR 5 (by kernel_rfl))
              refine wp_value (v := .bool true) ?_ (hK _ _ rfl (grown_refl W _))
              simp only [execOp, e100]
              try go_simp
              try (first | rfl | omega | (simp only [IntKind.wrap_i64, IntKind.wrap_u8, IntKind.wrap_u64, IntKind.wrap_u16, IntKind.wrap_u32]; omega) | (rw [Int.tmod_eq_emod_of_nonneg (by omega)]) | (rw [Int.tmod_eq_emod_of_nonneg (by omega)]; omega))
            · intro a0 vs W hX hR he hf K hK
              have e101 : a0.eval (.tmp 101) = .bool true := (he 6 101 (by kernel_rfl) rfl).trans (hR 6 (by kernel_rfl))
              refine Eq.mpr (if_neg (fun hz => Bool.false_ne_true (Eq.trans (by exact Eq.symm ((wanted_some rfl rfl e101).trans rfl)) hz))) ?_
              exact hK _ _ rfl (grown_refl W _)
            · intro a0 vs W hX hR he hf K hK
              have e101 : a0.eval (.tmp 101) = .bool true := (he 6 101 (by kernel_rfl) rfl).trans (hR 6 (by kernel_rfl))
              refine Eq.mpr (if_neg (fun hz => Bool.false_ne_true (Eq.trans (by exact Eq.symm ((wanted_some rfl rfl e101).trans rfl)) hz))) ?_
              exact hK _ _ rfl (grown_refl W _)
            · intro a0 vs W hX hR he hf K hK
              have e101 : a0.eval (.tmp 101) = .bool true := (he 6 101 (by kernel_rfl) rfl).trans (hR 6 (by kernel_rfl))
              refine Eq.mpr (if_neg (fun hz => Bool.false_ne_true (Eq.trans (by exact Eq.symm ((wanted_some rfl rfl e101).trans rfl)) hz))) ?_
              exact hK _ _ rfl (grown_refl W _)
            · intro a0 vs W hX hR he hf K hK
              have e101 : a0.eval (.tmp 101) = .bool true := (he 6 101 (by kernel_rfl) rfl).trans (hR 6 (by kernel_rfl))
              refine Eq.mpr (if_neg (fun hz => Bool.false_ne_true (Eq.trans (by exact Eq.symm ((wanted_some rfl rfl e101).trans rfl)) hz))) ?_
              exact hK _ _ rfl (grown_refl W _)
            · intro a0 vs W hX hR he hf K hK
              have e101 : a0.eval (.tmp 101) = .bool true := (he 6 101 (by kernel_rfl) rfl).trans (hR 6 (by kernel_rfl))
              refine Eq.mpr (if_neg (fun hz => Bool.false_ne_true (Eq.trans (by exact Eq.symm ((wanted_some rfl rfl e101).trans rfl)) hz))) ?_
              exact hK _ _ rfl (grown_refl W _)
            · intro a0 vs W hX hR he hf K hK
              have e98 : a0.eval (.tmp 98) = .bool true := (he 3 98 (by kernel_rfl) rfl).trans (hR 3 (by kernel_rfl))
              refine Eq.mpr (if_pos (by exact (wanted_some rfl rfl e98).trans rfl)) ?_
              have e101 : a0.eval (.tmp 101) = .bool true := (he 6 101 (by kernel_rfl) rfl).trans (hR 6 (by kernel_rfl))
              have e106 : a0.eval (.tmp 106) = undef := (he 11 106 (by kernel_rfl) rfl).trans (hR 11 (by kernel_rfl))
              refine wp_value (v := .bool true) ?_ (hK _ _ rfl (grown_refl W _))
              simp only [execOp, e101, e106]
              try go_simp
              try (first | rfl | omega | (simp only [IntKind.wrap_i64, IntKind.wrap_u8, IntKind.wrap_u64, IntKind.wrap_u16, IntKind.wrap_u32]; omega) | (rw [Int.tmod_eq_emod_of_nonneg (by omega)]) | (rw [Int.tmod_eq_emod_of_nonneg (by omega)]; omega))
            · intro a0 vs W hX hR he hf K hK
              rw [if_pos (wanted_none rfl)]
              have e98 : a0.eval (.tmp 98) = .bool true := (he 3 98 (by kernel_rfl) rfl).trans (hR 3 (by kernel_rfl))
              have e107 : a0.eval (.tmp 107) = .bool true := (he 12 107 (by kernel_rfl) rfl).trans (hR 12 (by kernel_rfl))
              refine wp_value (v := .bool true) ?_ (hK _ _ rfl (grown_refl W _))
              simp only [execOp, e98, e107]
              try go_simp
              try (first | rfl | omega | (simp only [IntKind.wrap_i64, IntKind.wrap_u8, IntKind.wrap_u64, IntKind.wrap_u16, IntKind.wrap_u32]; omega) | (rw [Int.tmod_eq_emod_of_nonneg (by omega)]) | (rw [Int.tmod_eq_emod_of_nonneg (by omega)]; omega))
            · intro a0 vs W hX hR he hf K hK
              rw [if_pos (wanted_none rfl)]
              have e108 : a0.eval (.tmp 108) = .bool true := (he 13 108 (by kernel_rfl) rfl).trans (hR 13 (by kernel_rfl))
              refine wp_value (v := .bool true) ?_ (hK _ _ rfl (grown_refl W _))
              simp only [execOp, e108]
              try go_simp
              try (first | rfl | omega | (simp only [IntKind.wrap_i64, IntKind.wrap_u8, IntKind.wrap_u64, IntKind.wrap_u16, IntKind.wrap_u32]; omega) | (rw [Int.tmod_eq_emod_of_nonneg (by omega)]) | (rw [Int.tmod_eq_emod_of_nonneg (by omega)]; omega))
            · intro vs w5 hX5 hR
              have q0 := hR 0 (by decide)
              have q1 := hR 1 (by decide)
              have q2 := hR 2 (by decide)
              have q3 := hR 3 (by decide)
              have q4 := hR 4 (by decide)
              have q5 := hR 5 (by decide)
              have q6 := hR 6 (by decide)
              have q7 := hR 7 (by decide)
              have q8 := hR 8 (by decide)
              have q9 := hR 9 (by decide)
              have q10 := hR 10 (by decide)
              have q11 := hR 11 (by decide)
              have q12 := hR 12 (by decide)
              have q13 := hR 13 (by decide)
              have q14 := hR 14 (by decide)
              change vs 0 = .bool false at q0
              change vs 1 = .bool false at q1
              change vs 2 = .bool true at q2
              change vs 3 = .bool true at q3
              change vs 4 = .bool false at q4
              change vs 5 = .bool true at q5
              change vs 6 = .bool true at q6
              change vs 7 = undef at q7
              change vs 8 = undef at q8
              change vs 9 = undef at q9
              change vs 10 = undef at q10
              change vs 11 = undef at q11
              change vs 12 = .bool true at q12
              change vs 13 = .bool true at q13
              change vs 14 = .bool true at q14
              simp only [putAll, Act.put, List.setIfInBounds_toArray, List.set_cons_zero, List.set_cons_succ, q0, q1, q2, q3, q4, q5, q6, q7, q8, q9, q10, q11, q12, q13, q14]
              clear q0 q1 q2 q3 q4 q5 q6 q7 q8 q9 q10 q11 q12 q13 q14
              clear hR
              go_wp2
              go_ret
              exact ⟨rfl, bthen HW.out (bthen (below_drew _) (grow_below hX5))⟩
        · have HEQ := Lib.hid (same_hash a b HA.out HB.out HS.out.symm [])
          go_wp2_with fail
          refine wp_region_rel (fun A B => A.grownBy B none) (fun A => grown_refl A _) (fun A B C h k => grown_trans h k) (relAt (List.cons (fun v _ => v = .agg a.cells.toArray) (List.cons (OwnR w3.heap.size (bytesF a)) (List.cons (fun v _ => v = str (bytesF a)) (List.cons (fun v _ => v = .agg b.cells.toArray) (List.cons (OwnR w3.heap.size (bytesF b)) (List.cons (fun v _ => v = str (bytesF b)) (List.cons (fun v _ => v = .bool true) (List.cons (fun v _ => v = .bool true) ([])))))))))) (MonoL.at_ (.cons (mono_val _) (.cons (mono_own _ _) (.cons (mono_val _) (.cons (mono_val _) (.cons (mono_own _ _) (.cons (mono_val _) (.cons (mono_val _) (.cons (mono_val _) .nil))))))))) (by kernel_rfl) (by kernel_rfl) ⟨?_, ?_, ?_, ?_, ?_, ?_, ?_, ?_, trivial⟩ ?_
          · intro a0 vs W hX hR he hf K hK
            rw [if_pos (wanted_none rfl)]
            have e2 : a0.eval (.tmp 2) = .pointer (some ⟨ga, 0, none⟩) := hf 2 (by kernel_rfl)
            have hbW := bthen (below_drew _) (grow_below hX)
            exact wp_value (exec_load 26 _ rfl ga e2 26 a.cells _ (HP.out.on hbW) Try.underlying26 rfl (sizeK _ HA.out.ok)) (hK _ _ rfl (grown_refl W _))
          · intro a0 vs W hX hR he hf K hK
            rw [if_pos (wanted_none rfl)]
            have e88 : a0.eval (.tmp 88) = .agg a.cells.toArray := (he 0 88 (by kernel_rfl) rfl).trans (hR 0 (by kernel_rfl))
            have hs2 : w3.heap.size ≤ W.heap.size := (grow_below hX).size
            refine wp_enter (f := 11) (args := #[.agg a.cells.toArray]) (by simp only [execOp, e88]; go_simp; simpa [Act.eval] using e88) ((bytes17_any a HA.out W).mono ?_)
            rintro e w' ⟨A', n', c', rfl, ho, hb⟩
            exact ⟨_, rfl, hK _ _ ⟨A', n', c', rfl, ho.mono hs2⟩ (below_grow hb _)⟩
          · intro a0 vs W hX hR he hf K hK
            rw [if_pos (wanted_none rfl)]
            have e89 := he 1 89 (by kernel_rfl) rfl
            have p89 := hR 1 (by kernel_rfl)
            change (OwnR w3.heap.size (bytesF a)) (vs 1) W at p89
            obtain ⟨A', n', c', hv, ho⟩ := p89
            rw [hv] at e89
            exact wp_value (exec_str 22 9 5 _ rfl Try.underlying22 Try.underlying5 Try.underlying9 A' n' c' (bytesF a) e89 ho.ok) (hK _ _ rfl (grown_refl W _))
          · intro a0 vs W hX hR he hf K hK
            rw [if_pos (wanted_none rfl)]
            have e3 : a0.eval (.tmp 3) = .pointer (some ⟨gb, 0, none⟩) := hf 3 (by kernel_rfl)
            have hbW := bthen (below_drew _) (grow_below hX)
            exact wp_value (exec_load 26 _ rfl gb e3 26 b.cells _ (HQ.out.on hbW) Try.underlying26 rfl (sizeK _ HB.out.ok)) (hK _ _ rfl (grown_refl W _))
          · intro a0 vs W hX hR he hf K hK
            rw [if_pos (wanted_none rfl)]
            have e91 : a0.eval (.tmp 91) = .agg b.cells.toArray := (he 3 91 (by kernel_rfl) rfl).trans (hR 3 (by kernel_rfl))
            have hs2 : w3.heap.size ≤ W.heap.size := (grow_below hX).size
            refine wp_enter (f := 11) (args := #[.agg b.cells.toArray]) (by simp only [execOp, e91]; go_simp; simpa [Act.eval] using e91) ((bytes17_any b HB.out W).mono ?_)
            rintro e w' ⟨A', n', c', rfl, ho, hb⟩
            exact ⟨_, rfl, hK _ _ ⟨A', n', c', rfl, ho.mono hs2⟩ (below_grow hb _)⟩
          · intro a0 vs W hX hR he hf K hK
            rw [if_pos (wanted_none rfl)]
            have e92 := he 4 92 (by kernel_rfl) rfl
            have p92 := hR 4 (by kernel_rfl)
            change (OwnR w3.heap.size (bytesF b)) (vs 4) W at p92
            obtain ⟨A', n', c', hv, ho⟩ := p92
            rw [hv] at e92
            exact wp_value (exec_str 22 9 5 _ rfl Try.underlying22 Try.underlying5 Try.underlying9 A' n' c' (bytesF b) e92 ho.ok) (hK _ _ rfl (grown_refl W _))
          · intro a0 vs W hX hR he hf K hK
            rw [if_pos (wanted_none rfl)]
            have e90 : a0.eval (.tmp 90) = str (bytesF a) := (he 2 90 (by kernel_rfl) rfl).trans (hR 2 (by kernel_rfl))
            have e93 : a0.eval (.tmp 93) = str (bytesF b) := (he 5 93 (by kernel_rfl) rfl).trans (hR 5 (by kernel_rfl))
            exact wp_value (exec_eqS _ _ _ rfl (bytesF a) (bytesF b) _ ((same_bytes a b HA.out HB.out).trans HS.out.symm) e90 e93) (hK _ _ rfl (grown_refl W _))
          · intro a0 vs W hX hR he hf K hK
            rw [if_pos (wanted_none rfl)]
            have e94 : a0.eval (.tmp 94) = .bool true := (he 6 94 (by kernel_rfl) rfl).trans (hR 6 (by kernel_rfl))
            refine wp_value (v := .bool true) ?_ (hK _ _ rfl (grown_refl W _))
            simp only [execOp, e94]
            try go_simp
            try (first | rfl | omega | (simp only [IntKind.wrap_i64, IntKind.wrap_u8, IntKind.wrap_u64, IntKind.wrap_u16, IntKind.wrap_u32]; omega) | (rw [Int.tmod_eq_emod_of_nonneg (by omega)]) | (rw [Int.tmod_eq_emod_of_nonneg (by omega)]; omega))
          · intro vs w4 hX4 hR
            have q0 := hR 0 (by decide)
            have q1 := hR 1 (by decide)
            have q2 := hR 2 (by decide)
            have q3 := hR 3 (by decide)
            have q4 := hR 4 (by decide)
            have q5 := hR 5 (by decide)
            have q6 := hR 6 (by decide)
            have q7 := hR 7 (by decide)
            change vs 0 = .agg a.cells.toArray at q0
            change (OwnR w3.heap.size (bytesF a)) (vs 1) w4 at q1
            change vs 2 = str (bytesF a) at q2
            change vs 3 = .agg b.cells.toArray at q3
            change (OwnR w3.heap.size (bytesF b)) (vs 4) w4 at q4
            change vs 5 = str (bytesF b) at q5
            change vs 6 = .bool true at q6
            change vs 7 = .bool true at q7
            simp only [putAll, Act.put, List.setIfInBounds_toArray, List.set_cons_zero, List.set_cons_succ, q0, q2, q3, q5, q6, q7]
            clear q0 q2 q3 q5 q6 q7
            clear hR
            replace HP := Lib.hid (HP.out.on (bthen (below_drew _) (grow_below hX4)))
            replace HQ := Lib.hid (HQ.out.on (bthen (below_drew _) (grow_below hX4)))
            replace HW := Lib.hid (bthen HW.out (bthen (below_drew _) (grow_below hX4)))
            clear hX4 q1 q4
            go_wp2_with fail
            refine wp_region_rel (fun A B => A.grownBy B none) (fun A => grown_refl A _) (fun A B C h k => grown_trans h k) (relAt (List.cons (fun v _ => v = .bool true) (List.cons (fun v _ => v = .bool true) (List.cons (fun v _ => v = .bool true) (List.cons (fun v _ => v = .bool true) (List.cons (fun v _ => v = .bool true) (List.cons (fun v _ => v = .bool false) (List.cons (fun v _ => v = .bool false) (List.cons (fun v _ => v = .agg a.cells.toArray) (List.cons (fun v _ => v = .int .u32 (hashF a [] : Nat)) (List.cons (fun v _ => v = .agg b.cells.toArray) (List.cons (fun v _ => v = .int .u32 (hashF a [] : Nat)) (List.cons (fun v _ => v = .bool true) (List.cons (fun v _ => v = .bool true) (List.cons (fun v _ => v = .bool true) (List.cons (fun v _ => v = .bool true) ([]))))))))))))))))) (MonoL.at_ (.cons (mono_val _) (.cons (mono_val _) (.cons (mono_val _) (.cons (mono_val _) (.cons (mono_val _) (.cons (mono_val _) (.cons (mono_val _) (.cons (mono_val _) (.cons (mono_val _) (.cons (mono_val _) (.cons (mono_val _) (.cons (mono_val _) (.cons (mono_val _) (.cons (mono_val _) (.cons (mono_val _) .nil)))))))))))))))) (by kernel_rfl) (by kernel_rfl) ⟨?_, ?_, ?_, ?_, ?_, ?_, ?_, ?_, ?_, ?_, ?_, ?_, ?_, ?_, ?_, trivial⟩ ?_
            · intro a0 vs W hX hR he hf K hK
              rw [if_pos (wanted_none rfl)]
              have e9 : a0.eval (.tmp 9) = .bool true := hf 9 (by kernel_rfl)
              refine wp_value (v := .bool true) ?_ (hK _ _ rfl (grown_refl W _))
              simp only [execOp, e9]
              try go_simp
              try (first | rfl | omega | (simp only [IntKind.wrap_i64, IntKind.wrap_u8, IntKind.wrap_u64, IntKind.wrap_u16, IntKind.wrap_u32]; omega) | (rw [Int.tmod_eq_emod_of_nonneg (by omega)]) | (rw [Int.tmod_eq_emod_of_nonneg (by omega)]; omega))
            · intro a0 vs W hX hR he hf K hK
              rw [if_pos (wanted_none rfl)]
              have e8 : a0.eval (.tmp 8) = .bool true := hf 8 (by kernel_rfl)
              refine wp_value (v := .bool true) ?_ (hK _ _ rfl (grown_refl W _))
              simp only [execOp, e8]
              try go_simp
              try (first | rfl | omega | (simp only [IntKind.wrap_i64, IntKind.wrap_u8, IntKind.wrap_u64, IntKind.wrap_u16, IntKind.wrap_u32]; omega) | (rw [Int.tmod_eq_emod_of_nonneg (by omega)]) | (rw [Int.tmod_eq_emod_of_nonneg (by omega)]; omega))
            · intro a0 vs W hX hR he hf K hK
              rw [if_pos (wanted_none rfl)]
              have e95 : a0.eval (.tmp 95) = .bool true := (he 0 95 (by kernel_rfl) rfl).trans (hR 0 (by kernel_rfl))
              have e96 : a0.eval (.tmp 96) = .bool true := (he 1 96 (by kernel_rfl) rfl).trans (hR 1 (by kernel_rfl))
              refine wp_value (v := .bool true) ?_ (hK _ _ rfl (grown_refl W _))
              simp only [execOp, e95, e96]
              try go_simp
              try (first | rfl | omega | (simp only [IntKind.wrap_i64, IntKind.wrap_u8, IntKind.wrap_u64, IntKind.wrap_u16, IntKind.wrap_u32]; omega) | (rw [Int.tmod_eq_emod_of_nonneg (by omega)]) | (rw [Int.tmod_eq_emod_of_nonneg (by omega)]; omega))
            · intro a0 vs W hX hR he hf K hK
              rw [if_pos (wanted_none rfl)]
              have e97 : a0.eval (.tmp 97) = .bool true := (he 2 97 (by kernel_rfl) rfl).trans (hR 2 (by kernel_rfl))
              refine wp_value (v := .bool true) ?_ (hK _ _ rfl (grown_refl W _))
              simp only [execOp, e97]
              try go_simp
              try (first | rfl | omega | (simp only [IntKind.wrap_i64, IntKind.wrap_u8, IntKind.wrap_u64, IntKind.wrap_u16, IntKind.wrap_u32]; omega) | (rw [Int.tmod_eq_emod_of_nonneg (by omega)]) | (rw [Int.tmod_eq_emod_of_nonneg (by omega)]; omega))
            · intro a0 vs W hX hR he hf K hK
              have e98 : a0.eval (.tmp 98) = .bool true := (he 3 98 (by kernel_rfl) rfl).trans (hR 3 (by kernel_rfl))
              refine Eq.mpr (if_pos (by exact (wanted_some rfl rfl e98).trans rfl)) ?_
              have e8 : a0.eval (.tmp 8) = .bool true := hf 8 (by kernel_rfl)
              refine wp_value (v := .bool true) ?_ (hK _ _ rfl (grown_refl W _))
              simp only [execOp, e8]
              try go_simp
              try (first | rfl | omega | (simp only [IntKind.wrap_i64, IntKind.wrap_u8, IntKind.wrap_u64, IntKind.wrap_u16, IntKind.wrap_u32]; omega) | (rw [Int.tmod_eq_emod_of_nonneg (by omega)]) | (rw [Int.tmod_eq_emod_of_nonneg (by omega)]; omega))
            · intro a0 vs W hX hR he hf K hK
              have e98 : a0.eval (.tmp 98) = .bool true := (he 3 98 (by kernel_rfl) rfl).trans (hR 3 (by kernel_rfl))
              refine Eq.mpr (if_pos (by exact (wanted_some rfl rfl e98).trans rfl)) ?_
              have e99 : a0.eval (.tmp 99) = .bool true := (he 4 99 (by kernel_rfl) rfl).trans (hR 4 (by kernel_rfl))
              refine wp_value (v := .bool false) ?_ (hK _ _ rfl (grown_refl W _))
              simp only [execOp, e99]
              try go_simp
              try (first | rfl | omega | (simp only [IntKind.wrap_i64, IntKind.wrap_u8, IntKind.wrap_u64, IntKind.wrap_u16, IntKind.wrap_u32]; omega) | (rw [Int.tmod_eq_emod_of_nonneg (by omega)]) | (rw [Int.tmod_eq_emod_of_nonneg (by omega)]; omega))
            · intro a0 vs W hX hR he hf K hK
              have e98 : a0.eval (.tmp 98) = .bool true := (he 3 98 (by kernel_rfl) rfl).trans (hR 3 (by kernel_rfl))
              refine Eq.mpr (if_pos (by exact (wanted_some rfl rfl e98).trans rfl)) ?_
              have e100 : a0.eval (.tmp 100) = .bool false := (he 5 100 (by kernel_rfl) rfl).trans (hR 5 (by kernel_rfl))
              refine wp_value (v := .bool false) ?_ (hK _ _ rfl (grown_refl W _))
              simp only [execOp, e100]
              try go_simp
              try (first | rfl | omega | (simp only [IntKind.wrap_i64, IntKind.wrap_u8, IntKind.wrap_u64, IntKind.wrap_u16, IntKind.wrap_u32]; omega) | (rw [Int.tmod_eq_emod_of_nonneg (by omega)]) | (rw [Int.tmod_eq_emod_of_nonneg (by omega)]; omega))
            · intro a0 vs W hX hR he hf K hK
              have e101 : a0.eval (.tmp 101) = .bool false := (he 6 101 (by kernel_rfl) rfl).trans (hR 6 (by kernel_rfl))
              refine Eq.mpr (if_pos (by exact (wanted_some rfl rfl e101).trans rfl)) ?_
              have e2 : a0.eval (.tmp 2) = .pointer (some ⟨ga, 0, none⟩) := hf 2 (by kernel_rfl)
              have hbW := bthen (below_drew _) (grow_below hX)
              exact wp_value (exec_load 26 _ rfl ga e2 26 a.cells _ (HP.out.on hbW) Try.underlying26 rfl (sizeK _ HA.out.ok)) (hK _ _ rfl (grown_refl W _))
            · intro a0 vs W hX hR he hf K hK
              have e101 : a0.eval (.tmp 101) = .bool false := (he 6 101 (by kernel_rfl) rfl).trans (hR 6 (by kernel_rfl))
              refine Eq.mpr (if_pos (by exact (wanted_some rfl rfl e101).trans rfl)) ?_
              have e102 : a0.eval (.tmp 102) = .agg a.cells.toArray := (he 7 102 (by kernel_rfl) rfl).trans (hR 7 (by kernel_rfl))
              refine wp_enter (f := 15) (args := #[.agg a.cells.toArray, .slice none 0 0]) (by simp only [execOp, e102]; go_simp; simpa [Act.eval] using e102) ((hash_any a HA.out none 0 0 [] W (Row.nil _ _ _ _) (by simp) (by omega)).mono ?_)
              rintro e w' ⟨rfl, hb⟩
              exact ⟨_, rfl, hK _ _ rfl (below_grow hb _)⟩
            · intro a0 vs W hX hR he hf K hK
              have e101 : a0.eval (.tmp 101) = .bool false := (he 6 101 (by kernel_rfl) rfl).trans (hR 6 (by kernel_rfl))
              refine Eq.mpr (if_pos (by exact (wanted_some rfl rfl e101).trans rfl)) ?_
              have e3 : a0.eval (.tmp 3) = .pointer (some ⟨gb, 0, none⟩) := hf 3 (by kernel_rfl)
              have hbW := bthen (below_drew _) (grow_below hX)
              exact wp_value (exec_load 26 _ rfl gb e3 26 b.cells _ (HQ.out.on hbW) Try.underlying26 rfl (sizeK _ HB.out.ok)) (hK _ _ rfl (grown_refl W _))
            · intro a0 vs W hX hR he hf K hK
              have e101 : a0.eval (.tmp 101) = .bool false := (he 6 101 (by kernel_rfl) rfl).trans (hR 6 (by kernel_rfl))
              refine Eq.mpr (if_pos (by exact (wanted_some rfl rfl e101).trans rfl)) ?_
              have e104 : a0.eval (.tmp 104) = .agg b.cells.toArray := (he 9 104 (by kernel_rfl) rfl).trans (hR 9 (by kernel_rfl))
              refine wp_enter (f := 15) (args := #[.agg b.cells.toArray, .slice none 0 0]) (by simp only [execOp, e104]; go_simp; simpa [Act.eval] using e104) ((hash_any b HB.out none 0 0 [] W (Row.nil _ _ _ _) (by simp) (by omega)).mono ?_)
              rintro e w' ⟨rfl, hb⟩
              exact ⟨_, rfl, hK _ _ (congrArg (fun n : Nat => Value.int .u32 (n : Int)) HEQ.out.symm) (below_grow hb _)⟩
            · intro a0 vs W hX hR he hf K hK
              have e101 : a0.eval (.tmp 101) = .bool false := (he 6 101 (by kernel_rfl) rfl).trans (hR 6 (by kernel_rfl))
              refine Eq.mpr (if_pos (by exact (wanted_some rfl rfl e101).trans rfl)) ?_
              have e103 : a0.eval (.tmp 103) = .int .u32 (hashF a [] : Nat) := (he 8 103 (by kernel_rfl) rfl).trans (hR 8 (by kernel_rfl))
              have e105 : a0.eval (.tmp 105) = .int .u32 (hashF a [] : Nat) := (he 10 105 (by kernel_rfl) rfl).trans (hR 10 (by kernel_rfl))
              refine wp_value (v := .bool true) ?_ (hK _ _ rfl (grown_refl W _))
              simp only [execOp, e103, e105]
              try go_simp
              try (first | rfl | omega | (simp only [IntKind.wrap_i64, IntKind.wrap_u8, IntKind.wrap_u64, IntKind.wrap_u16, IntKind.wrap_u32]; omega) | (rw [Int.tmod_eq_emod_of_nonneg (by omega)]) | (rw [Int.tmod_eq_emod_of_nonneg (by omega)]; omega))
            · intro a0 vs W hX hR he hf K hK
              have e98 : a0.eval (.tmp 98) = .bool true := (he 3 98 (by kernel_rfl) rfl).trans (hR 3 (by kernel_rfl))
              refine Eq.mpr (if_pos (by exact (wanted_some rfl rfl e98).trans rfl)) ?_
              have e101 : a0.eval (.tmp 101) = .bool false := (he 6 101 (by kernel_rfl) rfl).trans (hR 6 (by kernel_rfl))
              have e106 : a0.eval (.tmp 106) = .bool true := (he 11 106 (by kernel_rfl) rfl).trans (hR 11 (by kernel_rfl))
              refine wp_value (v := .bool true) ?_ (hK _ _ rfl (grown_refl W _))
              simp only [execOp, e101, e106]
              try go_simp
              try (first | rfl | omega | (simp only [IntKind.wrap_i64, IntKind.wrap_u8, IntKind.wrap_u64, IntKind.wrap_u16, IntKind.wrap_u32]; omega) | (rw [Int.tmod_eq_emod_of_nonneg (by omega)]) | (rw [Int.tmod_eq_emod_of_nonneg (by omega)]; omega))
            · intro a0 vs W hX hR he hf K hK
              rw [if_pos (wanted_none rfl)]
              have e98 : a0.eval (.tmp 98) = .bool true := (he 3 98 (by kernel_rfl) rfl).trans (hR 3 (by kernel_rfl))
              have e107 : a0.eval (.tmp 107) = .bool true := (he 12 107 (by kernel_rfl) rfl).trans (hR 12 (by kernel_rfl))
              refine wp_value (v := .bool true) ?_ (hK _ _ rfl (grown_refl W _))
              simp only [execOp, e98, e107]
              try go_simp
              try (first | rfl | omega | (simp only [IntKind.wrap_i64, IntKind.wrap_u8, IntKind.wrap_u64, IntKind.wrap_u16, IntKind.wrap_u32]; omega) | (rw [Int.tmod_eq_emod_of_nonneg (by omega)]) | (rw [Int.tmod_eq_emod_of_nonneg (by omega)]; omega))
            · intro a0 vs W hX hR he hf K hK
              rw [if_pos (wanted_none rfl)]
              have e108 : a0.eval (.tmp 108) = .bool true := (he 13 108 (by kernel_rfl) rfl).trans (hR 13 (by kernel_rfl))
              refine wp_value (v := .bool true) ?_ (hK _ _ rfl (grown_refl W _))
              simp only [execOp, e108]
              try go_simp
              try (first | rfl | omega | (simp only [IntKind.wrap_i64, IntKind.wrap_u8, IntKind.wrap_u64, IntKind.wrap_u16, IntKind.wrap_u32]; omega) | (rw [Int.tmod_eq_emod_of_nonneg (by omega)]) | (rw [Int.tmod_eq_emod_of_nonneg (by omega)]; omega))
            · intro vs w5 hX5 hR
              have q0 := hR 0 (by decide)
              have q1 := hR 1 (by decide)
              have q2 := hR 2 (by decide)
              have q3 := hR 3 (by decide)
              have q4 := hR 4 (by decide)
              have q5 := hR 5 (by decide)
              have q6 := hR 6 (by decide)
              have q7 := hR 7 (by decide)
              have q8 := hR 8 (by decide)
              have q9 := hR 9 (by decide)
              have q10 := hR 10 (by decide)
              have q11 := hR 11 (by decide)
              have q12 := hR 12 (by decide)
              have q13 := hR 13 (by decide)
              have q14 := hR 14 (by decide)
              change vs 0 = .bool true at q0
              change vs 1 = .bool true at q1
              change vs 2 = .bool true at q2
              change vs 3 = .bool true at q3
              change vs 4 = .bool true at q4
              change vs 5 = .bool false at q5
              change vs 6 = .bool false at q6
              change vs 7 = .agg a.cells.toArray at q7
              change vs 8 = .int .u32 (hashF a [] : Nat) at q8
              change vs 9 = .agg b.cells.toArray at q9
              change vs 10 = .int .u32 (hashF a [] : Nat) at q10
              change vs 11 = .bool true at q11
              change vs 12 = .bool true at q12
              change vs 13 = .bool true at q13
              change vs 14 = .bool true at q14
              simp only [putAll, Act.put, List.setIfInBounds_toArray, List.set_cons_zero, List.set_cons_succ, q0, q1, q2, q3, q4, q5, q6, q7, q8, q9, q10, q11, q12, q13, q14]
              clear q0 q1 q2 q3 q4 q5 q6 q7 q8 q9 q10 q11 q12 q13 q14
              clear hR
              go_wp2
              go_ret
              exact ⟨rfl, bthen HW.out (bthen (below_drew _) (grow_below hX5))⟩

end Go.Proofs.Ythjjcglheialfaa

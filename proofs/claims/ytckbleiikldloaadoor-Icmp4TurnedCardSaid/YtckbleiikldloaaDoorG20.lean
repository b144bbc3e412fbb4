/- Texts of this claim put together, in build order: each one's own remark stands ahead of it. -/
import Derived.Test.YtckbleiikldloaaDoorG19
import Derived.ChangeKeysEq
import Derived.Laws.StructEq
/- What icmp4.Get (layer 23) computes where the packet doesn't read; the index of a pair. No condition but sizes. -/
namespace Go.Proofs.YtckbleiikldloaaDoor
open Go.RowKit
set_option linter.unusedVariables false
set_option maxRecDepth 20000
set_option linter.unusedSimpArgs false

abbrev Got := Int × Int × List UInt8 × List Ent
def noGot : Got := (0, 0, [], [])
/-- the kind of a type and a code -/
def kind4F (u v : Nat) : Int := if u = 11 ∧ v = 0 then 0 else if u = 3 ∧ v = 4 then 1 else if u = 3 ∧ v = 0 then 2 else -1
theorem kind4F_bd (u v : Nat) : -1 ≤ kind4F u v ∧ kind4F u v ≤ 2 := by
  unfold kind4F
  split
  · omega
  · split
    · omega
    · split <;> omega
def badK4 (k : Int) (mtu : Nat) : Bool := decide (k < 0) || (decide (k ≠ 1) && decide (mtu ≠ 0))
/-- what a body tells -/
def gotF4 (S : List UInt8) (k : Int) (mtu : Nat) : Got × Int :=
  if badK4 k mtu || decide ((S.getD 4 0).toNat ≠ 0) then (noGot, 15) else
  if (S.getD 5 0).toNat = 0 then (if 136 < S.length then (noGot, 15) else ((k, (mtu : Int), S.drop 8, []), 0)) else
  if (S.getD 5 0).toNat = 32 then (if S.length < 136 then (noGot, 15) else if (toldG (S.drop 136)).2 ≠ 0 then (noGot, (toldG (S.drop 136)).2) else ((k, (mtu : Int), (S.drop 8).take 128, (toldG (S.drop 136)).1), 0))
  else (noGot, 15)
def getF4 (l : List UInt8) : Got × Int :=
  if (readF4 l).2 ≠ 0 then (noGot, (readF4 l).2) else gotF4 (readF4 l).1 (kind4F ((readF4 l).1.getD 0 0).toNat ((readF4 l).1.getD 1 0).toNat) (numF (readF4 l).1 6 2)
theorem readF4_len (l : List UInt8) (h : (readF4 l).2 = 0) : 8 ≤ (readF4 l).1.length ∧ (readF4 l).1.length ≤ l.length := by
  have hb := body4_le l
  unfold readF4 at h ⊢
  split at h
  · rename_i h1; exact absurd h h1
  · split at h
    · cases h
    · split at h
      · cases h
      · split at h
        · cases h
        · rename_i h1 h2 h3 h4
          rw [if_neg h1, if_neg h2, if_neg h3, if_neg h4]
          show 8 ≤ (body4 l).length ∧ (body4 l).length ≤ l.length
          exact ⟨by omega, hb⟩
theorem outs_fit (l : List UInt8) (n : Nat) : ∀ x ∈ outs l n, x.fit := by
  intro x hx
  obtain ⟨k, _, rfl⟩ := List.mem_map.1 hx
  unfold entAt unpE
  split
  · exact ⟨by decide, by decide, by decide, by decide, by decide, by decide⟩
  · rename_i h
    have hb := be_bd ((l.drop (4 * k)).take 4) 4 (by rw [List.length_take]; omega)
    exact ⟨by simp only; omega, by simp only; omega, by simp only; omega, by simp only; omega, by simp only; omega, by simp only; omega⟩
theorem told_fit (l : List UInt8) : ∀ x ∈ (toldG l).1, x.fit := by
  unfold toldG
  split
  · simp
  · split
    · simp
    · split
      · simp
      · exact outs_fit _ _
def Mp.got (m : Mp) : Got := (m.kind, m.mtu, m.beg, m.st)
def Mp.zero : Mp := ⟨0, 0, none, 0, 0, [], none, 0, 0, []⟩
theorem Mp.zero_ok (w : World) : Mp.zero.ok w := ⟨by decide, by decide, Row.nil _ _ _ _, Nat.le_refl _, Nat.zero_le _, Row.nil _ _ _ _, Nat.le_refl _, Nat.zero_le _, by simp [Mp.zero]⟩

set_option maxHeartbeats 1000000 in
theorem get23_no (A : Option Addr) (n c : Nat) (l : List UInt8) (w : World) (h : Row w w.heap.size 1 A n (bv l)) (hc : n ≤ c) (hcm : c ≤ maxLen) (hn : n ≤ 1000000) (he : (readF4 l).2 ≠ 0) :
    Calls Tryd.prog 11 #[.slice A n c] w fun e w' => e = .returned (.tuple #[.agg Mp.zero.cells.toArray, .int .i64 (readF4 l).2]) ∧ Below w.heap.size w w' := by
  have RD := Lib.hid (fun (w' : World) (hr : Row w' w'.heap.size 1 A n (bv l)) => read23_any A n c l w' hr hc hcm hn)
  obtain ⟨er, her⟩ : ∃ er, (readF4 l).2 = er := ⟨_, rfl⟩
  rw [her] at RD he ⊢
  have hne : (er != 0) = true := by simpa using he
  have HH := Lib.hid h
  clear h her he
  obtain ⟨g0, hg0⟩ : ∃ g, w.heap.size = g := ⟨_, rfl⟩
  go_enter Tryd.func11, Tryd.ntmps11
  go_upto_region 1 with (refine wpList_alloc_blk (by rfl) 25 rfl Mp.zero.cells zeroMp ?_; intro w1 hb1 hB1 hs1)
  rw [hg0] at hb1
  try rw [hg0]
  have HK := Lib.hid hb1
  have HW := Lib.hid hB1
  have HG := Lib.hid hg0
  clear hb1 hB1 hs1 hg0
  go_wp2_with fail
  refine (RD.out w1 ((HH.out.below HW.out).more HW.out.size)).mono ?_
  rintro e w2 ⟨r, rfl, hl2, ho2, hb2⟩
  replace HW := Lib.hid (bthen HW.out hb2)
  replace HK := Lib.hid (HK.out.on hb2)
  have hk := HK.out
  clear hl2 ho2 hb2
  go_wp2_with (refine wpList_store_all (by rfl) 25 _ _ rfl g0 Mp.zero.cells rfl rfl 25 _ hk (sizeMp _) rfl (oneMp _) ?_; intro w3 hb3 hg3 hs3)
  have hB3 : Below w.heap.size w w3 := bgrown HW.out hg3 HW.out.size (by have := HG.out; omega)
  refine bodyPost_ret (results_cell2 rfl _ _ g0 _ _ _ rfl hb3 Tryd.underlying25 rfl (sizeMp Mp.zero)) rfl ⟨rfl, hB3⟩
theorem sameP2 (x y x' y' : Int) (w : World) : (Op.equalIn 10000 52 (.agg #[.int .u8 x, .int .u8 y]) (.agg #[.int .u8 x', .int .u8 y'])).run Tryd.prog w = .ok (x == x' && y == y') w := by
  obtain ⟨i, hi, _⟩ := info_parts infoByte
  have hc : Tryd.prog.cellsOf 5 = 1 := by kernel_rfl
  have p0 : ∀ a b : Int, (part 5 #[.int .u8 a, .int .u8 b] 0).run Tryd.prog w = .ok (.int .u8 a) w := fun a b => part_one (by kernel_rfl) rfl
  have p1 : ∀ a b : Int, (part 5 #[.int .u8 a, .int .u8 b] 1).run Tryd.prog w = .ok (.int .u8 b) w := fun a b => part_one (by kernel_rfl) rfl
  have e0 := fun a b => run_equalIn_int (P := Tryd.prog) w 9998 5 .u8 .u8 a b Tryd.underlying5
  rw [run_equalIn_array w 9999 _ _ Tryd.underlying52 hi, hc]
  show (Op.eqItems 9999 5 1 _ _ [0, 1]).run _ _ = _
  simp only [Op.eqItems, Sem.run_bind, Nat.zero_mul, Nat.one_mul, p0, p1, e0, Result.andThen_ok]
  by_cases h1 : x = x'
  · by_cases h2 : y = y'
    · simp [h1, h2, p0, p1, e0]
    · simp [h1, h2, p0, p1, e0]
  · simp [h1, p0, p1, e0]
theorem exec_eqP2 {w : World} {o : Oper} {a : Act} (x y : Operand) (ty : TypeId) (ho : o.op = .binOp .eql 52 x y ty) (p q p' q' : Int) (B : Bool) (hB : (p == p' && q == q') = B) (hx : a.eval x = .agg #[.int .u8 p, .int .u8 q]) (hy : a.eval y = .agg #[.int .u8 p', .int .u8 q']) : (execOp a.eval o).run Tryd.prog w = .ok (.value (.bool B)) w := by
  unfold execOp
  simp only [ho, hx, hy, Sem.run_bind, run_eqGuard_agg w .eql 52 x y _ _ (show Tryd.prog.eqGuardType Tryd.prog.depth 52 = false by kernel_rfl), run_eql_struct, sameP2, hB, Result.andThen_ok]
  rfl
set_option maxHeartbeats 1000000 in
theorem indexP_any (g : Nat) (u y : Nat) (w : World) (hg : g < w.heap.size) (hc : ∀ j x, typs[j]? = some x → w.cell? ⟨g, j, none⟩ = some x) :
    Calls Tryd.prog 29 #[.slice (some ⟨g, 0, none⟩) 3 3, .agg #[.int .u8 (u : Int), .int .u8 (y : Int)]] w fun e w' => e = .returned (.int .i64 (kind4F u y)) ∧ Below w.heap.size w w' := by
  have HC := Lib.hid hc
  have HG := Lib.hid hg
  clear hc hg
  go_enter Tryd.func29, Tryd.ntmps29
  go_upto_region 1 with (refine wpList_box_blk (by rfl) 52 (.tmp 1) rfl [.int .u8 (u : Int), .int .u8 (y : Int)] rfl ?_; intro w1 hb1 hB1 hs1; clear hs1)
  obtain ⟨gb, hgb⟩ : ∃ g, w.heap.size = g := ⟨_, rfl⟩
  rw [hgb] at hb1
  try rw [hgb]
  have HB := Lib.hid hb1
  have HW := Lib.hid hB1
  clear hb1 hB1 hgb
  go_wp2_with fail
  go_loopw [8] (fun i wr => ∃ k : Nat, k ≤ 3 ∧ i = .int .i64 (k : Nat) ∧ (1 ≤ k → ¬ (u = 11 ∧ y = 0)) ∧ (2 ≤ k → ¬ (u = 3 ∧ y = 4)) ∧ (3 ≤ k → ¬ (u = 3 ∧ y = 0)) ∧ Below w1.heap.size w1 wr) (fun i _ => 3 - (intOf i).toNat)
  case atStart => exact ⟨0, by omega, rfl, by omega, by omega, by omega, Below.refl _ _⟩
  case round =>
    obtain ⟨k, hk, rfl, k1, k2, k3, hBe⟩ := hrel
    have hcase : k = 0 ∨ k = 1 ∨ k = 2 ∨ k = 3 := by omega
    have HK1 := Lib.hid k1
    have HK2 := Lib.hid k2
    have HK3 := Lib.hid k3
    have HWR := Lib.hid (bthen HW.out hBe)
    have HBR := Lib.hid (HB.out.on hBe)
    have HBE := Lib.hid hBe
    clear k1 k2 k3 hBe
    rcases hcase with rfl | rfl | rfl | rfl
    · by_cases hq : u = 11 ∧ y = 0
      · have HQ := Lib.hid (show (((u : Int) == 11) && ((y : Int) == 0)) = true by obtain ⟨h1, h2⟩ := hq; subst h1 h2; rfl)
        have HV := Lib.hid (show kind4F u y = 0 by obtain ⟨h1, h2⟩ := hq; subst h1 h2; rfl)
        clear hq
        go_wp2_with fail
        refine wp_region_rel (fun A B => A.grownBy B none) (fun A => grown_refl A _) (fun A B C h k => grown_trans h k) (relAt (List.cons (fun v _ => v = .agg #[.int .u8 (u : Int), .int .u8 (y : Int)]) (List.cons (fun v _ => v = .slice (some ⟨g, 0, none⟩) 3 3) (List.cons (fun v _ => v = .int .i64 0) (List.cons (fun v _ => v = .pointer (some ⟨g, 0, none⟩)) (List.cons (fun v _ => v = .agg #[.int .u8 11, .int .u8 0]) (List.cons (fun v _ => v = .bool true) ([])))))))) (MonoL.at_ (.cons (mono_val _) (.cons (mono_val _) (.cons (mono_val _) (.cons (mono_val _) (.cons (mono_val _) (.cons (mono_val _) .nil))))))) (by kernel_rfl) (by kernel_rfl) ⟨?_, ?_, ?_, ?_, ?_, ?_, trivial⟩ ?_
        · intro a vs W hX hR he hf K hK
          rw [if_pos (wanted_none rfl)]
          have e3 : a.eval (.tmp 3) = .pointer (some ⟨gb, 0, none⟩) := hf 3 (by kernel_rfl)
          have hbW := bthen (below_drew _) (grow_below hX)
          exact wp_value (exec_load 52 _ rfl gb e3 52 [.int .u8 (u : Int), .int .u8 (y : Int)] _ (HBR.out.on hbW) Tryd.underlying52 rfl (size2 _ _)) (hK _ _ rfl (grown_refl W _))
        · intro a vs W hX hR he hf K hK
          rw [if_pos (wanted_none rfl)]
          have e0 : a.eval (.tmp 0) = .slice (some ⟨g, 0, none⟩) 3 3 := hf 0 (by kernel_rfl)
          refine wp_value (v := .slice (some ⟨g, 0, none⟩) 3 3) ?_ (hK _ _ rfl (grown_refl W _))
          simp only [execOp, e0]
          try go_simp
          try (first | rfl | omega | (simp only [IntKind.wrap_i64, IntKind.wrap_u8, IntKind.wrap_u64, IntKind.wrap_u16, IntKind.wrap_u32]; omega) | (rw [Int.tmod_eq_emod_of_nonneg (by omega)]) | (rw [Int.tmod_eq_emod_of_nonneg (by omega)]; omega))
        · intro a vs W hX hR he hf K hK
          rw [if_pos (wanted_none rfl)]
          have e5 : a.eval (.tmp 5) = .int .i64 0 := hf 5 (by kernel_rfl)
          refine wp_value (v := .int .i64 0) ?_ (hK _ _ rfl (grown_refl W _))
          simp only [execOp, e5]
          try go_simp
          try (first | rfl | omega | (simp only [IntKind.wrap_i64, IntKind.wrap_u8, IntKind.wrap_u64, IntKind.wrap_u16, IntKind.wrap_u32]; omega) | (rw [Int.tmod_eq_emod_of_nonneg (by omega)]) | (rw [Int.tmod_eq_emod_of_nonneg (by omega)]; omega))
        · intro a vs W hX hR he hf K hK
          rw [if_pos (wanted_none rfl)]
          have e12 : a.eval (.tmp 12) = .slice (some ⟨g, 0, none⟩) 3 3 := (he 1 12 (by kernel_rfl) rfl).trans (hR 1 (by kernel_rfl))
          have e13 : a.eval (.tmp 13) = .int .i64 0 := (he 2 13 (by kernel_rfl) rfl).trans (hR 2 (by kernel_rfl))
          refine wp_value (v := .pointer (some ⟨g, 0, none⟩)) ?_ (hK _ _ rfl (grown_refl W _))
          simp only [execOp, e12, e13]
          go_simp
        · intro a vs W hX hR he hf K hK
          rw [if_pos (wanted_none rfl)]
          have e14 : a.eval (.tmp 14) = .pointer (some ⟨g, 0, none⟩) := (he 3 14 (by kernel_rfl) rfl).trans (hR 3 (by kernel_rfl))
          have hbW := bthen (below_drew _) (grow_below hX)
          have hbX := bthen HWR.out hbW
          exact wp_value (exec_load_mid 52 _ rfl g 0 e14 [.int .u8 11, .int .u8 0] _ (fun j x hx => (hbX.cell (p := ⟨g, _, none⟩) HG.out).trans (HC.out (0 + j) x (by match j, hx with | 0, hx => exact hx | 1, hx => exact hx | j + 2, hx => simp at hx))) Tryd.underlying52 rfl (size2 _ _)) (hK _ _ rfl (grown_refl W _))
        · intro a vs W hX hR he hf K hK
          rw [if_pos (wanted_none rfl)]
          have e11 : a.eval (.tmp 11) = .agg #[.int .u8 (u : Int), .int .u8 (y : Int)] := (he 0 11 (by kernel_rfl) rfl).trans (hR 0 (by kernel_rfl))
          have e15 : a.eval (.tmp 15) = .agg #[.int .u8 11, .int .u8 0] := (he 4 15 (by kernel_rfl) rfl).trans (hR 4 (by kernel_rfl))
          exact wp_value (exec_eqP2 _ _ _ rfl _ _ _ _ true HQ.out e11 e15) (hK _ _ rfl (grown_refl W _))
        · intro vs wx hXx hR
          have q0 := hR 0 (by decide)
          have q1 := hR 1 (by decide)
          have q2 := hR 2 (by decide)
          have q3 := hR 3 (by decide)
          have q4 := hR 4 (by decide)
          have q5 := hR 5 (by decide)
          change vs 0 = .agg #[.int .u8 (u : Int), .int .u8 (y : Int)] at q0
          change vs 1 = .slice (some ⟨g, 0, none⟩) 3 3 at q1
          change vs 2 = .int .i64 0 at q2
          change vs 3 = .pointer (some ⟨g, 0, none⟩) at q3
          change vs 4 = .agg #[.int .u8 11, .int .u8 0] at q4
          change vs 5 = .bool true at q5
          simp only [putAll, Act.put, List.setIfInBounds_toArray, List.set_cons_zero, List.set_cons_succ, q0, q1, q2, q3, q4, q5]
          clear q0 q1 q2 q3 q4 q5
          clear hR
          have hbx := bthen HWR.out (bthen (below_drew _) (grow_below hXx))
          clear hXx
          go_wp2_with fail
          go_ret
          exact ⟨by rw [HV.out]; rfl, hbx⟩
      · have HQ := Lib.hid (show (((u : Int) == 11) && ((y : Int) == 0)) = false by
          cases h : (((u : Int) == 11) && ((y : Int) == 0))
          · rfl
          · exfalso
            simp at h
            omega)
        go_wp2_with fail
        refine wp_region_rel (fun A B => A.grownBy B none) (fun A => grown_refl A _) (fun A B C h k => grown_trans h k) (relAt (List.cons (fun v _ => v = .agg #[.int .u8 (u : Int), .int .u8 (y : Int)]) (List.cons (fun v _ => v = .slice (some ⟨g, 0, none⟩) 3 3) (List.cons (fun v _ => v = .int .i64 0) (List.cons (fun v _ => v = .pointer (some ⟨g, 0, none⟩)) (List.cons (fun v _ => v = .agg #[.int .u8 11, .int .u8 0]) (List.cons (fun v _ => v = .bool false) ([])))))))) (MonoL.at_ (.cons (mono_val _) (.cons (mono_val _) (.cons (mono_val _) (.cons (mono_val _) (.cons (mono_val _) (.cons (mono_val _) .nil))))))) (by kernel_rfl) (by kernel_rfl) ⟨?_, ?_, ?_, ?_, ?_, ?_, trivial⟩ ?_
        · intro a vs W hX hR he hf K hK
          rw [if_pos (wanted_none rfl)]
          have e3 : a.eval (.tmp 3) = .pointer (some ⟨gb, 0, none⟩) := hf 3 (by kernel_rfl)
          have hbW := bthen (below_drew _) (grow_below hX)
          exact wp_value (exec_load 52 _ rfl gb e3 52 [.int .u8 (u : Int), .int .u8 (y : Int)] _ (HBR.out.on hbW) Tryd.underlying52 rfl (size2 _ _)) (hK _ _ rfl (grown_refl W _))
        · intro a vs W hX hR he hf K hK
          rw [if_pos (wanted_none rfl)]
          have e0 : a.eval (.tmp 0) = .slice (some ⟨g, 0, none⟩) 3 3 := hf 0 (by kernel_rfl)
          refine wp_value (v := .slice (some ⟨g, 0, none⟩) 3 3) ?_ (hK _ _ rfl (grown_refl W _))
          simp only [execOp, e0]
          try go_simp
          try (first | rfl | omega | (simp only [IntKind.wrap_i64, IntKind.wrap_u8, IntKind.wrap_u64, IntKind.wrap_u16, IntKind.wrap_u32]; omega) | (rw [Int.tmod_eq_emod_of_nonneg (by omega)]) | (rw [Int.tmod_eq_emod_of_nonneg (by omega)]; omega))
        · intro a vs W hX hR he hf K hK
          rw [if_pos (wanted_none rfl)]
          have e5 : a.eval (.tmp 5) = .int .i64 0 := hf 5 (by kernel_rfl)
          refine wp_value (v := .int .i64 0) ?_ (hK _ _ rfl (grown_refl W _))
          simp only [execOp, e5]
          try go_simp
          try (first | rfl | omega | (simp only [IntKind.wrap_i64, IntKind.wrap_u8, IntKind.wrap_u64, IntKind.wrap_u16, IntKind.wrap_u32]; omega) | (rw [Int.tmod_eq_emod_of_nonneg (by omega)]) | (rw [Int.tmod_eq_emod_of_nonneg (by omega)]; omega))
        · intro a vs W hX hR he hf K hK
          rw [if_pos (wanted_none rfl)]
          have e12 : a.eval (.tmp 12) = .slice (some ⟨g, 0, none⟩) 3 3 := (he 1 12 (by kernel_rfl) rfl).trans (hR 1 (by kernel_rfl))
          have e13 : a.eval (.tmp 13) = .int .i64 0 := (he 2 13 (by kernel_rfl) rfl).trans (hR 2 (by kernel_rfl))
          refine wp_value (v := .pointer (some ⟨g, 0, none⟩)) ?_ (hK _ _ rfl (grown_refl W _))
          simp only [execOp, e12, e13]
          go_simp
        · intro a vs W hX hR he hf K hK
          rw [if_pos (wanted_none rfl)]
          have e14 : a.eval (.tmp 14) = .pointer (some ⟨g, 0, none⟩) := (he 3 14 (by kernel_rfl) rfl).trans (hR 3 (by kernel_rfl))
          have hbW := bthen (below_drew _) (grow_below hX)
          have hbX := bthen HWR.out hbW
          exact wp_value (exec_load_mid 52 _ rfl g 0 e14 [.int .u8 11, .int .u8 0] _ (fun j x hx => (hbX.cell (p := ⟨g, _, none⟩) HG.out).trans (HC.out (0 + j) x (by match j, hx with | 0, hx => exact hx | 1, hx => exact hx | j + 2, hx => simp at hx))) Tryd.underlying52 rfl (size2 _ _)) (hK _ _ rfl (grown_refl W _))
        · intro a vs W hX hR he hf K hK
          rw [if_pos (wanted_none rfl)]
          have e11 : a.eval (.tmp 11) = .agg #[.int .u8 (u : Int), .int .u8 (y : Int)] := (he 0 11 (by kernel_rfl) rfl).trans (hR 0 (by kernel_rfl))
          have e15 : a.eval (.tmp 15) = .agg #[.int .u8 11, .int .u8 0] := (he 4 15 (by kernel_rfl) rfl).trans (hR 4 (by kernel_rfl))
          exact wp_value (exec_eqP2 _ _ _ rfl _ _ _ _ false HQ.out e11 e15) (hK _ _ rfl (grown_refl W _))
        · intro vs wx hXx hR
          have q0 := hR 0 (by decide)
          have q1 := hR 1 (by decide)
          have q2 := hR 2 (by decide)
          have q3 := hR 3 (by decide)
          have q4 := hR 4 (by decide)
          have q5 := hR 5 (by decide)
          change vs 0 = .agg #[.int .u8 (u : Int), .int .u8 (y : Int)] at q0
          change vs 1 = .slice (some ⟨g, 0, none⟩) 3 3 at q1
          change vs 2 = .int .i64 0 at q2
          change vs 3 = .pointer (some ⟨g, 0, none⟩) at q3
          change vs 4 = .agg #[.int .u8 11, .int .u8 0] at q4
          change vs 5 = .bool false at q5
          simp only [putAll, Act.put, List.setIfInBounds_toArray, List.set_cons_zero, List.set_cons_succ, q0, q1, q2, q3, q4, q5]
          clear q0 q1 q2 q3 q4 q5
          clear hR
          have hbx := HBE.out.trans ((bthen (below_drew _) (grow_below hXx)).mono HBE.out.size)
          clear hXx
          go_wp2_with fail
          go_roundw
          case rel => exact ⟨1, by omega, rfl, fun _ => hq, by omega, by omega, hbx⟩
          case measure => simp [intOf]
    · by_cases hq : u = 3 ∧ y = 4
      · have HQ := Lib.hid (show (((u : Int) == 3) && ((y : Int) == 4)) = true by obtain ⟨h1, h2⟩ := hq; subst h1 h2; rfl)
        have HV := Lib.hid (show kind4F u y = 1 by obtain ⟨h1, h2⟩ := hq; subst h1 h2; rfl)
        clear hq
        go_wp2_with fail
        refine wp_region_rel (fun A B => A.grownBy B none) (fun A => grown_refl A _) (fun A B C h k => grown_trans h k) (relAt (List.cons (fun v _ => v = .agg #[.int .u8 (u : Int), .int .u8 (y : Int)]) (List.cons (fun v _ => v = .slice (some ⟨g, 0, none⟩) 3 3) (List.cons (fun v _ => v = .int .i64 1) (List.cons (fun v _ => v = .pointer (some ⟨g, 2, none⟩)) (List.cons (fun v _ => v = .agg #[.int .u8 3, .int .u8 4]) (List.cons (fun v _ => v = .bool true) ([])))))))) (MonoL.at_ (.cons (mono_val _) (.cons (mono_val _) (.cons (mono_val _) (.cons (mono_val _) (.cons (mono_val _) (.cons (mono_val _) .nil))))))) (by kernel_rfl) (by kernel_rfl) ⟨?_, ?_, ?_, ?_, ?_, ?_, trivial⟩ ?_
        · intro a vs W hX hR he hf K hK
          rw [if_pos (wanted_none rfl)]
          have e3 : a.eval (.tmp 3) = .pointer (some ⟨gb, 0, none⟩) := hf 3 (by kernel_rfl)
          have hbW := bthen (below_drew _) (grow_below hX)
          exact wp_value (exec_load 52 _ rfl gb e3 52 [.int .u8 (u : Int), .int .u8 (y : Int)] _ (HBR.out.on hbW) Tryd.underlying52 rfl (size2 _ _)) (hK _ _ rfl (grown_refl W _))
        · intro a vs W hX hR he hf K hK
          rw [if_pos (wanted_none rfl)]
          have e0 : a.eval (.tmp 0) = .slice (some ⟨g, 0, none⟩) 3 3 := hf 0 (by kernel_rfl)
          refine wp_value (v := .slice (some ⟨g, 0, none⟩) 3 3) ?_ (hK _ _ rfl (grown_refl W _))
          simp only [execOp, e0]
          try go_simp
          try (first | rfl | omega | (simp only [IntKind.wrap_i64, IntKind.wrap_u8, IntKind.wrap_u64, IntKind.wrap_u16, IntKind.wrap_u32]; omega) | (rw [Int.tmod_eq_emod_of_nonneg (by omega)]) | (rw [Int.tmod_eq_emod_of_nonneg (by omega)]; omega))
        · intro a vs W hX hR he hf K hK
          rw [if_pos (wanted_none rfl)]
          have e5 : a.eval (.tmp 5) = .int .i64 1 := hf 5 (by kernel_rfl)
          refine wp_value (v := .int .i64 1) ?_ (hK _ _ rfl (grown_refl W _))
          simp only [execOp, e5]
          try go_simp
          try (first | rfl | omega | (simp only [IntKind.wrap_i64, IntKind.wrap_u8, IntKind.wrap_u64, IntKind.wrap_u16, IntKind.wrap_u32]; omega) | (rw [Int.tmod_eq_emod_of_nonneg (by omega)]) | (rw [Int.tmod_eq_emod_of_nonneg (by omega)]; omega))
        · intro a vs W hX hR he hf K hK
          rw [if_pos (wanted_none rfl)]
          have e12 : a.eval (.tmp 12) = .slice (some ⟨g, 0, none⟩) 3 3 := (he 1 12 (by kernel_rfl) rfl).trans (hR 1 (by kernel_rfl))
          have e13 : a.eval (.tmp 13) = .int .i64 1 := (he 2 13 (by kernel_rfl) rfl).trans (hR 2 (by kernel_rfl))
          refine wp_value (v := .pointer (some ⟨g, 2, none⟩)) ?_ (hK _ _ rfl (grown_refl W _))
          simp only [execOp, e12, e13]
          go_simp
        · intro a vs W hX hR he hf K hK
          rw [if_pos (wanted_none rfl)]
          have e14 : a.eval (.tmp 14) = .pointer (some ⟨g, 2, none⟩) := (he 3 14 (by kernel_rfl) rfl).trans (hR 3 (by kernel_rfl))
          have hbW := bthen (below_drew _) (grow_below hX)
          have hbX := bthen HWR.out hbW
          exact wp_value (exec_load_mid 52 _ rfl g 2 e14 [.int .u8 3, .int .u8 4] _ (fun j x hx => (hbX.cell (p := ⟨g, _, none⟩) HG.out).trans (HC.out (2 + j) x (by match j, hx with | 0, hx => exact hx | 1, hx => exact hx | j + 2, hx => simp at hx))) Tryd.underlying52 rfl (size2 _ _)) (hK _ _ rfl (grown_refl W _))
        · intro a vs W hX hR he hf K hK
          rw [if_pos (wanted_none rfl)]
          have e11 : a.eval (.tmp 11) = .agg #[.int .u8 (u : Int), .int .u8 (y : Int)] := (he 0 11 (by kernel_rfl) rfl).trans (hR 0 (by kernel_rfl))
          have e15 : a.eval (.tmp 15) = .agg #[.int .u8 3, .int .u8 4] := (he 4 15 (by kernel_rfl) rfl).trans (hR 4 (by kernel_rfl))
          exact wp_value (exec_eqP2 _ _ _ rfl _ _ _ _ true HQ.out e11 e15) (hK _ _ rfl (grown_refl W _))
        · intro vs wx hXx hR
          have q0 := hR 0 (by decide)
          have q1 := hR 1 (by decide)
          have q2 := hR 2 (by decide)
          have q3 := hR 3 (by decide)
          have q4 := hR 4 (by decide)
          have q5 := hR 5 (by decide)
          change vs 0 = .agg #[.int .u8 (u : Int), .int .u8 (y : Int)] at q0
          change vs 1 = .slice (some ⟨g, 0, none⟩) 3 3 at q1
          change vs 2 = .int .i64 1 at q2
          change vs 3 = .pointer (some ⟨g, 2, none⟩) at q3
          change vs 4 = .agg #[.int .u8 3, .int .u8 4] at q4
          change vs 5 = .bool true at q5
          simp only [putAll, Act.put, List.setIfInBounds_toArray, List.set_cons_zero, List.set_cons_succ, q0, q1, q2, q3, q4, q5]
          clear q0 q1 q2 q3 q4 q5
          clear hR
          have hbx := bthen HWR.out (bthen (below_drew _) (grow_below hXx))
          clear hXx
          go_wp2_with fail
          go_ret
          exact ⟨by rw [HV.out]; rfl, hbx⟩
      · have HQ := Lib.hid (show (((u : Int) == 3) && ((y : Int) == 4)) = false by
          cases h : (((u : Int) == 3) && ((y : Int) == 4))
          · rfl
          · exfalso
            simp at h
            omega)
        go_wp2_with fail
        refine wp_region_rel (fun A B => A.grownBy B none) (fun A => grown_refl A _) (fun A B C h k => grown_trans h k) (relAt (List.cons (fun v _ => v = .agg #[.int .u8 (u : Int), .int .u8 (y : Int)]) (List.cons (fun v _ => v = .slice (some ⟨g, 0, none⟩) 3 3) (List.cons (fun v _ => v = .int .i64 1) (List.cons (fun v _ => v = .pointer (some ⟨g, 2, none⟩)) (List.cons (fun v _ => v = .agg #[.int .u8 3, .int .u8 4]) (List.cons (fun v _ => v = .bool false) ([])))))))) (MonoL.at_ (.cons (mono_val _) (.cons (mono_val _) (.cons (mono_val _) (.cons (mono_val _) (.cons (mono_val _) (.cons (mono_val _) .nil))))))) (by kernel_rfl) (by kernel_rfl) ⟨?_, ?_, ?_, ?_, ?_, ?_, trivial⟩ ?_
        · intro a vs W hX hR he hf K hK
          rw [if_pos (wanted_none rfl)]
          have e3 : a.eval (.tmp 3) = .pointer (some ⟨gb, 0, none⟩) := hf 3 (by kernel_rfl)
          have hbW := bthen (below_drew _) (grow_below hX)
          exact wp_value (exec_load 52 _ rfl gb e3 52 [.int .u8 (u : Int), .int .u8 (y : Int)] _ (HBR.out.on hbW) Tryd.underlying52 rfl (size2 _ _)) (hK _ _ rfl (grown_refl W _))
        · intro a vs W hX hR he hf K hK
          rw [if_pos (wanted_none rfl)]
          have e0 : a.eval (.tmp 0) = .slice (some ⟨g, 0, none⟩) 3 3 := hf 0 (by kernel_rfl)
          refine wp_value (v := .slice (some ⟨g, 0, none⟩) 3 3) ?_ (hK _ _ rfl (grown_refl W _))
          simp only [execOp, e0]
          try go_simp
          try (first | rfl | omega | (simp only [IntKind.wrap_i64, IntKind.wrap_u8, IntKind.wrap_u64, IntKind.wrap_u16, IntKind.wrap_u32]; omega) | (rw [Int.tmod_eq_emod_of_nonneg (by omega)]) | (rw [Int.tmod_eq_emod_of_nonneg (by omega)]; omega))
        · intro a vs W hX hR he hf K hK
          rw [if_pos (wanted_none rfl)]
          have e5 : a.eval (.tmp 5) = .int .i64 1 := hf 5 (by kernel_rfl)
          refine wp_value (v := .int .i64 1) ?_ (hK _ _ rfl (grown_refl W _))
          simp only [execOp, e5]
          try go_simp
          try (first | rfl | omega | (simp only [IntKind.wrap_i64, IntKind.wrap_u8, IntKind.wrap_u64, IntKind.wrap_u16, IntKind.wrap_u32]; omega) | (rw [Int.tmod_eq_emod_of_nonneg (by omega)]) | (rw [Int.tmod_eq_emod_of_nonneg (by omega)]; omega))
        · intro a vs W hX hR he hf K hK
          rw [if_pos (wanted_none rfl)]
          have e12 : a.eval (.tmp 12) = .slice (some ⟨g, 0, none⟩) 3 3 := (he 1 12 (by kernel_rfl) rfl).trans (hR 1 (by kernel_rfl))
          have e13 : a.eval (.tmp 13) = .int .i64 1 := (he 2 13 (by kernel_rfl) rfl).trans (hR 2 (by kernel_rfl))
          refine wp_value (v := .pointer (some ⟨g, 2, none⟩)) ?_ (hK _ _ rfl (grown_refl W _))
          simp only [execOp, e12, e13]
          go_simp
        · intro a vs W hX hR he hf K hK
          rw [if_pos (wanted_none rfl)]
          have e14 : a.eval (.tmp 14) = .pointer (some ⟨g, 2, none⟩) := (he 3 14 (by kernel_rfl) rfl).trans (hR 3 (by kernel_rfl))
          have hbW := bthen (below_drew _) (grow_below hX)
          have hbX := bthen HWR.out hbW
          exact wp_value (exec_load_mid 52 _ rfl g 2 e14 [.int .u8 3, .int .u8 4] _ (fun j x hx => (hbX.cell (p := ⟨g, _, none⟩) HG.out).trans (HC.out (2 + j) x (by match j, hx with | 0, hx => exact hx | 1, hx => exact hx | j + 2, hx => simp at hx))) Tryd.underlying52 rfl (size2 _ _)) (hK _ _ rfl (grown_refl W _))
        · intro a vs W hX hR he hf K hK
          rw [if_pos (wanted_none rfl)]
          have e11 : a.eval (.tmp 11) = .agg #[.int .u8 (u : Int), .int .u8 (y : Int)] := (he 0 11 (by kernel_rfl) rfl).trans (hR 0 (by kernel_rfl))
          have e15 : a.eval (.tmp 15) = .agg #[.int .u8 3, .int .u8 4] := (he 4 15 (by kernel_rfl) rfl).trans (hR 4 (by kernel_rfl))
          exact wp_value (exec_eqP2 _ _ _ rfl _ _ _ _ false HQ.out e11 e15) (hK _ _ rfl (grown_refl W _))
        · intro vs wx hXx hR
          have q0 := hR 0 (by decide)
          have q1 := hR 1 (by decide)
          have q2 := hR 2 (by decide)
          have q3 := hR 3 (by decide)
          have q4 := hR 4 (by decide)
          have q5 := hR 5 (by decide)
          change vs 0 = .agg #[.int .u8 (u : Int), .int .u8 (y : Int)] at q0
          change vs 1 = .slice (some ⟨g, 0, none⟩) 3 3 at q1
          change vs 2 = .int .i64 1 at q2
          change vs 3 = .pointer (some ⟨g, 2, none⟩) at q3
          change vs 4 = .agg #[.int .u8 3, .int .u8 4] at q4
          change vs 5 = .bool false at q5
          simp only [putAll, Act.put, List.setIfInBounds_toArray, List.set_cons_zero, List.set_cons_succ, q0, q1, q2, q3, q4, q5]
          clear q0 q1 q2 q3 q4 q5
          clear hR
          have hbx := HBE.out.trans ((bthen (below_drew _) (grow_below hXx)).mono HBE.out.size)
          clear hXx
          go_wp2_with fail
          go_roundw
          case rel => exact ⟨2, by omega, rfl, fun _ => HK1.out (by omega), fun _ => hq, by omega, hbx⟩
          case measure => simp [intOf]
    · by_cases hq : u = 3 ∧ y = 0
      · have HQ := Lib.hid (show (((u : Int) == 3) && ((y : Int) == 0)) = true by obtain ⟨h1, h2⟩ := hq; subst h1 h2; rfl)
        have HV := Lib.hid (show kind4F u y = 2 by obtain ⟨h1, h2⟩ := hq; subst h1 h2; rfl)
        clear hq
        go_wp2_with fail
        refine wp_region_rel (fun A B => A.grownBy B none) (fun A => grown_refl A _) (fun A B C h k => grown_trans h k) (relAt (List.cons (fun v _ => v = .agg #[.int .u8 (u : Int), .int .u8 (y : Int)]) (List.cons (fun v _ => v = .slice (some ⟨g, 0, none⟩) 3 3) (List.cons (fun v _ => v = .int .i64 2) (List.cons (fun v _ => v = .pointer (some ⟨g, 4, none⟩)) (List.cons (fun v _ => v = .agg #[.int .u8 3, .int .u8 0]) (List.cons (fun v _ => v = .bool true) ([])))))))) (MonoL.at_ (.cons (mono_val _) (.cons (mono_val _) (.cons (mono_val _) (.cons (mono_val _) (.cons (mono_val _) (.cons (mono_val _) .nil))))))) (by kernel_rfl) (by kernel_rfl) ⟨?_, ?_, ?_, ?_, ?_, ?_, trivial⟩ ?_
        · intro a vs W hX hR he hf K hK
          rw [if_pos (wanted_none rfl)]
          have e3 : a.eval (.tmp 3) = .pointer (some ⟨gb, 0, none⟩) := hf 3 (by kernel_rfl)
          have hbW := bthen (below_drew _) (grow_below hX)
          exact wp_value (exec_load 52 _ rfl gb e3 52 [.int .u8 (u : Int), .int .u8 (y : Int)] _ (HBR.out.on hbW) Tryd.underlying52 rfl (size2 _ _)) (hK _ _ rfl (grown_refl W _))
        · intro a vs W hX hR he hf K hK
          rw [if_pos (wanted_none rfl)]
          have e0 : a.eval (.tmp 0) = .slice (some ⟨g, 0, none⟩) 3 3 := hf 0 (by kernel_rfl)
          refine wp_value (v := .slice (some ⟨g, 0, none⟩) 3 3) ?_ (hK _ _ rfl (grown_refl W _))
          simp only [execOp, e0]
          try go_simp
          try (first | rfl | omega | (simp only [IntKind.wrap_i64, IntKind.wrap_u8, IntKind.wrap_u64, IntKind.wrap_u16, IntKind.wrap_u32]; omega) | (rw [Int.tmod_eq_emod_of_nonneg (by omega)]) | (rw [Int.tmod_eq_emod_of_nonneg (by omega)]; omega))
        · intro a vs W hX hR he hf K hK
          rw [if_pos (wanted_none rfl)]
          have e5 : a.eval (.tmp 5) = .int .i64 2 := hf 5 (by kernel_rfl)
          refine wp_value (v := .int .i64 2) ?_ (hK _ _ rfl (grown_refl W _))
          simp only [execOp, e5]
          try go_simp
          try (first | rfl | omega | (simp only [IntKind.wrap_i64, IntKind.wrap_u8, IntKind.wrap_u64, IntKind.wrap_u16, IntKind.wrap_u32]; omega) | (rw [Int.tmod_eq_emod_of_nonneg (by omega)]) | (rw [Int.tmod_eq_emod_of_nonneg (by omega)]; omega))
        · intro a vs W hX hR he hf K hK
          rw [if_pos (wanted_none rfl)]
          have e12 : a.eval (.tmp 12) = .slice (some ⟨g, 0, none⟩) 3 3 := (he 1 12 (by kernel_rfl) rfl).trans (hR 1 (by kernel_rfl))
          have e13 : a.eval (.tmp 13) = .int .i64 2 := (he 2 13 (by kernel_rfl) rfl).trans (hR 2 (by kernel_rfl))
          refine wp_value (v := .pointer (some ⟨g, 4, none⟩)) ?_ (hK _ _ rfl (grown_refl W _))
          simp only [execOp, e12, e13]
          go_simp
        · intro a vs W hX hR he hf K hK
          rw [if_pos (wanted_none rfl)]
          have e14 : a.eval (.tmp 14) = .pointer (some ⟨g, 4, none⟩) := (he 3 14 (by kernel_rfl) rfl).trans (hR 3 (by kernel_rfl))
          have hbW := bthen (below_drew _) (grow_below hX)
          have hbX := bthen HWR.out hbW
          exact wp_value (exec_load_mid 52 _ rfl g 4 e14 [.int .u8 3, .int .u8 0] _ (fun j x hx => (hbX.cell (p := ⟨g, _, none⟩) HG.out).trans (HC.out (4 + j) x (by match j, hx with | 0, hx => exact hx | 1, hx => exact hx | j + 2, hx => simp at hx))) Tryd.underlying52 rfl (size2 _ _)) (hK _ _ rfl (grown_refl W _))
        · intro a vs W hX hR he hf K hK
          rw [if_pos (wanted_none rfl)]
          have e11 : a.eval (.tmp 11) = .agg #[.int .u8 (u : Int), .int .u8 (y : Int)] := (he 0 11 (by kernel_rfl) rfl).trans (hR 0 (by kernel_rfl))
          have e15 : a.eval (.tmp 15) = .agg #[.int .u8 3, .int .u8 0] := (he 4 15 (by kernel_rfl) rfl).trans (hR 4 (by kernel_rfl))
          exact wp_value (exec_eqP2 _ _ _ rfl _ _ _ _ true HQ.out e11 e15) (hK _ _ rfl (grown_refl W _))
        · intro vs wx hXx hR
          have q0 := hR 0 (by decide)
          have q1 := hR 1 (by decide)
          have q2 := hR 2 (by decide)
          have q3 := hR 3 (by decide)
          have q4 := hR 4 (by decide)
          have q5 := hR 5 (by decide)
          change vs 0 = .agg #[.int .u8 (u : Int), .int .u8 (y : Int)] at q0
          change vs 1 = .slice (some ⟨g, 0, none⟩) 3 3 at q1
          change vs 2 = .int .i64 2 at q2
          change vs 3 = .pointer (some ⟨g, 4, none⟩) at q3
          change vs 4 = .agg #[.int .u8 3, .int .u8 0] at q4
          change vs 5 = .bool true at q5
          simp only [putAll, Act.put, List.setIfInBounds_toArray, List.set_cons_zero, List.set_cons_succ, q0, q1, q2, q3, q4, q5]
          clear q0 q1 q2 q3 q4 q5
          clear hR
          have hbx := bthen HWR.out (bthen (below_drew _) (grow_below hXx))
          clear hXx
          go_wp2_with fail
          go_ret
          exact ⟨by rw [HV.out]; rfl, hbx⟩
      · have HQ := Lib.hid (show (((u : Int) == 3) && ((y : Int) == 0)) = false by
          cases h : (((u : Int) == 3) && ((y : Int) == 0))
          · rfl
          · exfalso
            simp at h
            omega)
        go_wp2_with fail
        refine wp_region_rel (fun A B => A.grownBy B none) (fun A => grown_refl A _) (fun A B C h k => grown_trans h k) (relAt (List.cons (fun v _ => v = .agg #[.int .u8 (u : Int), .int .u8 (y : Int)]) (List.cons (fun v _ => v = .slice (some ⟨g, 0, none⟩) 3 3) (List.cons (fun v _ => v = .int .i64 2) (List.cons (fun v _ => v = .pointer (some ⟨g, 4, none⟩)) (List.cons (fun v _ => v = .agg #[.int .u8 3, .int .u8 0]) (List.cons (fun v _ => v = .bool false) ([])))))))) (MonoL.at_ (.cons (mono_val _) (.cons (mono_val _) (.cons (mono_val _) (.cons (mono_val _) (.cons (mono_val _) (.cons (mono_val _) .nil))))))) (by kernel_rfl) (by kernel_rfl) ⟨?_, ?_, ?_, ?_, ?_, ?_, trivial⟩ ?_
        · intro a vs W hX hR he hf K hK
          rw [if_pos (wanted_none rfl)]
          have e3 : a.eval (.tmp 3) = .pointer (some ⟨gb, 0, none⟩) := hf 3 (by kernel_rfl)
          have hbW := bthen (below_drew _) (grow_below hX)
          exact wp_value (exec_load 52 _ rfl gb e3 52 [.int .u8 (u : Int), .int .u8 (y : Int)] _ (HBR.out.on hbW) Tryd.underlying52 rfl (size2 _ _)) (hK _ _ rfl (grown_refl W _))
        · intro a vs W hX hR he hf K hK
          rw [if_pos (wanted_none rfl)]
          have e0 : a.eval (.tmp 0) = .slice (some ⟨g, 0, none⟩) 3 3 := hf 0 (by kernel_rfl)
          refine wp_value (v := .slice (some ⟨g, 0, none⟩) 3 3) ?_ (hK _ _ rfl (grown_refl W _))
          simp only [execOp, e0]
          try go_simp
          try (first | rfl | omega | (simp only [IntKind.wrap_i64, IntKind.wrap_u8, IntKind.wrap_u64, IntKind.wrap_u16, IntKind.wrap_u32]; omega) | (rw [Int.tmod_eq_emod_of_nonneg (by omega)]) | (rw [Int.tmod_eq_emod_of_nonneg (by omega)]; omega))
        · intro a vs W hX hR he hf K hK
          rw [if_pos (wanted_none rfl)]
          have e5 : a.eval (.tmp 5) = .int .i64 2 := hf 5 (by kernel_rfl)
          refine wp_value (v := .int .i64 2) ?_ (hK _ _ rfl (grown_refl W _))
          simp only [execOp, e5]
          try go_simp
          try (first | rfl | omega | (simp only [IntKind.wrap_i64, IntKind.wrap_u8, IntKind.wrap_u64, IntKind.wrap_u16, IntKind.wrap_u32]; omega) | (rw [Int.tmod_eq_emod_of_nonneg (by omega)]) | (rw [Int.tmod_eq_emod_of_nonneg (by omega)]; omega))
        · intro a vs W hX hR he hf K hK
          rw [if_pos (wanted_none rfl)]
          have e12 : a.eval (.tmp 12) = .slice (some ⟨g, 0, none⟩) 3 3 := (he 1 12 (by kernel_rfl) rfl).trans (hR 1 (by kernel_rfl))
          have e13 : a.eval (.tmp 13) = .int .i64 2 := (he 2 13 (by kernel_rfl) rfl).trans (hR 2 (by kernel_rfl))
          refine wp_value (v := .pointer (some ⟨g, 4, none⟩)) ?_ (hK _ _ rfl (grown_refl W _))
          simp only [execOp, e12, e13]
          go_simp
        · intro a vs W hX hR he hf K hK
          rw [if_pos (wanted_none rfl)]
          have e14 : a.eval (.tmp 14) = .pointer (some ⟨g, 4, none⟩) := (he 3 14 (by kernel_rfl) rfl).trans (hR 3 (by kernel_rfl))
          have hbW := bthen (below_drew _) (grow_below hX)
          have hbX := bthen HWR.out hbW
          exact wp_value (exec_load_mid 52 _ rfl g 4 e14 [.int .u8 3, .int .u8 0] _ (fun j x hx => (hbX.cell (p := ⟨g, _, none⟩) HG.out).trans (HC.out (4 + j) x (by match j, hx with | 0, hx => exact hx | 1, hx => exact hx | j + 2, hx => simp at hx))) Tryd.underlying52 rfl (size2 _ _)) (hK _ _ rfl (grown_refl W _))
        · intro a vs W hX hR he hf K hK
          rw [if_pos (wanted_none rfl)]
          have e11 : a.eval (.tmp 11) = .agg #[.int .u8 (u : Int), .int .u8 (y : Int)] := (he 0 11 (by kernel_rfl) rfl).trans (hR 0 (by kernel_rfl))
          have e15 : a.eval (.tmp 15) = .agg #[.int .u8 3, .int .u8 0] := (he 4 15 (by kernel_rfl) rfl).trans (hR 4 (by kernel_rfl))
          exact wp_value (exec_eqP2 _ _ _ rfl _ _ _ _ false HQ.out e11 e15) (hK _ _ rfl (grown_refl W _))
        · intro vs wx hXx hR
          have q0 := hR 0 (by decide)
          have q1 := hR 1 (by decide)
          have q2 := hR 2 (by decide)
          have q3 := hR 3 (by decide)
          have q4 := hR 4 (by decide)
          have q5 := hR 5 (by decide)
          change vs 0 = .agg #[.int .u8 (u : Int), .int .u8 (y : Int)] at q0
          change vs 1 = .slice (some ⟨g, 0, none⟩) 3 3 at q1
          change vs 2 = .int .i64 2 at q2
          change vs 3 = .pointer (some ⟨g, 4, none⟩) at q3
          change vs 4 = .agg #[.int .u8 3, .int .u8 0] at q4
          change vs 5 = .bool false at q5
          simp only [putAll, Act.put, List.setIfInBounds_toArray, List.set_cons_zero, List.set_cons_succ, q0, q1, q2, q3, q4, q5]
          clear q0 q1 q2 q3 q4 q5
          clear hR
          have hbx := HBE.out.trans ((bthen (below_drew _) (grow_below hXx)).mono HBE.out.size)
          clear hXx
          go_wp2_with fail
          go_roundw
          case rel => exact ⟨3, by omega, rfl, fun _ => HK1.out (by omega), fun _ => HK2.out (by omega), fun _ => hq, hbx⟩
          case measure => simp [intOf]
    · have hv : kind4F u y = -1 := by
        unfold kind4F
        rw [if_neg (HK1.out (by omega)), if_neg (HK2.out (by omega)), if_neg (HK3.out (by omega))]
      go_wp2_with fail
      go_ret
      exact ⟨by rw [hv]; rfl, HWR.out⟩
end Go.Proofs.YtckbleiikldloaaDoor


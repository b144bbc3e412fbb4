/- Texts of this claim put together, in build order: each one's own remark stands ahead of it. -/
import Derived.Test.YtckbleiikldloaaDoorG15
import Derived.Deep.DeepCutAuto
/- What the reference's Put of errors of IPv4 (layer 23) computes. No condition but sizes. -/
namespace Go.Proofs.YtckbleiikldloaaDoor
open Go.RowKit
set_option linter.unusedVariables false
set_option maxRecDepth 20000
set_option linter.unusedSimpArgs false

/-- an error -/
structure Mm where
  kind : Int
  mtu : Int
  beg : List UInt8
  A : Option Addr
  n : Nat
  c : Nat
  st : List Ent
def Mm.cells (m : Mm) : List Value := [.int .i64 m.kind, .int .i64 m.mtu, str m.beg, .slice m.A m.n m.c]
structure Mm.ok (w : World) (m : Mm) : Prop where
  kind : -9223372036854775808 ≤ m.kind ∧ m.kind ≤ 9223372036854775807
  mtu : -9223372036854775808 ≤ m.mtu ∧ m.mtu ≤ 9223372036854775807
  beg : m.beg.length ≤ 9223372036854775807
  row : Row w w.heap.size 4 m.A m.n (evs m.st)
  le : m.n ≤ m.c
  cap : m.c ≤ maxLen
  fit : ∀ x ∈ m.st, x.fit
def Mm.bad (m : Mm) : Prop := m.kind < 0 ∨ 2 < m.kind ∨ m.mtu < 0 ∨ 65535 < m.mtu ∨ (m.kind ≠ 1 ∧ 0 < m.mtu)
instance (m : Mm) : Decidable m.bad := by unfold Mm.bad; infer_instance
def lb23 (n : Nat) : List UInt8 := if n = 0 then [0] else [32]
def ext23 (n : Nat) (l : List UInt8) : List UInt8 := if n = 0 then [] else l
def rest23 (m : Mm) : List UInt8 := [0] ++ lb23 m.n ++ toBe 2 m.mtu.toNat ++ begin23 m.beg (decide (0 < m.n)) ++ ext23 m.n (stack22 m.st).1
def body23 (m : Mm) : List UInt8 := frontK m.kind ++ toBe 2 (65535 - rawN (frontK m.kind ++ [0, 0] ++ rest23 m)) ++ rest23 m
def head23 (src dst : List UInt8) : H4 := ⟨192, 0, 0, false, false, 0, 255, 1, src, dst, []⟩
theorem head23_fit (src dst : List UInt8) (hs : src.length = 4) (hd : dst.length = 4) : (head23 src dst).fit := ⟨⟨hs, hd⟩, by simp [head23], by simp [head23], by simp [head23], by simp [head23], by simp [head23], by simp [head23], by simp [head23]⟩
def put23 (m : Mm) (src dst : List UInt8) : List UInt8 × Int :=
  if m.bad then ([], 1) else if (stack22 m.st).2 ≠ 0 then ([], (stack22 m.st).2) else put4 (head23 src dst) (body23 m)

theorem run_build23 (a b c d e f g h : UInt8) (w : World) :
    (Instr.build 56 #[(0, .int .u8 192), (6, .int .u8 255), (7, .int .u8 1), (8, .agg (bv [a, b, c, d]).toArray), (9, .agg (bv [e, f, g, h]).toArray)]).run Tryd.prog w = .ok (.agg (head23 [a, b, c, d] [e, f, g, h]).cells.toArray) w := by kernel_rfl
theorem exec_build23 {w : World} {o : Oper} {q : Act} (x8 x9 : Operand) (ho : o.op = .build 56 #[(0, .const (.int .u8 192)), (6, .const (.int .u8 255)), (7, .const (.int .u8 1)), (8, x8), (9, x9)]) (s t : List UInt8) (hs : s.length = 4) (ht : t.length = 4)
    (h8 : q.eval x8 = .agg (bv s).toArray) (h9 : q.eval x9 = .agg (bv t).toArray) :
    (execOp q.eval o).run Tryd.prog w = .ok (.value (.agg (head23 s t).cells.toArray)) w := by
  obtain ⟨a, b, c, d, rfl⟩ := list4 s hs
  obtain ⟨e, f, g, h, rfl⟩ := list4 t ht
  have hr := run_build23 a b c d e f g h w
  unfold execOp
  simp only [ho, List.map_toArray, List.map_cons, List.map_nil, h8, h9, Sem.run_bind]
  simp only [Act.eval, hr, Result.andThen_ok]
  rfl

theorem ext23_le (n : Nat) (l : List UInt8) : (ext23 n l).length ≤ l.length := by
  unfold ext23
  split
  · simp
  · exact Nat.le_refl _
theorem lb23_length (n : Nat) : (lb23 n).length = 1 := by
  unfold lb23
  split <;> rfl
theorem stack22_le (l : List Ent) : (stack22 l).1.length ≤ 80 := by
  unfold stack22
  split
  · simp
  · split
    · rename_i h h2
      have hg : ∀ x ∈ l, x.good := fun x hx => by have := List.all_eq_true.1 h2 x hx; simpa using this
      have hl := packs_len l hg
      rw [hd22_length, obB_length]
      simp only
      omega
    · simp
theorem rest23_le (m : Mm) : (rest23 m).length ≤ 212 := by
  have h1 := begin23_le m.beg (decide (0 < m.n))
  have h2 := ext23_le m.n (stack22 m.st).1
  have h3 := stack22_le m.st
  have h4 := lb23_length m.n
  simp only [rest23, List.length_append, toBe_length, h4, List.length_cons, List.length_nil]
  omega
theorem body23_le (m : Mm) : (body23 m).length ≤ 216 := by
  have := rest23_le m
  simp only [body23, List.length_append, toBe_length, frontK_length]
  omega

set_option maxHeartbeats 4000000 in
theorem rput23_any (m : Mm) (w : World) (hm : m.ok w) (hbl : m.beg.length ≤ 1099511627776) (hnn : m.n ≤ 1099511627776) (src dst : List UInt8) (hsl : src.length = 4) (hdl : dst.length = 4) :
    Calls Tryd.prog 9 #[.agg m.cells.toArray, .agg (bv src).toArray, .agg (bv dst).toArray] w fun e w' => e = .returned (.tuple #[str (put23 m src dst).1, .int .i64 (put23 m src dst).2]) ∧ Below w.heap.size w w' := by
  have HSL := Lib.hid hsl
  have HDL := Lib.hid hdl
  clear hsl hdl
  by_cases hbad : m.bad
  · have HNO : Hid (put23 m src dst = ([], 1)) := Lib.hid (by unfold put23; rw [if_pos hbad])
    clear hm
    rcases (show m.kind < 0 ∨ (¬ m.kind < 0 ∧ 2 < m.kind) ∨ (¬ m.kind < 0 ∧ ¬ 2 < m.kind ∧ m.mtu < 0) ∨ (¬ m.kind < 0 ∧ ¬ 2 < m.kind ∧ ¬ m.mtu < 0 ∧ 65535 < m.mtu) ∨ (¬ m.kind < 0 ∧ ¬ 2 < m.kind ∧ ¬ m.mtu < 0 ∧ ¬ 65535 < m.mtu ∧ m.kind ≠ 1 ∧ 0 < m.mtu) by unfold Mm.bad at hbad; omega) with h1 | ⟨h1, h2⟩ | ⟨h1, h2, h3⟩ | ⟨h1, h2, h3, h4⟩ | ⟨h1, h2, h3, h4, h5, h6⟩
    all_goals
      try have h5' : (m.kind != 1) = true := by simpa [bne] using h5
      go_enter Tryd.func9, Tryd.ntmps9
      go_upto_region 1 with (first
        | (refine wpList_box_blk (by rfl) 34 _ rfl m.cells rfl ?_; intro w1 hk1 hB1 hs1)
        | (refine wpList_box_blk (by rfl) 26 _ rfl (bv src) rfl ?_; intro w2 hk2 hB2 hs2)
        | (refine wpList_box_blk (by rfl) 26 _ rfl (bv dst) rfl ?_; intro w3 hk3 hB3 hs3))
      have hk13 := (hk1.on hB2).on hB3
      have d0 : w3.cell? ⟨w.heap.size, 0, none⟩ = some (.int .i64 m.kind) := hk13.cell 0
      have d1 : w3.cell? ⟨w.heap.size, 1, none⟩ = some (.int .i64 m.mtu) := hk13.cell 1
      have d3 : w3.cell? ⟨w.heap.size, 3, none⟩ = some (.slice m.A m.n m.c) := hk13.cell 3
      go_wp2_with fail
      go_ret2
      exact ⟨by rw [HNO.out]; rfl, bthen (bthen hB1 hB2) hB3⟩
  · have g1 : ¬ m.kind < 0 ∧ ¬ 2 < m.kind ∧ ¬ m.mtu < 0 ∧ ¬ 65535 < m.mtu ∧ (m.kind = 1 ∨ (m.kind ≠ 1 ∧ ¬ 0 < m.mtu)) := by unfold Mm.bad at hbad; omega
    obtain ⟨h1, h2, h3, h4, h5⟩ := g1
    have SX := fun W (hB : Below w.heap.size w W) => rstack22_any m.A m.n m.c m.st W ((hm.row.below hB).more hB.size) hm.fit hnn
    cases hst : stack22 m.st with
    | mk ST SE =>
    have hstl := stack22_le m.st
    rw [hst] at hstl
    simp only [hst] at SX hstl
    have HSX := Lib.hid SX
    by_cases hse : SE = 0
    · subst hse
      have HM := Lib.hid hbl
      by_cases hn0 : m.n = 0
      · have hn0' : ((m.n : Int) == 0) = true := by simp [hn0]
        have hn1 : ¬ (0 : Int) < (m.n : Int) := by omega
        obtain ⟨BG, hBG⟩ : ∃ z, begin23 m.beg false = z := ⟨_, rfl⟩
        have hbgl := begin23_le m.beg false
        rw [hBG] at hbgl
        have HBG := Lib.hid hBG
        have hrr : rest23 m = [0] ++ [0] ++ toBe 2 m.mtu.toNat ++ BG ++ ([] : List UInt8) := by
          unfold rest23 lb23 ext23
          rw [hst]
          simp only [hn0, decide_true, decide_false, if_true, if_false, Nat.lt_irrefl]
          rw [hBG]
        obtain ⟨R, hR⟩ : ∃ z, rest23 m = z := ⟨_, rfl⟩
        have hrl := rest23_le m
        rw [hR] at hrl hrr
        obtain ⟨FR, hFR⟩ : ∃ z, frontK m.kind = z := ⟨_, rfl⟩
        have hfl := frontK_length m.kind
        rw [hFR] at hfl
        obtain ⟨N, hN⟩ : ∃ z, 65535 - rawN (FR ++ [0, 0] ++ R) = z := ⟨_, rfl⟩
        have RO := fun W => rof_any (FR ++ [0, 0] ++ R) W (by simp; omega)
        rw [hN] at RO
        simp only [List.append_assoc, List.cons_append, List.nil_append] at RO
        have hN1 : N ≤ 65535 := by omega
        have hno : put23 m src dst = put4 (head23 src dst) (FR ++ toBe 2 N ++ R) := by
          unfold put23 body23
          rw [if_neg hbad, hst, if_neg (by simp), hR, hFR, hN]
        cases hpk : put4 (head23 src dst) (FR ++ toBe 2 N ++ R) with
        | mk PK PE =>
        rw [hpk] at hno
        have HRR := Lib.hid hrr.symm
        have HFR := Lib.hid hFR
        have HRO := Lib.hid RO
        have HNO := Lib.hid hno
        have HPK := Lib.hid hpk
        have HHF := Lib.hid (head23_fit src dst HSL.out HDL.out)
        have hwr : IntKind.u64.wrap (N : Int) = (N : Int) := by rw [IntKind.wrap_u64]; omega
        have hwm : IntKind.u64.wrap m.mtu = m.mtu := by rw [IntKind.wrap_u64]; omega
        clear hm SX hst hbad hBG hrr hR hFR hN RO hno hpk hn0
        rcases h5 with h5 | ⟨h5, h6⟩
        all_goals
          first | (have h5' : (m.kind != 1) = false := by rw [h5]; rfl) | (have h5' : (m.kind != 1) = true := by simpa [bne] using h5)
          clear h5
          go_enter Tryd.func9, Tryd.ntmps9
          go_upto_region 1 with (first
            | (refine wpList_box_blk (by rfl) 34 _ rfl m.cells rfl ?_; intro w1 hk1 hB1 hs1)
            | (refine wpList_box_blk (by rfl) 26 _ rfl (bv src) rfl ?_; intro w2 hk2 hB2 hs2)
            | (refine wpList_box_blk (by rfl) 26 _ rfl (bv dst) rfl ?_; intro w3 hk3 hB3 hs3))
          have hk13 := (hk1.on hB2).on hB3
          have d0 : w3.cell? ⟨w.heap.size, 0, none⟩ = some (.int .i64 m.kind) := hk13.cell 0
          have d1 : w3.cell? ⟨w.heap.size, 1, none⟩ = some (.int .i64 m.mtu) := hk13.cell 1
          have d3 : w3.cell? ⟨w.heap.size, 3, none⟩ = some (.slice m.A m.n m.c) := hk13.cell 3
          go_wp2_with fail
          have HW := Lib.hid (bthen (bthen hB1 hB2) hB3)
          have HB := Lib.hid ((hk1.on hB2).on hB3)
          rw [hs1] at hk2
          have HS := Lib.hid (hk2.on hB3)
          rw [hs2, hs1] at hk3
          have HD := Lib.hid hk3
          clear d0 d1 d3 hk13 hk1 hk2 hk3 hs1 hs2 hs3 hB1 hB2 hB3
          refine (HSX.out w3 HW.out).mono ?_
          rintro e w4 ⟨rfl, hb⟩
          replace HW := Lib.hid (bthen HW.out hb)
          replace HB := Lib.hid (HB.out.on hb)
          replace HS := Lib.hid (HS.out.on hb)
          replace HD := Lib.hid (HD.out.on hb)
          clear hb
          have d3 : w4.cell? ⟨w.heap.size, 3, none⟩ = some (.slice m.A m.n m.c) := HB.out.cell 3
          go_wp2_with fail
          clear d3
          refine wp_region_rel (fun A B => A.grownBy B none) (fun A => grown_refl A _) (fun A B C h k => grown_trans h k) (relAt (List.cons (fun v _ => v = str [0]) (List.cons (fun v _ => v = str ([0] ++ [0])) (List.cons (fun v _ => v = .pointer (some ⟨w.heap.size, 1, none⟩)) (List.cons (fun v _ => v = .int .i64 m.mtu) (List.cons (fun v _ => v = .int .u64 m.mtu) (List.cons (fun v _ => v = str (toBe 2 m.mtu.toNat)) (List.cons (fun v _ => v = str ([0] ++ [0] ++ toBe 2 m.mtu.toNat)) (List.cons (fun v _ => v = .pointer (some ⟨w.heap.size, 2, none⟩)) (List.cons (fun v _ => v = str m.beg) (List.cons (fun v _ => v = .pointer (some ⟨w.heap.size, 3, none⟩)) (List.cons (fun v _ => v = .slice m.A m.n m.c) (List.cons (fun v _ => v = .int .i64 (m.n : Int)) (List.cons (fun v _ => v = .bool false) (List.cons (fun v _ => v = str BG) (List.cons (fun v _ => v = str ([0] ++ [0] ++ toBe 2 m.mtu.toNat ++ BG)) (List.cons (fun v _ => v = str ([] : List UInt8)) (List.cons (fun v _ => v = str ([0] ++ [0] ++ toBe 2 m.mtu.toNat ++ BG ++ ([] : List UInt8))) (List.cons (fun v _ => v = str ([0] ++ [0] ++ toBe 2 m.mtu.toNat ++ BG ++ ([] : List UInt8))) ([])))))))))))))))))))) (MonoL.at_ (.cons (mono_val _) (.cons (mono_val _) (.cons (mono_val _) (.cons (mono_val _) (.cons (mono_val _) (.cons (mono_val _) (.cons (mono_val _) (.cons (mono_val _) (.cons (mono_val _) (.cons (mono_val _) (.cons (mono_val _) (.cons (mono_val _) (.cons (mono_val _) (.cons (mono_val _) (.cons (mono_val _) (.cons (mono_val _) (.cons (mono_val _) (.cons (mono_val _) .nil))))))))))))))))))) (by kernel_rfl) (by kernel_rfl) ⟨?_, ?_, ?_, ?_, ?_, ?_, ?_, ?_, ?_, ?_, ?_, ?_, ?_, ?_, ?_, ?_, ?_, ?_, trivial⟩ ?_
          · intro a vs W hX hR he hf K hK
            rw [if_pos (wanted_none rfl)]
            have e10 : a.eval (.tmp 10) = str [0] := hf 10 (by kernel_rfl)
            refine wp_value (v := str [0]) ?_ (hK _ _ rfl (grown_refl W _))
            simp only [execOp, e10]
            try go_simp
            try (first | rfl | omega | (simp only [IntKind.wrap_i64, IntKind.wrap_u8, IntKind.wrap_u64, IntKind.wrap_u16, IntKind.wrap_u32]; omega) | (rw [Int.tmod_eq_emod_of_nonneg (by omega)]) | (rw [Int.tmod_eq_emod_of_nonneg (by omega)]; omega))
          · intro a vs W hX hR he hf K hK
            rw [if_pos (wanted_none rfl)]
            have e54 : a.eval (.tmp 54) = str [0] := (he 0 54 (by kernel_rfl) rfl).trans (hR 0 (by kernel_rfl))
            exact wp_value (exec_add _ _ _ _ rfl Tryd.underlying9 ([0]) ([0]) rfl e54 (by simp [toBe_length, frontK_length] <;> omega)) (hK _ _ rfl (grown_refl W _))
          · intro a vs W hX hR he hf K hK
            rw [if_pos (wanted_none rfl)]
            have e3 : a.eval (.tmp 3) = .pointer (some ⟨w.heap.size, 0, none⟩) := hf 3 (by kernel_rfl)
            refine wp_value (v := .pointer (some ⟨w.heap.size, 1, none⟩)) ?_ (hK _ _ rfl (grown_refl W _))
            simp only [execOp, e3]
            try go_simp
            try (first | rfl | omega | (simp only [IntKind.wrap_i64, IntKind.wrap_u8, IntKind.wrap_u64, IntKind.wrap_u16, IntKind.wrap_u32]; omega) | (rw [Int.tmod_eq_emod_of_nonneg (by omega)]) | (rw [Int.tmod_eq_emod_of_nonneg (by omega)]; omega))
          · intro a vs W hX hR he hf K hK
            rw [if_pos (wanted_none rfl)]
            have e56 : a.eval (.tmp 56) = .pointer (some ⟨w.heap.size, 1, none⟩) := (he 2 56 (by kernel_rfl) rfl).trans (hR 2 (by kernel_rfl))
            have hbW := bthen (below_drew _) (grow_below hX)
            have hc : W.cell? ⟨w.heap.size, 1, none⟩ = some (.int .i64 m.mtu) := ((HB.out.on hbW).cell 1).trans (rfl : m.cells[1]? = some (.int .i64 m.mtu))
            refine wp_value (v := _) ?_ (hK _ _ rfl (grown_refl W _))
            simp only [execOp, e56]
            try go_simp
          · intro a vs W hX hR he hf K hK
            rw [if_pos (wanted_none rfl)]
            have e57 : a.eval (.tmp 57) = .int .i64 m.mtu := (he 3 57 (by kernel_rfl) rfl).trans (hR 3 (by kernel_rfl))
            refine wp_value (v := .int .u64 m.mtu) ?_ (hK _ _ rfl (grown_refl W _))
            simp only [execOp, e57]
            try go_simp
            try (first | rfl | omega | (simp only [IntKind.wrap_i64, IntKind.wrap_u8, IntKind.wrap_u64, IntKind.wrap_u16, IntKind.wrap_u32]; omega) | (rw [Int.tmod_eq_emod_of_nonneg (by omega)]) | (rw [Int.tmod_eq_emod_of_nonneg (by omega)]; omega))
          · intro a vs W hX hR he hf K hK
            rw [if_pos (wanted_none rfl)]
            have e58 : a.eval (.tmp 58) = .int .u64 m.mtu := (he 4 58 (by kernel_rfl) rfl).trans (hR 4 (by kernel_rfl))
            refine wp_enter (f := 23) (args := #[.int .u64 m.mtu, .int .i64 2]) (by simp only [execOp, e58]; go_simp; simpa [Act.eval] using e58) ((bytes_any m.mtu 2 W (by omega) (by omega) (by omega) (by omega)).mono ?_)
            rintro e w' ⟨rfl, hb⟩
            exact ⟨_, rfl, hK _ _ rfl (below_grow hb _)⟩
          · intro a vs W hX hR he hf K hK
            rw [if_pos (wanted_none rfl)]
            have e55 : a.eval (.tmp 55) = str ([0] ++ [0]) := (he 1 55 (by kernel_rfl) rfl).trans (hR 1 (by kernel_rfl))
            have e59 : a.eval (.tmp 59) = str (toBe 2 m.mtu.toNat) := (he 5 59 (by kernel_rfl) rfl).trans (hR 5 (by kernel_rfl))
            exact wp_value (exec_add _ _ _ _ rfl Tryd.underlying9 ([0] ++ [0]) (toBe 2 m.mtu.toNat) e55 e59 (by simp [toBe_length, frontK_length] <;> omega)) (hK _ _ rfl (grown_refl W _))
          · intro a vs W hX hR he hf K hK
            rw [if_pos (wanted_none rfl)]
            have e3 : a.eval (.tmp 3) = .pointer (some ⟨w.heap.size, 0, none⟩) := hf 3 (by kernel_rfl)
            refine wp_value (v := .pointer (some ⟨w.heap.size, 2, none⟩)) ?_ (hK _ _ rfl (grown_refl W _))
            simp only [execOp, e3]
            try go_simp
            try (first | rfl | omega | (simp only [IntKind.wrap_i64, IntKind.wrap_u8, IntKind.wrap_u64, IntKind.wrap_u16, IntKind.wrap_u32]; omega) | (rw [Int.tmod_eq_emod_of_nonneg (by omega)]) | (rw [Int.tmod_eq_emod_of_nonneg (by omega)]; omega))
          · intro a vs W hX hR he hf K hK
            rw [if_pos (wanted_none rfl)]
            have e61 : a.eval (.tmp 61) = .pointer (some ⟨w.heap.size, 2, none⟩) := (he 7 61 (by kernel_rfl) rfl).trans (hR 7 (by kernel_rfl))
            have hbW := bthen (below_drew _) (grow_below hX)
            have hc : W.cell? ⟨w.heap.size, 2, none⟩ = some (str m.beg) := ((HB.out.on hbW).cell 2).trans (rfl : m.cells[2]? = some (str m.beg))
            refine wp_value (v := _) ?_ (hK _ _ rfl (grown_refl W _))
            simp only [execOp, e61]
            try go_simp
          · intro a vs W hX hR he hf K hK
            rw [if_pos (wanted_none rfl)]
            have e3 : a.eval (.tmp 3) = .pointer (some ⟨w.heap.size, 0, none⟩) := hf 3 (by kernel_rfl)
            refine wp_value (v := .pointer (some ⟨w.heap.size, 3, none⟩)) ?_ (hK _ _ rfl (grown_refl W _))
            simp only [execOp, e3]
            try go_simp
            try (first | rfl | omega | (simp only [IntKind.wrap_i64, IntKind.wrap_u8, IntKind.wrap_u64, IntKind.wrap_u16, IntKind.wrap_u32]; omega) | (rw [Int.tmod_eq_emod_of_nonneg (by omega)]) | (rw [Int.tmod_eq_emod_of_nonneg (by omega)]; omega))
          · intro a vs W hX hR he hf K hK
            rw [if_pos (wanted_none rfl)]
            have e63 : a.eval (.tmp 63) = .pointer (some ⟨w.heap.size, 3, none⟩) := (he 9 63 (by kernel_rfl) rfl).trans (hR 9 (by kernel_rfl))
            have hbW := bthen (below_drew _) (grow_below hX)
            have hc : W.cell? ⟨w.heap.size, 3, none⟩ = some (.slice m.A m.n m.c) := ((HB.out.on hbW).cell 3).trans (rfl : m.cells[3]? = some (.slice m.A m.n m.c))
            refine wp_value (v := _) ?_ (hK _ _ rfl (grown_refl W _))
            simp only [execOp, e63]
            try go_simp
          · intro a vs W hX hR he hf K hK
            rw [if_pos (wanted_none rfl)]
            have e64 : a.eval (.tmp 64) = .slice m.A m.n m.c := (he 10 64 (by kernel_rfl) rfl).trans (hR 10 (by kernel_rfl))
            have f64 := e64
            simp only [Act.eval, Array.getD_eq_getD_getElem?] at f64
            refine wp_value (v := .int .i64 (m.n : Int)) ?_ (hK _ _ rfl (grown_refl W _))
            simp only [execOp, e64]
            try go_simp
            try (first | rfl | omega | (simp only [IntKind.wrap_i64, IntKind.wrap_u8, IntKind.wrap_u64, IntKind.wrap_u16, IntKind.wrap_u32]; omega) | (rw [Int.tmod_eq_emod_of_nonneg (by omega)]) | (rw [Int.tmod_eq_emod_of_nonneg (by omega)]; omega))
          · intro a vs W hX hR he hf K hK
            rw [if_pos (wanted_none rfl)]
            have e65 : a.eval (.tmp 65) = .int .i64 (m.n : Int) := (he 11 65 (by kernel_rfl) rfl).trans (hR 11 (by kernel_rfl))
            refine wp_value (v := .bool false) ?_ (hK _ _ rfl (grown_refl W _))
            simp only [execOp, e65]
            try go_simp
            try (first | rfl | omega | (simp only [IntKind.wrap_i64, IntKind.wrap_u8, IntKind.wrap_u64, IntKind.wrap_u16, IntKind.wrap_u32]; omega) | (rw [Int.tmod_eq_emod_of_nonneg (by omega)]) | (rw [Int.tmod_eq_emod_of_nonneg (by omega)]; omega))
          · intro a vs W hX hR he hf K hK
            rw [if_pos (wanted_none rfl)]
            have e62 : a.eval (.tmp 62) = str m.beg := (he 8 62 (by kernel_rfl) rfl).trans (hR 8 (by kernel_rfl))
            have e66 : a.eval (.tmp 66) = .bool false := (he 12 66 (by kernel_rfl) rfl).trans (hR 12 (by kernel_rfl))
            refine wp_enter (f := 16) (args := #[str m.beg, .bool false]) (by simp only [execOp, e62, e66]; go_simp; exact ⟨by simpa [Act.eval] using e62, by simpa [Act.eval] using e66⟩) ((begin23_any m.beg false HM.out W).mono ?_)
            rintro e w' ⟨rfl, rfl⟩
            exact ⟨_, rfl, hK _ _ (congrArg (fun z => str z) HBG.out) (grown_refl _ _)⟩
          · intro a vs W hX hR he hf K hK
            rw [if_pos (wanted_none rfl)]
            have e60 : a.eval (.tmp 60) = str ([0] ++ [0] ++ toBe 2 m.mtu.toNat) := (he 6 60 (by kernel_rfl) rfl).trans (hR 6 (by kernel_rfl))
            have e67 : a.eval (.tmp 67) = str BG := (he 13 67 (by kernel_rfl) rfl).trans (hR 13 (by kernel_rfl))
            exact wp_value (exec_add _ _ _ _ rfl Tryd.underlying9 ([0] ++ [0] ++ toBe 2 m.mtu.toNat) (BG) e60 e67 (by simp [toBe_length, frontK_length] <;> omega)) (hK _ _ rfl (grown_refl W _))
          · intro a vs W hX hR he hf K hK
            rw [if_pos (wanted_none rfl)]
            have e8 : a.eval (.tmp 8) = str ([] : List UInt8) := hf 8 (by kernel_rfl)
            refine wp_value (v := str ([] : List UInt8)) ?_ (hK _ _ rfl (grown_refl W _))
            simp only [execOp, e8]
            try go_simp
            try (first | rfl | omega | (simp only [IntKind.wrap_i64, IntKind.wrap_u8, IntKind.wrap_u64, IntKind.wrap_u16, IntKind.wrap_u32]; omega) | (rw [Int.tmod_eq_emod_of_nonneg (by omega)]) | (rw [Int.tmod_eq_emod_of_nonneg (by omega)]; omega))
          · intro a vs W hX hR he hf K hK
            rw [if_pos (wanted_none rfl)]
            have e68 : a.eval (.tmp 68) = str ([0] ++ [0] ++ toBe 2 m.mtu.toNat ++ BG) := (he 14 68 (by kernel_rfl) rfl).trans (hR 14 (by kernel_rfl))
            have e69 : a.eval (.tmp 69) = str ([] : List UInt8) := (he 15 69 (by kernel_rfl) rfl).trans (hR 15 (by kernel_rfl))
            exact wp_value (exec_add _ _ _ _ rfl Tryd.underlying9 ([0] ++ [0] ++ toBe 2 m.mtu.toNat ++ BG) (([] : List UInt8)) e68 e69 (by simp [toBe_length, frontK_length] <;> omega)) (hK _ _ rfl (grown_refl W _))
          · intro a vs W hX hR he hf K hK
            rw [if_pos (wanted_none rfl)]
            have e70 : a.eval (.tmp 70) = str ([0] ++ [0] ++ toBe 2 m.mtu.toNat ++ BG ++ ([] : List UInt8)) := (he 16 70 (by kernel_rfl) rfl).trans (hR 16 (by kernel_rfl))
            refine wp_value (v := str ([0] ++ [0] ++ toBe 2 m.mtu.toNat ++ BG ++ ([] : List UInt8))) ?_ (hK _ _ rfl (grown_refl W _))
            simp only [execOp, e70]
            try go_simp
            try (first | rfl | omega | (simp only [IntKind.wrap_i64, IntKind.wrap_u8, IntKind.wrap_u64, IntKind.wrap_u16, IntKind.wrap_u32]; omega) | (rw [Int.tmod_eq_emod_of_nonneg (by omega)]) | (rw [Int.tmod_eq_emod_of_nonneg (by omega)]; omega))
          · intro vs w5 hX5 hR
            have q0 := hR 0 (by decide)
            have q1 := hR 1 (by decide)
            have q2 := hR 2 (by decide)
            have q3 := hR 3 (by decide)
            have q4 := hR 4 (by decide)
            have q5 := hR 5 (by decide)
            have q6 := hR 6 (by decide)
            have q7 := hR 7 (by decide)
            have q8 := hR 8 (by decide)
            have q9 := hR 9 (by decide)
            have q10 := hR 10 (by decide)
            have q11 := hR 11 (by decide)
            have q12 := hR 12 (by decide)
            have q13 := hR 13 (by decide)
            have q14 := hR 14 (by decide)
            have q15 := hR 15 (by decide)
            have q16 := hR 16 (by decide)
            have q17 := hR 17 (by decide)
            change vs 0 = str [0] at q0
            change vs 1 = str ([0] ++ [0]) at q1
            change vs 2 = .pointer (some ⟨w.heap.size, 1, none⟩) at q2
            change vs 3 = .int .i64 m.mtu at q3
            change vs 4 = .int .u64 m.mtu at q4
            change vs 5 = str (toBe 2 m.mtu.toNat) at q5
            change vs 6 = str ([0] ++ [0] ++ toBe 2 m.mtu.toNat) at q6
            change vs 7 = .pointer (some ⟨w.heap.size, 2, none⟩) at q7
            change vs 8 = str m.beg at q8
            change vs 9 = .pointer (some ⟨w.heap.size, 3, none⟩) at q9
            change vs 10 = .slice m.A m.n m.c at q10
            change vs 11 = .int .i64 (m.n : Int) at q11
            change vs 12 = .bool false at q12
            change vs 13 = str BG at q13
            change vs 14 = str ([0] ++ [0] ++ toBe 2 m.mtu.toNat ++ BG) at q14
            change vs 15 = str ([] : List UInt8) at q15
            change vs 16 = str ([0] ++ [0] ++ toBe 2 m.mtu.toNat ++ BG ++ ([] : List UInt8)) at q16
            change vs 17 = str ([0] ++ [0] ++ toBe 2 m.mtu.toNat ++ BG ++ ([] : List UInt8)) at q17
            simp only [putAll, Act.put, List.setIfInBounds_toArray, List.set_cons_zero, List.set_cons_succ, q0, q1, q2, q3, q4, q5, q6, q7, q8, q9, q10, q11, q12, q13, q14, q15, q16, q17]
            clear q0 q1 q2 q3 q4 q5 q6 q7 q8 q9 q10 q11 q12 q13 q14 q15 q16 q17
            clear hR
            have hb := bthen (below_drew w4) (grow_below hX5)
            clear hX5
            replace HW := Lib.hid (bthen HW.out hb)
            replace HB := Lib.hid (HB.out.on hb)
            replace HS := Lib.hid (HS.out.on hb)
            replace HD := Lib.hid (HD.out.on hb)
            clear hb
            rw [HRR.out]
            have d0 : w5.cell? ⟨w.heap.size, 0, none⟩ = some (.int .i64 m.kind) := HB.out.cell 0
            go_wp2_with fail
            clear d0
            refine (front_any m.kind (by omega) (by omega) w5).mono ?_
            rintro e w6 ⟨rfl, hb⟩
            rw [HFR.out]
            replace HW := Lib.hid (bthen HW.out hb)
            replace HB := Lib.hid (HB.out.on hb)
            replace HS := Lib.hid (HS.out.on hb)
            replace HD := Lib.hid (HD.out.on hb)
            clear hb
            go_wp2_with (first
              | (refine wpList_value (by rfl) (exec_add _ _ _ _ rfl Tryd.underlying9 FR [0, 0] rfl rfl (by simp; omega)) ?_)
              | (refine wpList_value (by rfl) (exec_add _ _ _ _ rfl Tryd.underlying9 (FR ++ [0, 0]) R rfl rfl (by simp; omega)) ?_))
            refine (HRO.out w6).mono ?_
            rintro e w7 ⟨rfl, rfl⟩
            go_wp2_with fail
            refine wp_region_rel (fun A B => A.grownBy B none) (fun A => grown_refl A _) (fun A B C h k => grown_trans h k) (relAt (List.cons (fun v _ => v = .agg (bv src).toArray) (List.cons (fun v _ => v = .agg (bv dst).toArray) (List.cons (fun v _ => v = .agg (head23 src dst).cells.toArray) (List.cons (fun v _ => v = .pointer (some ⟨w.heap.size, 0, none⟩)) (List.cons (fun v _ => v = .int .i64 m.kind) (List.cons (fun v _ => v = str FR) (List.cons (fun v _ => v = .int .i64 (N : Int)) (List.cons (fun v _ => v = .int .u64 (N : Int)) (List.cons (fun v _ => v = str (toBe 2 N)) (List.cons (fun v _ => v = str (FR ++ toBe 2 N)) (List.cons (fun v _ => v = str R) (List.cons (fun v _ => v = str (FR ++ toBe 2 N ++ R)) (List.cons (fun v _ => v = .tuple #[str PK, .int .i64 PE]) (List.cons (fun v _ => v = str PK) (List.cons (fun v _ => v = .int .i64 PE) (List.cons (fun v _ => v = str PK) (List.cons (fun v _ => v = .int .i64 PE) ([]))))))))))))))))))) (MonoL.at_ (.cons (mono_val _) (.cons (mono_val _) (.cons (mono_val _) (.cons (mono_val _) (.cons (mono_val _) (.cons (mono_val _) (.cons (mono_val _) (.cons (mono_val _) (.cons (mono_val _) (.cons (mono_val _) (.cons (mono_val _) (.cons (mono_val _) (.cons (mono_val _) (.cons (mono_val _) (.cons (mono_val _) (.cons (mono_val _) (.cons (mono_val _) .nil)))))))))))))))))) (by kernel_rfl) (by kernel_rfl) ⟨?_, ?_, ?_, ?_, ?_, ?_, ?_, ?_, ?_, ?_, ?_, ?_, ?_, ?_, ?_, ?_, ?_, trivial⟩ ?_
            · intro a vs W hX hR he hf K hK
              rw [if_pos (wanted_none rfl)]
              have e4 : a.eval (.tmp 4) = .pointer (some ⟨w.heap.size + 1, 0, none⟩) := hf 4 (by kernel_rfl)
              have hbW := bthen (below_drew _) (grow_below hX)
              exact wp_value (exec_load 26 _ rfl (w.heap.size + 1) e4 26 (bv src) _ (HS.out.on hbW) Tryd.underlying26 rfl (sizeA4 _ HSL.out)) (hK _ _ rfl (grown_refl W _))
            · intro a vs W hX hR he hf K hK
              rw [if_pos (wanted_none rfl)]
              have e5 : a.eval (.tmp 5) = .pointer (some ⟨w.heap.size + 1 + 1, 0, none⟩) := hf 5 (by kernel_rfl)
              have hbW := bthen (below_drew _) (grow_below hX)
              exact wp_value (exec_load 26 _ rfl (w.heap.size + 1 + 1) e5 26 (bv dst) _ (HD.out.on hbW) Tryd.underlying26 rfl (sizeA4 _ HDL.out)) (hK _ _ rfl (grown_refl W _))
            · intro a vs W hX hR he hf K hK
              rw [if_pos (wanted_none rfl)]
              have e78 : a.eval (.tmp 78) = .agg (bv src).toArray := (he 0 78 (by kernel_rfl) rfl).trans (hR 0 (by kernel_rfl))
              have e79 : a.eval (.tmp 79) = .agg (bv dst).toArray := (he 1 79 (by kernel_rfl) rfl).trans (hR 1 (by kernel_rfl))
              have f78 := e78
              simp only [Act.eval, Array.getD_eq_getD_getElem?] at f78
              have f79 := e79
              simp only [Act.eval, Array.getD_eq_getD_getElem?] at f79
              exact wp_value (exec_build23 _ _ rfl src dst HSL.out HDL.out e78 e79) (hK _ _ rfl (grown_refl W _))
            · intro a vs W hX hR he hf K hK
              rw [if_pos (wanted_none rfl)]
              have e3 : a.eval (.tmp 3) = .pointer (some ⟨w.heap.size, 0, none⟩) := hf 3 (by kernel_rfl)
              refine wp_value (v := .pointer (some ⟨w.heap.size, 0, none⟩)) ?_ (hK _ _ rfl (grown_refl W _))
              simp only [execOp, e3]
              try go_simp
              try (first | rfl | omega | (simp only [IntKind.wrap_i64, IntKind.wrap_u8, IntKind.wrap_u64, IntKind.wrap_u16, IntKind.wrap_u32]; omega) | (rw [Int.tmod_eq_emod_of_nonneg (by omega)]) | (rw [Int.tmod_eq_emod_of_nonneg (by omega)]; omega))
            · intro a vs W hX hR he hf K hK
              rw [if_pos (wanted_none rfl)]
              have e81 : a.eval (.tmp 81) = .pointer (some ⟨w.heap.size, 0, none⟩) := (he 3 81 (by kernel_rfl) rfl).trans (hR 3 (by kernel_rfl))
              have hbW := bthen (below_drew _) (grow_below hX)
              have hc : W.cell? ⟨w.heap.size, 0, none⟩ = some (.int .i64 m.kind) := ((HB.out.on hbW).cell 0).trans (rfl : m.cells[0]? = some (.int .i64 m.kind))
              refine wp_value (v := _) ?_ (hK _ _ rfl (grown_refl W _))
              simp only [execOp, e81]
              try go_simp
            · intro a vs W hX hR he hf K hK
              rw [if_pos (wanted_none rfl)]
              have e82 : a.eval (.tmp 82) = .int .i64 m.kind := (he 4 82 (by kernel_rfl) rfl).trans (hR 4 (by kernel_rfl))
              refine wp_enter (f := 25) (args := #[.int .i64 m.kind]) (by simp only [execOp, e82]; go_simp; simpa [Act.eval] using e82) ((front_any m.kind (by omega) (by omega) W).mono ?_)
              rintro e w' ⟨rfl, hb⟩
              exact ⟨_, rfl, hK _ _ (congrArg (fun z => str z) HFR.out) (below_grow hb _)⟩
            · intro a vs W hX hR he hf K hK
              rw [if_pos (wanted_none rfl)]
              have e12 : a.eval (.tmp 12) = .int .i64 (N : Int) := hf 12 (by kernel_rfl)
              refine wp_value (v := .int .i64 (N : Int)) ?_ (hK _ _ rfl (grown_refl W _))
              simp only [execOp, e12]
              try go_simp
              try (first | rfl | omega | (simp only [IntKind.wrap_i64, IntKind.wrap_u8, IntKind.wrap_u64, IntKind.wrap_u16, IntKind.wrap_u32]; omega) | (rw [Int.tmod_eq_emod_of_nonneg (by omega)]) | (rw [Int.tmod_eq_emod_of_nonneg (by omega)]; omega))
            · intro a vs W hX hR he hf K hK
              rw [if_pos (wanted_none rfl)]
              have e84 : a.eval (.tmp 84) = .int .i64 (N : Int) := (he 6 84 (by kernel_rfl) rfl).trans (hR 6 (by kernel_rfl))
              refine wp_value (v := .int .u64 (N : Int)) ?_ (hK _ _ rfl (grown_refl W _))
              simp only [execOp, e84]
              try go_simp
              try (first | rfl | omega | (simp only [IntKind.wrap_i64, IntKind.wrap_u8, IntKind.wrap_u64, IntKind.wrap_u16, IntKind.wrap_u32]; omega) | (rw [Int.tmod_eq_emod_of_nonneg (by omega)]) | (rw [Int.tmod_eq_emod_of_nonneg (by omega)]; omega))
            · intro a vs W hX hR he hf K hK
              rw [if_pos (wanted_none rfl)]
              have e85 : a.eval (.tmp 85) = .int .u64 (N : Int) := (he 7 85 (by kernel_rfl) rfl).trans (hR 7 (by kernel_rfl))
              refine wp_enter (f := 23) (args := #[.int .u64 (N : Int), .int .i64 2]) (by simp only [execOp, e85]; go_simp; simpa [Act.eval] using e85) ((bytes_any (N : Int) 2 W (by omega) (by omega) (by omega) (by omega)).mono ?_)
              rintro e w' ⟨rfl, hb⟩
              exact ⟨_, rfl, hK _ _ rfl (below_grow hb _)⟩
            · intro a vs W hX hR he hf K hK
              rw [if_pos (wanted_none rfl)]
              have e83 : a.eval (.tmp 83) = str FR := (he 5 83 (by kernel_rfl) rfl).trans (hR 5 (by kernel_rfl))
              have e86 : a.eval (.tmp 86) = str (toBe 2 N) := (he 8 86 (by kernel_rfl) rfl).trans (hR 8 (by kernel_rfl))
              exact wp_value (exec_add _ _ _ _ rfl Tryd.underlying9 (FR) (toBe 2 N) e83 e86 (by simp [toBe_length, frontK_length] <;> omega)) (hK _ _ rfl (grown_refl W _))
            · intro a vs W hX hR he hf K hK
              rw [if_pos (wanted_none rfl)]
              have e11 : a.eval (.tmp 11) = str R := hf 11 (by kernel_rfl)
              refine wp_value (v := str R) ?_ (hK _ _ rfl (grown_refl W _))
              simp only [execOp, e11]
              try go_simp
              try (first | rfl | omega | (simp only [IntKind.wrap_i64, IntKind.wrap_u8, IntKind.wrap_u64, IntKind.wrap_u16, IntKind.wrap_u32]; omega) | (rw [Int.tmod_eq_emod_of_nonneg (by omega)]) | (rw [Int.tmod_eq_emod_of_nonneg (by omega)]; omega))
            · intro a vs W hX hR he hf K hK
              rw [if_pos (wanted_none rfl)]
              have e87 : a.eval (.tmp 87) = str (FR ++ toBe 2 N) := (he 9 87 (by kernel_rfl) rfl).trans (hR 9 (by kernel_rfl))
              have e88 : a.eval (.tmp 88) = str R := (he 10 88 (by kernel_rfl) rfl).trans (hR 10 (by kernel_rfl))
              exact wp_value (exec_add _ _ _ _ rfl Tryd.underlying9 (FR ++ toBe 2 N) (R) e87 e88 (by simp [toBe_length, frontK_length] <;> omega)) (hK _ _ rfl (grown_refl W _))
            · intro a vs W hX hR he hf K hK
              rw [if_pos (wanted_none rfl)]
              have e80 : a.eval (.tmp 80) = .agg (head23 src dst).cells.toArray := (he 2 80 (by kernel_rfl) rfl).trans (hR 2 (by kernel_rfl))
              have e89 : a.eval (.tmp 89) = str (FR ++ toBe 2 N ++ R) := (he 11 89 (by kernel_rfl) rfl).trans (hR 11 (by kernel_rfl))
              refine wp_enter (f := 26) (args := #[.agg (head23 src dst).cells.toArray, str (FR ++ toBe 2 N ++ R)]) (by simp only [execOp, e80, e89]; go_simp; exact ⟨by simpa [Act.eval] using e80, by simpa [Act.eval] using e89⟩) ((rput4_any (head23 src dst) HHF.out (FR ++ toBe 2 N ++ R) W (by simp [toBe_length]; omega)).mono ?_)
              rintro e w' ⟨rfl, hb⟩
              exact ⟨_, rfl, hK _ _ (congrArg (fun z : List UInt8 × Int => Value.tuple #[str z.1, .int .i64 z.2]) HPK.out) (below_grow hb _)⟩
            · intro a vs W hX hR he hf K hK
              rw [if_pos (wanted_none rfl)]
              have e90 : a.eval (.tmp 90) = .tuple #[str PK, .int .i64 PE] := (he 12 90 (by kernel_rfl) rfl).trans (hR 12 (by kernel_rfl))
              refine wp_value (v := str PK) ?_ (hK _ _ rfl (grown_refl W _))
              simp only [execOp, e90]
              try go_simp
              try (first | rfl | omega | (simp only [IntKind.wrap_i64, IntKind.wrap_u8, IntKind.wrap_u64, IntKind.wrap_u16, IntKind.wrap_u32]; omega) | (rw [Int.tmod_eq_emod_of_nonneg (by omega)]) | (rw [Int.tmod_eq_emod_of_nonneg (by omega)]; omega))
            · intro a vs W hX hR he hf K hK
              rw [if_pos (wanted_none rfl)]
              have e90 : a.eval (.tmp 90) = .tuple #[str PK, .int .i64 PE] := (he 12 90 (by kernel_rfl) rfl).trans (hR 12 (by kernel_rfl))
              refine wp_value (v := .int .i64 PE) ?_ (hK _ _ rfl (grown_refl W _))
              simp only [execOp, e90]
              try go_simp
              try (first | rfl | omega | (simp only [IntKind.wrap_i64, IntKind.wrap_u8, IntKind.wrap_u64, IntKind.wrap_u16, IntKind.wrap_u32]; omega) | (rw [Int.tmod_eq_emod_of_nonneg (by omega)]) | (rw [Int.tmod_eq_emod_of_nonneg (by omega)]; omega))
            · intro a vs W hX hR he hf K hK
              rw [if_pos (wanted_none rfl)]
              have e91 : a.eval (.tmp 91) = str PK := (he 13 91 (by kernel_rfl) rfl).trans (hR 13 (by kernel_rfl))
              refine wp_value (v := str PK) ?_ (hK _ _ rfl (grown_refl W _))
              simp only [execOp, e91]
              try go_simp
              try (first | rfl | omega | (simp only [IntKind.wrap_i64, IntKind.wrap_u8, IntKind.wrap_u64, IntKind.wrap_u16, IntKind.wrap_u32]; omega) | (rw [Int.tmod_eq_emod_of_nonneg (by omega)]) | (rw [Int.tmod_eq_emod_of_nonneg (by omega)]; omega))
            · intro a vs W hX hR he hf K hK
              rw [if_pos (wanted_none rfl)]
              have e92 : a.eval (.tmp 92) = .int .i64 PE := (he 14 92 (by kernel_rfl) rfl).trans (hR 14 (by kernel_rfl))
              refine wp_value (v := .int .i64 PE) ?_ (hK _ _ rfl (grown_refl W _))
              simp only [execOp, e92]
              try go_simp
              try (first | rfl | omega | (simp only [IntKind.wrap_i64, IntKind.wrap_u8, IntKind.wrap_u64, IntKind.wrap_u16, IntKind.wrap_u32]; omega) | (rw [Int.tmod_eq_emod_of_nonneg (by omega)]) | (rw [Int.tmod_eq_emod_of_nonneg (by omega)]; omega))
            · intro vs w8 hX8 hR
              have q0 := hR 0 (by decide)
              have q1 := hR 1 (by decide)
              have q2 := hR 2 (by decide)
              have q3 := hR 3 (by decide)
              have q4 := hR 4 (by decide)
              have q5 := hR 5 (by decide)
              have q6 := hR 6 (by decide)
              have q7 := hR 7 (by decide)
              have q8 := hR 8 (by decide)
              have q9 := hR 9 (by decide)
              have q10 := hR 10 (by decide)
              have q11 := hR 11 (by decide)
              have q12 := hR 12 (by decide)
              have q13 := hR 13 (by decide)
              have q14 := hR 14 (by decide)
              have q15 := hR 15 (by decide)
              have q16 := hR 16 (by decide)
              change vs 0 = .agg (bv src).toArray at q0
              change vs 1 = .agg (bv dst).toArray at q1
              change vs 2 = .agg (head23 src dst).cells.toArray at q2
              change vs 3 = .pointer (some ⟨w.heap.size, 0, none⟩) at q3
              change vs 4 = .int .i64 m.kind at q4
              change vs 5 = str FR at q5
              change vs 6 = .int .i64 (N : Int) at q6
              change vs 7 = .int .u64 (N : Int) at q7
              change vs 8 = str (toBe 2 N) at q8
              change vs 9 = str (FR ++ toBe 2 N) at q9
              change vs 10 = str R at q10
              change vs 11 = str (FR ++ toBe 2 N ++ R) at q11
              change vs 12 = .tuple #[str PK, .int .i64 PE] at q12
              change vs 13 = str PK at q13
              change vs 14 = .int .i64 PE at q14
              change vs 15 = str PK at q15
              change vs 16 = .int .i64 PE at q16
              simp only [putAll, Act.put, List.setIfInBounds_toArray, List.set_cons_zero, List.set_cons_succ, q0, q1, q2, q3, q4, q5, q6, q7, q8, q9, q10, q11, q12, q13, q14, q15, q16]
              clear q0 q1 q2 q3 q4 q5 q6 q7 q8 q9 q10 q11 q12 q13 q14 q15 q16
              clear hR
              have hb := bthen (below_drew w6) (grow_below hX8)
              clear hX8
              replace HW := Lib.hid (bthen HW.out hb)
              replace HB := Lib.hid (HB.out.on hb)
              replace HS := Lib.hid (HS.out.on hb)
              replace HD := Lib.hid (HD.out.on hb)
              clear hb
              go_wp2_with fail
              go_ret2
              exact ⟨by rw [HNO.out]; rfl, HW.out⟩
      · have hn0' : ((m.n : Int) == 0) = false := by simp [hn0]
        have hn1 : (0 : Int) < (m.n : Int) := by omega
        obtain ⟨BG, hBG⟩ : ∃ z, begin23 m.beg true = z := ⟨_, rfl⟩
        have hbgl := begin23_le m.beg true
        rw [hBG] at hbgl
        have HBG := Lib.hid hBG
        have hrr : rest23 m = [0] ++ [32] ++ toBe 2 m.mtu.toNat ++ BG ++ ST := by
          unfold rest23 lb23 ext23
          rw [hst]
          simp only [hn0, decide_true, decide_false, if_true, if_false, Nat.lt_irrefl]
          rw [show decide (0 < m.n) = true by simp; omega]
          rw [hBG]
        obtain ⟨R, hR⟩ : ∃ z, rest23 m = z := ⟨_, rfl⟩
        have hrl := rest23_le m
        rw [hR] at hrl hrr
        obtain ⟨FR, hFR⟩ : ∃ z, frontK m.kind = z := ⟨_, rfl⟩
        have hfl := frontK_length m.kind
        rw [hFR] at hfl
        obtain ⟨N, hN⟩ : ∃ z, 65535 - rawN (FR ++ [0, 0] ++ R) = z := ⟨_, rfl⟩
        have RO := fun W => rof_any (FR ++ [0, 0] ++ R) W (by simp; omega)
        rw [hN] at RO
        simp only [List.append_assoc, List.cons_append, List.nil_append] at RO
        have hN1 : N ≤ 65535 := by omega
        have hno : put23 m src dst = put4 (head23 src dst) (FR ++ toBe 2 N ++ R) := by
          unfold put23 body23
          rw [if_neg hbad, hst, if_neg (by simp), hR, hFR, hN]
        cases hpk : put4 (head23 src dst) (FR ++ toBe 2 N ++ R) with
        | mk PK PE =>
        rw [hpk] at hno
        have HRR := Lib.hid hrr.symm
        have HFR := Lib.hid hFR
        have HRO := Lib.hid RO
        have HNO := Lib.hid hno
        have HPK := Lib.hid hpk
        have HHF := Lib.hid (head23_fit src dst HSL.out HDL.out)
        have hwr : IntKind.u64.wrap (N : Int) = (N : Int) := by rw [IntKind.wrap_u64]; omega
        have hwm : IntKind.u64.wrap m.mtu = m.mtu := by rw [IntKind.wrap_u64]; omega
        clear hm SX hst hbad hBG hrr hR hFR hN RO hno hpk hn0
        rcases h5 with h5 | ⟨h5, h6⟩
        all_goals
          first | (have h5' : (m.kind != 1) = false := by rw [h5]; rfl) | (have h5' : (m.kind != 1) = true := by simpa [bne] using h5)
          clear h5
          go_enter Tryd.func9, Tryd.ntmps9
          go_upto_region 1 with (first
            | (refine wpList_box_blk (by rfl) 34 _ rfl m.cells rfl ?_; intro w1 hk1 hB1 hs1)
            | (refine wpList_box_blk (by rfl) 26 _ rfl (bv src) rfl ?_; intro w2 hk2 hB2 hs2)
            | (refine wpList_box_blk (by rfl) 26 _ rfl (bv dst) rfl ?_; intro w3 hk3 hB3 hs3))
          have hk13 := (hk1.on hB2).on hB3
          have d0 : w3.cell? ⟨w.heap.size, 0, none⟩ = some (.int .i64 m.kind) := hk13.cell 0
          have d1 : w3.cell? ⟨w.heap.size, 1, none⟩ = some (.int .i64 m.mtu) := hk13.cell 1
          have d3 : w3.cell? ⟨w.heap.size, 3, none⟩ = some (.slice m.A m.n m.c) := hk13.cell 3
          go_wp2_with fail
          have HW := Lib.hid (bthen (bthen hB1 hB2) hB3)
          have HB := Lib.hid ((hk1.on hB2).on hB3)
          rw [hs1] at hk2
          have HS := Lib.hid (hk2.on hB3)
          rw [hs2, hs1] at hk3
          have HD := Lib.hid hk3
          clear d0 d1 d3 hk13 hk1 hk2 hk3 hs1 hs2 hs3 hB1 hB2 hB3
          refine (HSX.out w3 HW.out).mono ?_
          rintro e w4 ⟨rfl, hb⟩
          replace HW := Lib.hid (bthen HW.out hb)
          replace HB := Lib.hid (HB.out.on hb)
          replace HS := Lib.hid (HS.out.on hb)
          replace HD := Lib.hid (HD.out.on hb)
          clear hb
          have d3 : w4.cell? ⟨w.heap.size, 3, none⟩ = some (.slice m.A m.n m.c) := HB.out.cell 3
          go_wp2_with fail
          clear d3
          refine wp_region_rel (fun A B => A.grownBy B none) (fun A => grown_refl A _) (fun A B C h k => grown_trans h k) (relAt (List.cons (fun v _ => v = str [32]) (List.cons (fun v _ => v = str ([0] ++ [32])) (List.cons (fun v _ => v = .pointer (some ⟨w.heap.size, 1, none⟩)) (List.cons (fun v _ => v = .int .i64 m.mtu) (List.cons (fun v _ => v = .int .u64 m.mtu) (List.cons (fun v _ => v = str (toBe 2 m.mtu.toNat)) (List.cons (fun v _ => v = str ([0] ++ [32] ++ toBe 2 m.mtu.toNat)) (List.cons (fun v _ => v = .pointer (some ⟨w.heap.size, 2, none⟩)) (List.cons (fun v _ => v = str m.beg) (List.cons (fun v _ => v = .pointer (some ⟨w.heap.size, 3, none⟩)) (List.cons (fun v _ => v = .slice m.A m.n m.c) (List.cons (fun v _ => v = .int .i64 (m.n : Int)) (List.cons (fun v _ => v = .bool true) (List.cons (fun v _ => v = str BG) (List.cons (fun v _ => v = str ([0] ++ [32] ++ toBe 2 m.mtu.toNat ++ BG)) (List.cons (fun v _ => v = str ST) (List.cons (fun v _ => v = str ([0] ++ [32] ++ toBe 2 m.mtu.toNat ++ BG ++ ST)) (List.cons (fun v _ => v = str ([0] ++ [32] ++ toBe 2 m.mtu.toNat ++ BG ++ ST)) ([])))))))))))))))))))) (MonoL.at_ (.cons (mono_val _) (.cons (mono_val _) (.cons (mono_val _) (.cons (mono_val _) (.cons (mono_val _) (.cons (mono_val _) (.cons (mono_val _) (.cons (mono_val _) (.cons (mono_val _) (.cons (mono_val _) (.cons (mono_val _) (.cons (mono_val _) (.cons (mono_val _) (.cons (mono_val _) (.cons (mono_val _) (.cons (mono_val _) (.cons (mono_val _) (.cons (mono_val _) .nil))))))))))))))))))) (by kernel_rfl) (by kernel_rfl) ⟨?_, ?_, ?_, ?_, ?_, ?_, ?_, ?_, ?_, ?_, ?_, ?_, ?_, ?_, ?_, ?_, ?_, ?_, trivial⟩ ?_
          · intro a vs W hX hR he hf K hK
            rw [if_pos (wanted_none rfl)]
            have e10 : a.eval (.tmp 10) = str [32] := hf 10 (by kernel_rfl)
            refine wp_value (v := str [32]) ?_ (hK _ _ rfl (grown_refl W _))
            simp only [execOp, e10]
            try go_simp
            try (first | rfl | omega | (simp only [IntKind.wrap_i64, IntKind.wrap_u8, IntKind.wrap_u64, IntKind.wrap_u16, IntKind.wrap_u32]; omega) | (rw [Int.tmod_eq_emod_of_nonneg (by omega)]) | (rw [Int.tmod_eq_emod_of_nonneg (by omega)]; omega))
          · intro a vs W hX hR he hf K hK
            rw [if_pos (wanted_none rfl)]
            have e54 : a.eval (.tmp 54) = str [32] := (he 0 54 (by kernel_rfl) rfl).trans (hR 0 (by kernel_rfl))
            exact wp_value (exec_add _ _ _ _ rfl Tryd.underlying9 ([0]) ([32]) rfl e54 (by simp [toBe_length, frontK_length] <;> omega)) (hK _ _ rfl (grown_refl W _))
          · intro a vs W hX hR he hf K hK
            rw [if_pos (wanted_none rfl)]
            have e3 : a.eval (.tmp 3) = .pointer (some ⟨w.heap.size, 0, none⟩) := hf 3 (by kernel_rfl)
            refine wp_value (v := .pointer (some ⟨w.heap.size, 1, none⟩)) ?_ (hK _ _ rfl (grown_refl W _))
            simp only [execOp, e3]
            try go_simp
            try (first | rfl | omega | (simp only [IntKind.wrap_i64, IntKind.wrap_u8, IntKind.wrap_u64, IntKind.wrap_u16, IntKind.wrap_u32]; omega) | (rw [Int.tmod_eq_emod_of_nonneg (by omega)]) | (rw [Int.tmod_eq_emod_of_nonneg (by omega)]; omega))
          · intro a vs W hX hR he hf K hK
            rw [if_pos (wanted_none rfl)]
            have e56 : a.eval (.tmp 56) = .pointer (some ⟨w.heap.size, 1, none⟩) := (he 2 56 (by kernel_rfl) rfl).trans (hR 2 (by kernel_rfl))
            have hbW := bthen (below_drew _) (grow_below hX)
            have hc : W.cell? ⟨w.heap.size, 1, none⟩ = some (.int .i64 m.mtu) := ((HB.out.on hbW).cell 1).trans (rfl : m.cells[1]? = some (.int .i64 m.mtu))
            refine wp_value (v := _) ?_ (hK _ _ rfl (grown_refl W _))
            simp only [execOp, e56]
            try go_simp
          · intro a vs W hX hR he hf K hK
            rw [if_pos (wanted_none rfl)]
            have e57 : a.eval (.tmp 57) = .int .i64 m.mtu := (he 3 57 (by kernel_rfl) rfl).trans (hR 3 (by kernel_rfl))
            refine wp_value (v := .int .u64 m.mtu) ?_ (hK _ _ rfl (grown_refl W _))
            simp only [execOp, e57]
            try go_simp
            try (first | rfl | omega | (simp only [IntKind.wrap_i64, IntKind.wrap_u8, IntKind.wrap_u64, IntKind.wrap_u16, IntKind.wrap_u32]; omega) | (rw [Int.tmod_eq_emod_of_nonneg (by omega)]) | (rw [Int.tmod_eq_emod_of_nonneg (by omega)]; omega))
          · intro a vs W hX hR he hf K hK
            rw [if_pos (wanted_none rfl)]
            have e58 : a.eval (.tmp 58) = .int .u64 m.mtu := (he 4 58 (by kernel_rfl) rfl).trans (hR 4 (by kernel_rfl))
            refine wp_enter (f := 23) (args := #[.int .u64 m.mtu, .int .i64 2]) (by simp only [execOp, e58]; go_simp; simpa [Act.eval] using e58) ((bytes_any m.mtu 2 W (by omega) (by omega) (by omega) (by omega)).mono ?_)
            rintro e w' ⟨rfl, hb⟩
            exact ⟨_, rfl, hK _ _ rfl (below_grow hb _)⟩
          · intro a vs W hX hR he hf K hK
            rw [if_pos (wanted_none rfl)]
            have e55 : a.eval (.tmp 55) = str ([0] ++ [32]) := (he 1 55 (by kernel_rfl) rfl).trans (hR 1 (by kernel_rfl))
            have e59 : a.eval (.tmp 59) = str (toBe 2 m.mtu.toNat) := (he 5 59 (by kernel_rfl) rfl).trans (hR 5 (by kernel_rfl))
            exact wp_value (exec_add _ _ _ _ rfl Tryd.underlying9 ([0] ++ [32]) (toBe 2 m.mtu.toNat) e55 e59 (by simp [toBe_length, frontK_length] <;> omega)) (hK _ _ rfl (grown_refl W _))
          · intro a vs W hX hR he hf K hK
            rw [if_pos (wanted_none rfl)]
            have e3 : a.eval (.tmp 3) = .pointer (some ⟨w.heap.size, 0, none⟩) := hf 3 (by kernel_rfl)
            refine wp_value (v := .pointer (some ⟨w.heap.size, 2, none⟩)) ?_ (hK _ _ rfl (grown_refl W _))
            simp only [execOp, e3]
            try go_simp
            try (first | rfl | omega | (simp only [IntKind.wrap_i64, IntKind.wrap_u8, IntKind.wrap_u64, IntKind.wrap_u16, IntKind.wrap_u32]; omega) | (rw [Int.tmod_eq_emod_of_nonneg (by omega)]) | (rw [Int.tmod_eq_emod_of_nonneg (by omega)]; omega))
          · intro a vs W hX hR he hf K hK
            rw [if_pos (wanted_none rfl)]
            have e61 : a.eval (.tmp 61) = .pointer (some ⟨w.heap.size, 2, none⟩) := (he 7 61 (by kernel_rfl) rfl).trans (hR 7 (by kernel_rfl))
            have hbW := bthen (below_drew _) (grow_below hX)
            have hc : W.cell? ⟨w.heap.size, 2, none⟩ = some (str m.beg) := ((HB.out.on hbW).cell 2).trans (rfl : m.cells[2]? = some (str m.beg))
            refine wp_value (v := _) ?_ (hK _ _ rfl (grown_refl W _))
            simp only [execOp, e61]
            try go_simp
          · intro a vs W hX hR he hf K hK
            rw [if_pos (wanted_none rfl)]
            have e3 : a.eval (.tmp 3) = .pointer (some ⟨w.heap.size, 0, none⟩) := hf 3 (by kernel_rfl)
            refine wp_value (v := .pointer (some ⟨w.heap.size, 3, none⟩)) ?_ (hK _ _ rfl (grown_refl W _))
            simp only [execOp, e3]
            try go_simp
            try (first | rfl | omega | (simp only [IntKind.wrap_i64, IntKind.wrap_u8, IntKind.wrap_u64, IntKind.wrap_u16, IntKind.wrap_u32]; omega) | (rw [Int.tmod_eq_emod_of_nonneg (by omega)]) | (rw [Int.tmod_eq_emod_of_nonneg (by omega)]; omega))
          · intro a vs W hX hR he hf K hK
            rw [if_pos (wanted_none rfl)]
            have e63 : a.eval (.tmp 63) = .pointer (some ⟨w.heap.size, 3, none⟩) := (he 9 63 (by kernel_rfl) rfl).trans (hR 9 (by kernel_rfl))
            have hbW := bthen (below_drew _) (grow_below hX)
            have hc : W.cell? ⟨w.heap.size, 3, none⟩ = some (.slice m.A m.n m.c) := ((HB.out.on hbW).cell 3).trans (rfl : m.cells[3]? = some (.slice m.A m.n m.c))
            refine wp_value (v := _) ?_ (hK _ _ rfl (grown_refl W _))
            simp only [execOp, e63]
            try go_simp
          · intro a vs W hX hR he hf K hK
            rw [if_pos (wanted_none rfl)]
            have e64 : a.eval (.tmp 64) = .slice m.A m.n m.c := (he 10 64 (by kernel_rfl) rfl).trans (hR 10 (by kernel_rfl))
            have f64 := e64
            simp only [Act.eval, Array.getD_eq_getD_getElem?] at f64
            refine wp_value (v := .int .i64 (m.n : Int)) ?_ (hK _ _ rfl (grown_refl W _))
            simp only [execOp, e64]
            try go_simp
            try (first | rfl | omega | (simp only [IntKind.wrap_i64, IntKind.wrap_u8, IntKind.wrap_u64, IntKind.wrap_u16, IntKind.wrap_u32]; omega) | (rw [Int.tmod_eq_emod_of_nonneg (by omega)]) | (rw [Int.tmod_eq_emod_of_nonneg (by omega)]; omega))
          · intro a vs W hX hR he hf K hK
            rw [if_pos (wanted_none rfl)]
            have e65 : a.eval (.tmp 65) = .int .i64 (m.n : Int) := (he 11 65 (by kernel_rfl) rfl).trans (hR 11 (by kernel_rfl))
            refine wp_value (v := .bool true) ?_ (hK _ _ rfl (grown_refl W _))
            simp only [execOp, e65]
            try go_simp
            try (first | rfl | omega | (simp only [IntKind.wrap_i64, IntKind.wrap_u8, IntKind.wrap_u64, IntKind.wrap_u16, IntKind.wrap_u32]; omega) | (rw [Int.tmod_eq_emod_of_nonneg (by omega)]) | (rw [Int.tmod_eq_emod_of_nonneg (by omega)]; omega))
          · intro a vs W hX hR he hf K hK
            rw [if_pos (wanted_none rfl)]
            have e62 : a.eval (.tmp 62) = str m.beg := (he 8 62 (by kernel_rfl) rfl).trans (hR 8 (by kernel_rfl))
            have e66 : a.eval (.tmp 66) = .bool true := (he 12 66 (by kernel_rfl) rfl).trans (hR 12 (by kernel_rfl))
            refine wp_enter (f := 16) (args := #[str m.beg, .bool true]) (by simp only [execOp, e62, e66]; go_simp; exact ⟨by simpa [Act.eval] using e62, by simpa [Act.eval] using e66⟩) ((begin23_any m.beg true HM.out W).mono ?_)
            rintro e w' ⟨rfl, rfl⟩
            exact ⟨_, rfl, hK _ _ (congrArg (fun z => str z) HBG.out) (grown_refl _ _)⟩
          · intro a vs W hX hR he hf K hK
            rw [if_pos (wanted_none rfl)]
            have e60 : a.eval (.tmp 60) = str ([0] ++ [32] ++ toBe 2 m.mtu.toNat) := (he 6 60 (by kernel_rfl) rfl).trans (hR 6 (by kernel_rfl))
            have e67 : a.eval (.tmp 67) = str BG := (he 13 67 (by kernel_rfl) rfl).trans (hR 13 (by kernel_rfl))
            exact wp_value (exec_add _ _ _ _ rfl Tryd.underlying9 ([0] ++ [32] ++ toBe 2 m.mtu.toNat) (BG) e60 e67 (by simp [toBe_length, frontK_length] <;> omega)) (hK _ _ rfl (grown_refl W _))
          · intro a vs W hX hR he hf K hK
            rw [if_pos (wanted_none rfl)]
            have e8 : a.eval (.tmp 8) = str ST := hf 8 (by kernel_rfl)
            refine wp_value (v := str ST) ?_ (hK _ _ rfl (grown_refl W _))
            simp only [execOp, e8]
            try go_simp
            try (first | rfl | omega | (simp only [IntKind.wrap_i64, IntKind.wrap_u8, IntKind.wrap_u64, IntKind.wrap_u16, IntKind.wrap_u32]; omega) | (rw [Int.tmod_eq_emod_of_nonneg (by omega)]) | (rw [Int.tmod_eq_emod_of_nonneg (by omega)]; omega))
          · intro a vs W hX hR he hf K hK
            rw [if_pos (wanted_none rfl)]
            have e68 : a.eval (.tmp 68) = str ([0] ++ [32] ++ toBe 2 m.mtu.toNat ++ BG) := (he 14 68 (by kernel_rfl) rfl).trans (hR 14 (by kernel_rfl))
            have e69 : a.eval (.tmp 69) = str ST := (he 15 69 (by kernel_rfl) rfl).trans (hR 15 (by kernel_rfl))
            exact wp_value (exec_add _ _ _ _ rfl Tryd.underlying9 ([0] ++ [32] ++ toBe 2 m.mtu.toNat ++ BG) (ST) e68 e69 (by simp [toBe_length, frontK_length] <;> omega)) (hK _ _ rfl (grown_refl W _))
          · intro a vs W hX hR he hf K hK
            rw [if_pos (wanted_none rfl)]
            have e70 : a.eval (.tmp 70) = str ([0] ++ [32] ++ toBe 2 m.mtu.toNat ++ BG ++ ST) := (he 16 70 (by kernel_rfl) rfl).trans (hR 16 (by kernel_rfl))
            refine wp_value (v := str ([0] ++ [32] ++ toBe 2 m.mtu.toNat ++ BG ++ ST)) ?_ (hK _ _ rfl (grown_refl W _))
            simp only [execOp, e70]
            try go_simp
            try (first | rfl | omega | (simp only [IntKind.wrap_i64, IntKind.wrap_u8, IntKind.wrap_u64, IntKind.wrap_u16, IntKind.wrap_u32]; omega) | (rw [Int.tmod_eq_emod_of_nonneg (by omega)]) | (rw [Int.tmod_eq_emod_of_nonneg (by omega)]; omega))
          · intro vs w5 hX5 hR
            have q0 := hR 0 (by decide)
            have q1 := hR 1 (by decide)
            have q2 := hR 2 (by decide)
            have q3 := hR 3 (by decide)
            have q4 := hR 4 (by decide)
            have q5 := hR 5 (by decide)
            have q6 := hR 6 (by decide)
            have q7 := hR 7 (by decide)
            have q8 := hR 8 (by decide)
            have q9 := hR 9 (by decide)
            have q10 := hR 10 (by decide)
            have q11 := hR 11 (by decide)
            have q12 := hR 12 (by decide)
            have q13 := hR 13 (by decide)
            have q14 := hR 14 (by decide)
            have q15 := hR 15 (by decide)
            have q16 := hR 16 (by decide)
            have q17 := hR 17 (by decide)
            change vs 0 = str [32] at q0
            change vs 1 = str ([0] ++ [32]) at q1
            change vs 2 = .pointer (some ⟨w.heap.size, 1, none⟩) at q2
            change vs 3 = .int .i64 m.mtu at q3
            change vs 4 = .int .u64 m.mtu at q4
            change vs 5 = str (toBe 2 m.mtu.toNat) at q5
            change vs 6 = str ([0] ++ [32] ++ toBe 2 m.mtu.toNat) at q6
            change vs 7 = .pointer (some ⟨w.heap.size, 2, none⟩) at q7
            change vs 8 = str m.beg at q8
            change vs 9 = .pointer (some ⟨w.heap.size, 3, none⟩) at q9
            change vs 10 = .slice m.A m.n m.c at q10
            change vs 11 = .int .i64 (m.n : Int) at q11
            change vs 12 = .bool true at q12
            change vs 13 = str BG at q13
            change vs 14 = str ([0] ++ [32] ++ toBe 2 m.mtu.toNat ++ BG) at q14
            change vs 15 = str ST at q15
            change vs 16 = str ([0] ++ [32] ++ toBe 2 m.mtu.toNat ++ BG ++ ST) at q16
            change vs 17 = str ([0] ++ [32] ++ toBe 2 m.mtu.toNat ++ BG ++ ST) at q17
            simp only [putAll, Act.put, List.setIfInBounds_toArray, List.set_cons_zero, List.set_cons_succ, q0, q1, q2, q3, q4, q5, q6, q7, q8, q9, q10, q11, q12, q13, q14, q15, q16, q17]
            clear q0 q1 q2 q3 q4 q5 q6 q7 q8 q9 q10 q11 q12 q13 q14 q15 q16 q17
            clear hR
            have hb := bthen (below_drew w4) (grow_below hX5)
            clear hX5
            replace HW := Lib.hid (bthen HW.out hb)
            replace HB := Lib.hid (HB.out.on hb)
            replace HS := Lib.hid (HS.out.on hb)
            replace HD := Lib.hid (HD.out.on hb)
            clear hb
            rw [HRR.out]
            have d0 : w5.cell? ⟨w.heap.size, 0, none⟩ = some (.int .i64 m.kind) := HB.out.cell 0
            go_wp2_with fail
            clear d0
            refine (front_any m.kind (by omega) (by omega) w5).mono ?_
            rintro e w6 ⟨rfl, hb⟩
            rw [HFR.out]
            replace HW := Lib.hid (bthen HW.out hb)
            replace HB := Lib.hid (HB.out.on hb)
            replace HS := Lib.hid (HS.out.on hb)
            replace HD := Lib.hid (HD.out.on hb)
            clear hb
            go_wp2_with (first
              | (refine wpList_value (by rfl) (exec_add _ _ _ _ rfl Tryd.underlying9 FR [0, 0] rfl rfl (by simp; omega)) ?_)
              | (refine wpList_value (by rfl) (exec_add _ _ _ _ rfl Tryd.underlying9 (FR ++ [0, 0]) R rfl rfl (by simp; omega)) ?_))
            refine (HRO.out w6).mono ?_
            rintro e w7 ⟨rfl, rfl⟩
            go_wp2_with fail
            refine wp_region_rel (fun A B => A.grownBy B none) (fun A => grown_refl A _) (fun A B C h k => grown_trans h k) (relAt (List.cons (fun v _ => v = .agg (bv src).toArray) (List.cons (fun v _ => v = .agg (bv dst).toArray) (List.cons (fun v _ => v = .agg (head23 src dst).cells.toArray) (List.cons (fun v _ => v = .pointer (some ⟨w.heap.size, 0, none⟩)) (List.cons (fun v _ => v = .int .i64 m.kind) (List.cons (fun v _ => v = str FR) (List.cons (fun v _ => v = .int .i64 (N : Int)) (List.cons (fun v _ => v = .int .u64 (N : Int)) (List.cons (fun v _ => v = str (toBe 2 N)) (List.cons (fun v _ => v = str (FR ++ toBe 2 N)) (List.cons (fun v _ => v = str R) (List.cons (fun v _ => v = str (FR ++ toBe 2 N ++ R)) (List.cons (fun v _ => v = .tuple #[str PK, .int .i64 PE]) (List.cons (fun v _ => v = str PK) (List.cons (fun v _ => v = .int .i64 PE) (List.cons (fun v _ => v = str PK) (List.cons (fun v _ => v = .int .i64 PE) ([]))))))))))))))))))) (MonoL.at_ (.cons (mono_val _) (.cons (mono_val _) (.cons (mono_val _) (.cons (mono_val _) (.cons (mono_val _) (.cons (mono_val _) (.cons (mono_val _) (.cons (mono_val _) (.cons (mono_val _) (.cons (mono_val _) (.cons (mono_val _) (.cons (mono_val _) (.cons (mono_val _) (.cons (mono_val _) (.cons (mono_val _) (.cons (mono_val _) (.cons (mono_val _) .nil)))))))))))))))))) (by kernel_rfl) (by kernel_rfl) ⟨?_, ?_, ?_, ?_, ?_, ?_, ?_, ?_, ?_, ?_, ?_, ?_, ?_, ?_, ?_, ?_, ?_, trivial⟩ ?_
            · intro a vs W hX hR he hf K hK
              rw [if_pos (wanted_none rfl)]
              have e4 : a.eval (.tmp 4) = .pointer (some ⟨w.heap.size + 1, 0, none⟩) := hf 4 (by kernel_rfl)
              have hbW := bthen (below_drew _) (grow_below hX)
              exact wp_value (exec_load 26 _ rfl (w.heap.size + 1) e4 26 (bv src) _ (HS.out.on hbW) Tryd.underlying26 rfl (sizeA4 _ HSL.out)) (hK _ _ rfl (grown_refl W _))
            · intro a vs W hX hR he hf K hK
              rw [if_pos (wanted_none rfl)]
              have e5 : a.eval (.tmp 5) = .pointer (some ⟨w.heap.size + 1 + 1, 0, none⟩) := hf 5 (by kernel_rfl)
              have hbW := bthen (below_drew _) (grow_below hX)
              exact wp_value (exec_load 26 _ rfl (w.heap.size + 1 + 1) e5 26 (bv dst) _ (HD.out.on hbW) Tryd.underlying26 rfl (sizeA4 _ HDL.out)) (hK _ _ rfl (grown_refl W _))
            · intro a vs W hX hR he hf K hK
              rw [if_pos (wanted_none rfl)]
              have e78 : a.eval (.tmp 78) = .agg (bv src).toArray := (he 0 78 (by kernel_rfl) rfl).trans (hR 0 (by kernel_rfl))
              have e79 : a.eval (.tmp 79) = .agg (bv dst).toArray := (he 1 79 (by kernel_rfl) rfl).trans (hR 1 (by kernel_rfl))
              have f78 := e78
              simp only [Act.eval, Array.getD_eq_getD_getElem?] at f78
              have f79 := e79
              simp only [Act.eval, Array.getD_eq_getD_getElem?] at f79
              exact wp_value (exec_build23 _ _ rfl src dst HSL.out HDL.out e78 e79) (hK _ _ rfl (grown_refl W _))
            · intro a vs W hX hR he hf K hK
              rw [if_pos (wanted_none rfl)]
              have e3 : a.eval (.tmp 3) = .pointer (some ⟨w.heap.size, 0, none⟩) := hf 3 (by kernel_rfl)
              refine wp_value (v := .pointer (some ⟨w.heap.size, 0, none⟩)) ?_ (hK _ _ rfl (grown_refl W _))
              simp only [execOp, e3]
              try go_simp
              try (first | rfl | omega | (simp only [IntKind.wrap_i64, IntKind.wrap_u8, IntKind.wrap_u64, IntKind.wrap_u16, IntKind.wrap_u32]; omega) | (rw [Int.tmod_eq_emod_of_nonneg (by omega)]) | (rw [Int.tmod_eq_emod_of_nonneg (by omega)]; omega))
            · intro a vs W hX hR he hf K hK
              rw [if_pos (wanted_none rfl)]
              have e81 : a.eval (.tmp 81) = .pointer (some ⟨w.heap.size, 0, none⟩) := (he 3 81 (by kernel_rfl) rfl).trans (hR 3 (by kernel_rfl))
              have hbW := bthen (below_drew _) (grow_below hX)
              have hc : W.cell? ⟨w.heap.size, 0, none⟩ = some (.int .i64 m.kind) := ((HB.out.on hbW).cell 0).trans (rfl : m.cells[0]? = some (.int .i64 m.kind))
              refine wp_value (v := _) ?_ (hK _ _ rfl (grown_refl W _))
              simp only [execOp, e81]
              try go_simp
            · intro a vs W hX hR he hf K hK
              rw [if_pos (wanted_none rfl)]
              have e82 : a.eval (.tmp 82) = .int .i64 m.kind := (he 4 82 (by kernel_rfl) rfl).trans (hR 4 (by kernel_rfl))
              refine wp_enter (f := 25) (args := #[.int .i64 m.kind]) (by simp only [execOp, e82]; go_simp; simpa [Act.eval] using e82) ((front_any m.kind (by omega) (by omega) W).mono ?_)
              rintro e w' ⟨rfl, hb⟩
              exact ⟨_, rfl, hK _ _ (congrArg (fun z => str z) HFR.out) (below_grow hb _)⟩
            · intro a vs W hX hR he hf K hK
              rw [if_pos (wanted_none rfl)]
              have e12 : a.eval (.tmp 12) = .int .i64 (N : Int) := hf 12 (by kernel_rfl)
              refine wp_value (v := .int .i64 (N : Int)) ?_ (hK _ _ rfl (grown_refl W _))
              simp only [execOp, e12]
              try go_simp
              try (first | rfl | omega | (simp only [IntKind.wrap_i64, IntKind.wrap_u8, IntKind.wrap_u64, IntKind.wrap_u16, IntKind.wrap_u32]; omega) | (rw [Int.tmod_eq_emod_of_nonneg (by omega)]) | (rw [Int.tmod_eq_emod_of_nonneg (by omega)]; omega))
            · intro a vs W hX hR he hf K hK
              rw [if_pos (wanted_none rfl)]
              have e84 : a.eval (.tmp 84) = .int .i64 (N : Int) := (he 6 84 (by kernel_rfl) rfl).trans (hR 6 (by kernel_rfl))
              refine wp_value (v := .int .u64 (N : Int)) ?_ (hK _ _ rfl (grown_refl W _))
              simp only [execOp, e84]
              try go_simp
              try (first | rfl | omega | (simp only [IntKind.wrap_i64, IntKind.wrap_u8, IntKind.wrap_u64, IntKind.wrap_u16, IntKind.wrap_u32]; omega) | (rw [Int.tmod_eq_emod_of_nonneg (by omega)]) | (rw [Int.tmod_eq_emod_of_nonneg (by omega)]; omega))
            · intro a vs W hX hR he hf K hK
              rw [if_pos (wanted_none rfl)]
              have e85 : a.eval (.tmp 85) = .int .u64 (N : Int) := (he 7 85 (by kernel_rfl) rfl).trans (hR 7 (by kernel_rfl))
              refine wp_enter (f := 23) (args := #[.int .u64 (N : Int), .int .i64 2]) (by simp only [execOp, e85]; go_simp; simpa [Act.eval] using e85) ((bytes_any (N : Int) 2 W (by omega) (by omega) (by omega) (by omega)).mono ?_)
              rintro e w' ⟨rfl, hb⟩
              exact ⟨_, rfl, hK _ _ rfl (below_grow hb _)⟩
            · intro a vs W hX hR he hf K hK
              rw [if_pos (wanted_none rfl)]
              have e83 : a.eval (.tmp 83) = str FR := (he 5 83 (by kernel_rfl) rfl).trans (hR 5 (by kernel_rfl))
              have e86 : a.eval (.tmp 86) = str (toBe 2 N) := (he 8 86 (by kernel_rfl) rfl).trans (hR 8 (by kernel_rfl))
              exact wp_value (exec_add _ _ _ _ rfl Tryd.underlying9 (FR) (toBe 2 N) e83 e86 (by simp [toBe_length, frontK_length] <;> omega)) (hK _ _ rfl (grown_refl W _))
            · intro a vs W hX hR he hf K hK
              rw [if_pos (wanted_none rfl)]
              have e11 : a.eval (.tmp 11) = str R := hf 11 (by kernel_rfl)
              refine wp_value (v := str R) ?_ (hK _ _ rfl (grown_refl W _))
              simp only [execOp, e11]
              try go_simp
              try (first | rfl | omega | (simp only [IntKind.wrap_i64, IntKind.wrap_u8, IntKind.wrap_u64, IntKind.wrap_u16, IntKind.wrap_u32]; omega) | (rw [Int.tmod_eq_emod_of_nonneg (by omega)]) | (rw [Int.tmod_eq_emod_of_nonneg (by omega)]; omega))
            · intro a vs W hX hR he hf K hK
              rw [if_pos (wanted_none rfl)]
              have e87 : a.eval (.tmp 87) = str (FR ++ toBe 2 N) := (he 9 87 (by kernel_rfl) rfl).trans (hR 9 (by kernel_rfl))
              have e88 : a.eval (.tmp 88) = str R := (he 10 88 (by kernel_rfl) rfl).trans (hR 10 (by kernel_rfl))
              exact wp_value (exec_add _ _ _ _ rfl Tryd.underlying9 (FR ++ toBe 2 N) (R) e87 e88 (by simp [toBe_length, frontK_length] <;> omega)) (hK _ _ rfl (grown_refl W _))
            · intro a vs W hX hR he hf K hK
              rw [if_pos (wanted_none rfl)]
              have e80 : a.eval (.tmp 80) = .agg (head23 src dst).cells.toArray := (he 2 80 (by kernel_rfl) rfl).trans (hR 2 (by kernel_rfl))
              have e89 : a.eval (.tmp 89) = str (FR ++ toBe 2 N ++ R) := (he 11 89 (by kernel_rfl) rfl).trans (hR 11 (by kernel_rfl))
              refine wp_enter (f := 26) (args := #[.agg (head23 src dst).cells.toArray, str (FR ++ toBe 2 N ++ R)]) (by simp only [execOp, e80, e89]; go_simp; exact ⟨by simpa [Act.eval] using e80, by simpa [Act.eval] using e89⟩) ((rput4_any (head23 src dst) HHF.out (FR ++ toBe 2 N ++ R) W (by simp [toBe_length]; omega)).mono ?_)
              rintro e w' ⟨rfl, hb⟩
              exact ⟨_, rfl, hK _ _ (congrArg (fun z : List UInt8 × Int => Value.tuple #[str z.1, .int .i64 z.2]) HPK.out) (below_grow hb _)⟩
            · intro a vs W hX hR he hf K hK
              rw [if_pos (wanted_none rfl)]
              have e90 : a.eval (.tmp 90) = .tuple #[str PK, .int .i64 PE] := (he 12 90 (by kernel_rfl) rfl).trans (hR 12 (by kernel_rfl))
              refine wp_value (v := str PK) ?_ (hK _ _ rfl (grown_refl W _))
              simp only [execOp, e90]
              try go_simp
              try (first | rfl | omega | (simp only [IntKind.wrap_i64, IntKind.wrap_u8, IntKind.wrap_u64, IntKind.wrap_u16, IntKind.wrap_u32]; omega) | (rw [Int.tmod_eq_emod_of_nonneg (by omega)]) | (rw [Int.tmod_eq_emod_of_nonneg (by omega)]; omega))
            · intro a vs W hX hR he hf K hK
              rw [if_pos (wanted_none rfl)]
              have e90 : a.eval (.tmp 90) = .tuple #[str PK, .int .i64 PE] := (he 12 90 (by kernel_rfl) rfl).trans (hR 12 (by kernel_rfl))
              refine wp_value (v := .int .i64 PE) ?_ (hK _ _ rfl (grown_refl W _))
              simp only [execOp, e90]
              try go_simp
              try (first | rfl | omega | (simp only [IntKind.wrap_i64, IntKind.wrap_u8, IntKind.wrap_u64, IntKind.wrap_u16, IntKind.wrap_u32]; omega) | (rw [Int.tmod_eq_emod_of_nonneg (by omega)]) | (rw [Int.tmod_eq_emod_of_nonneg (by omega)]; omega))
            · intro a vs W hX hR he hf K hK
              rw [if_pos (wanted_none rfl)]
              have e91 : a.eval (.tmp 91) = str PK := (he 13 91 (by kernel_rfl) rfl).trans (hR 13 (by kernel_rfl))
              refine wp_value (v := str PK) ?_ (hK _ _ rfl (grown_refl W _))
              simp only [execOp, e91]
              try go_simp
              try (first | rfl | omega | (simp only [IntKind.wrap_i64, IntKind.wrap_u8, IntKind.wrap_u64, IntKind.wrap_u16, IntKind.wrap_u32]; omega) | (rw [Int.tmod_eq_emod_of_nonneg (by omega)]) | (rw [Int.tmod_eq_emod_of_nonneg (by omega)]; omega))
            · intro a vs W hX hR he hf K hK
              rw [if_pos (wanted_none rfl)]
              have e92 : a.eval (.tmp 92) = .int .i64 PE := (he 14 92 (by kernel_rfl) rfl).trans (hR 14 (by kernel_rfl))
              refine wp_value (v := .int .i64 PE) ?_ (hK _ _ rfl (grown_refl W _))
              simp only [execOp, e92]
              try go_simp
              try (first | rfl | omega | (simp only [IntKind.wrap_i64, IntKind.wrap_u8, IntKind.wrap_u64, IntKind.wrap_u16, IntKind.wrap_u32]; omega) | (rw [Int.tmod_eq_emod_of_nonneg (by omega)]) | (rw [Int.tmod_eq_emod_of_nonneg (by omega)]; omega))
            · intro vs w8 hX8 hR
              have q0 := hR 0 (by decide)
              have q1 := hR 1 (by decide)
              have q2 := hR 2 (by decide)
              have q3 := hR 3 (by decide)
              have q4 := hR 4 (by decide)
              have q5 := hR 5 (by decide)
              have q6 := hR 6 (by decide)
              have q7 := hR 7 (by decide)
              have q8 := hR 8 (by decide)
              have q9 := hR 9 (by decide)
              have q10 := hR 10 (by decide)
              have q11 := hR 11 (by decide)
              have q12 := hR 12 (by decide)
              have q13 := hR 13 (by decide)
              have q14 := hR 14 (by decide)
              have q15 := hR 15 (by decide)
              have q16 := hR 16 (by decide)
              change vs 0 = .agg (bv src).toArray at q0
              change vs 1 = .agg (bv dst).toArray at q1
              change vs 2 = .agg (head23 src dst).cells.toArray at q2
              change vs 3 = .pointer (some ⟨w.heap.size, 0, none⟩) at q3
              change vs 4 = .int .i64 m.kind at q4
              change vs 5 = str FR at q5
              change vs 6 = .int .i64 (N : Int) at q6
              change vs 7 = .int .u64 (N : Int) at q7
              change vs 8 = str (toBe 2 N) at q8
              change vs 9 = str (FR ++ toBe 2 N) at q9
              change vs 10 = str R at q10
              change vs 11 = str (FR ++ toBe 2 N ++ R) at q11
              change vs 12 = .tuple #[str PK, .int .i64 PE] at q12
              change vs 13 = str PK at q13
              change vs 14 = .int .i64 PE at q14
              change vs 15 = str PK at q15
              change vs 16 = .int .i64 PE at q16
              simp only [putAll, Act.put, List.setIfInBounds_toArray, List.set_cons_zero, List.set_cons_succ, q0, q1, q2, q3, q4, q5, q6, q7, q8, q9, q10, q11, q12, q13, q14, q15, q16]
              clear q0 q1 q2 q3 q4 q5 q6 q7 q8 q9 q10 q11 q12 q13 q14 q15 q16
              clear hR
              have hb := bthen (below_drew w6) (grow_below hX8)
              clear hX8
              replace HW := Lib.hid (bthen HW.out hb)
              replace HB := Lib.hid (HB.out.on hb)
              replace HS := Lib.hid (HS.out.on hb)
              replace HD := Lib.hid (HD.out.on hb)
              clear hb
              go_wp2_with fail
              go_ret2
              exact ⟨by rw [HNO.out]; rfl, HW.out⟩
    · have hse' : (SE != 0) = true := by simpa [bne] using hse
      have HNO : Hid (put23 m src dst = ([], SE)) := Lib.hid (by unfold put23; rw [if_neg hbad, hst, if_pos hse])
      clear hm SX hst hse hbad
      rcases h5 with h5 | ⟨h5, h6⟩
      all_goals
        first | (have h5' : (m.kind != 1) = false := by rw [h5]; rfl) | (have h5' : (m.kind != 1) = true := by simpa [bne] using h5)
        clear h5
        go_enter Tryd.func9, Tryd.ntmps9
        go_upto_region 1 with (first
          | (refine wpList_box_blk (by rfl) 34 _ rfl m.cells rfl ?_; intro w1 hk1 hB1 hs1)
          | (refine wpList_box_blk (by rfl) 26 _ rfl (bv src) rfl ?_; intro w2 hk2 hB2 hs2)
          | (refine wpList_box_blk (by rfl) 26 _ rfl (bv dst) rfl ?_; intro w3 hk3 hB3 hs3))
        have hk13 := (hk1.on hB2).on hB3
        have d0 : w3.cell? ⟨w.heap.size, 0, none⟩ = some (.int .i64 m.kind) := hk13.cell 0
        have d1 : w3.cell? ⟨w.heap.size, 1, none⟩ = some (.int .i64 m.mtu) := hk13.cell 1
        have d3 : w3.cell? ⟨w.heap.size, 3, none⟩ = some (.slice m.A m.n m.c) := hk13.cell 3
        go_wp2_with fail
        have HW := Lib.hid (bthen (bthen hB1 hB2) hB3)
        clear d0 d1 d3 hk13
        refine (HSX.out w3 HW.out).mono ?_
        rintro e w4 ⟨rfl, hb⟩
        go_wp2_with fail
        go_ret2
        exact ⟨by rw [HNO.out]; rfl, bthen HW.out hb⟩
end Go.Proofs.YtckbleiikldloaaDoor


/- Texts of this claim put together, in build order: each one's own remark stands ahead of it. -/
import Derived.Test.YtckbleiikldloaaDoorG22
import Derived.Test.YtckbleiikldloaaDoorG20
import Derived.Test.YtckbleiikldloaaDoorG11
import Derived.Deep.DeepCutAuto
import Derived.Test.YtckbleiikldloaaDoorG01
import Derived.OpenShut
import Derived.ShutString
import Derived.ChangeOld
import Derived.Test.YtckbleiikldloaaDoorG03
import Derived.Deep.Slices
import Derived.Deep.Fields
import Derived.ChangeSame
import Derived.Test.YtckbleiikldloaaDoorG14
import Derived.Test.YtckbleiikldloaaDoorG16
import Derived.Test.YtckbleiikldloaaDoorG17
/- What the statements of layer 23 call: plain; same, where both are the same. No condition but sizes. -/
namespace Go.Proofs.YtckbleiikldloaaDoor
open Go.RowKit
set_option linter.unusedVariables false
set_option maxRecDepth 20000
set_option linter.unusedSimpArgs false

set_option maxHeartbeats 1000000 in
theorem plain23_any (m : Mp) (w : World) (hm : m.ok w) : Calls Tryd.prog 10 #[.agg m.cells.toArray] w fun e w' => e = .returned (.agg m.m.cells.toArray) ∧ Below w.heap.size w w' := by
  have HM := Lib.hid hm
  obtain ⟨kd, mt, P, pn, pc, beg, A, n, c, st⟩ := m
  clear hm
  show Calls Tryd.prog 10 #[.agg #[.int .i64 kd, .int .i64 mt, .slice P pn pc, .slice A n c]] w fun e w' => e = .returned (.agg (Mm.cells ⟨kd, mt, beg, A, n, c, st⟩).toArray) ∧ Below w.heap.size w w'
  obtain ⟨g0, hg0⟩ : ∃ g, w.heap.size = g := ⟨_, rfl⟩
  go_enter Tryd.func10, Tryd.ntmps10
  go_upto_region 1 with (first
    | (refine wpList_box_blk (by rfl) 25 (.tmp 0) rfl [.int .i64 kd, .int .i64 mt, .slice P pn pc, .slice A n c] rfl ?_; intro w1 hb1 hB1 hs1)
    | (refine wpList_alloc_blk (by rfl) 34 rfl Mm.zero.cells zeroMm ?_; intro w2 hb2 hB2 hs2))
  obtain ⟨g1, hg1⟩ : ∃ g, w1.heap.size = g := ⟨_, rfl⟩
  rw [hg0] at hb1
  rw [hg1] at hb2
  try rw [hg0]
  try rw [hg1]
  have hk := hb1.on hB2
  have c0 : w2.cell? ⟨g0, 0, none⟩ = some (.int .i64 kd) := hk.cell 0
  have c1 : w2.cell? ⟨g0, 1, none⟩ = some (.int .i64 mt) := hk.cell 1
  have c2 : w2.cell? ⟨g0, 2, none⟩ = some (.slice P pn pc) := hk.cell 2
  have c3 : w2.cell? ⟨g0, 3, none⟩ = some (.slice A n c) := hk.cell 3
  have hB := bthen hB1 hB2
  have HR := Lib.hid (HM.out.brow.below hB)
  have HZ := Lib.hid hb2
  have HB := Lib.hid hB
  have hle : w.heap.size ≤ g1 := by omega
  clear hb1 hB1 hs1 hb2 hB2 hs2 hk hB HM hg0 hg1
  go_wp2_with (first
    | (refine wpList_str (by rfl) (.tmp 8) 22 9 5 rfl Tryd.underlying22 Tryd.underlying5 Tryd.underlying9 _ _ _ _ beg (by rfl) HR.out ?_)
    | (refine wpList_store_all (by rfl) 34 _ _ rfl g1 (Mm.cells ⟨kd, mt, beg, A, n, c, st⟩) rfl rfl 34 _ HZ.out (sizeMm _) rfl (oneMm _) ?_; intro w3 hb3 hg3 hs3))
  have hB3 : Below w.heap.size w w3 := bgrown HB.out hg3 HB.out.size hle
  exact bodyPost_ret (results_cell1 rfl _ _ g1 _ _ _ rfl hb3 Tryd.underlying34 rfl (sizeMm _)) rfl ⟨rfl, hB3⟩
theorem exec_eqS23 {w : World} {o : Oper} {c : Act} (x y : Operand) (ty : TypeId) (ho : o.op = .binOp .eql 9 x y ty) (s : List UInt8) (hx : c.eval x = str s) (hy : c.eval y = str s) : (execOp c.eval o).run Tryd.prog w = .ok (.value (.bool true)) w := by
  unfold execOp
  simp only [ho, hx, hy]
  go_simp
set_option maxHeartbeats 1000000 in
theorem same23_yes (x y : Mm) (w : World) (hx : x.ok w) (hy : y.ok w) (hk : x.kind = y.kind) (hm : x.mtu = y.mtu) (hb : x.beg = y.beg) (hs : x.st = y.st) (hn : x.n ≤ 1000000) :
    Calls Tryd.prog 13 #[.agg x.cells.toArray, .agg y.cells.toArray] w fun e w' => e = .returned (.bool true) ∧ Below w.heap.size w w' := by
  have hnn : x.n = y.n := by rw [← ent_len hx.row, ← ent_len hy.row, hs]
  have HRX := Lib.hid hx.row
  have HRY := Lib.hid hy.row
  obtain ⟨kd, mt, beg, A, n, c, st⟩ := x
  obtain ⟨kd2, mt2, beg2, A2, n2, c2, st2⟩ := y
  dsimp only at hk hm hb hs hnn HRX HRY hn
  subst hk hm hb hs hnn
  have HEX := Lib.hid (fun (W : World) (h1 : Row W W.heap.size 4 A n (evs st)) (h2 : Row W W.heap.size 4 A2 n (evs st)) => exact_same A A2 n c c2 st W _ h1 h2 (by omega))
  clear hx hy
  show Calls Tryd.prog 13 #[.agg #[.int .i64 kd, .int .i64 mt, str beg, .slice A n c], .agg #[.int .i64 kd, .int .i64 mt, str beg, .slice A2 n c2]] w _
  obtain ⟨g0, hg0⟩ : ∃ g, w.heap.size = g := ⟨_, rfl⟩
  go_enter Tryd.func13, Tryd.ntmps13
  go_upto_region 1 with (first
    | (refine wpList_box_blk (by rfl) 34 (.tmp 0) rfl [.int .i64 kd, .int .i64 mt, str beg, .slice A n c] rfl ?_; intro w1 hb1 hB1 hs1; clear hs1)
    | (refine wpList_box_blk (by rfl) 34 (.tmp 1) rfl [.int .i64 kd, .int .i64 mt, str beg, .slice A2 n c2] rfl ?_; intro w2 hb2 hB2 hs2))
  obtain ⟨g1, hg1⟩ : ∃ g, w1.heap.size = g := ⟨_, rfl⟩
  rw [hg0] at hb1
  rw [hg1] at hb2
  try rw [hg0]
  try rw [hg1]
  have hk := hb1.on hB2
  have c0 : w2.cell? ⟨g0, 0, none⟩ = some (.int .i64 kd) := hk.cell 0
  have c1 : w2.cell? ⟨g0, 1, none⟩ = some (.int .i64 mt) := hk.cell 1
  have cc2 : w2.cell? ⟨g0, 2, none⟩ = some (str beg) := hk.cell 2
  have c3 : w2.cell? ⟨g0, 3, none⟩ = some (.slice A n c) := hk.cell 3
  have d0 : w2.cell? ⟨g1, 0, none⟩ = some (.int .i64 kd) := hb2.cell 0
  have d1 : w2.cell? ⟨g1, 1, none⟩ = some (.int .i64 mt) := hb2.cell 1
  have d2 : w2.cell? ⟨g1, 2, none⟩ = some (str beg) := hb2.cell 2
  have d3 : w2.cell? ⟨g1, 3, none⟩ = some (.slice A2 n c2) := hb2.cell 3
  have hB := bthen hB1 hB2
  have HB := Lib.hid hB
  clear hb1 hB1 hb2 hB2 hs2 hk hB hg0 hg1
  go_wp2_with (first
    | (refine wpList_value (by rfl) (exec_eqS23 _ _ _ rfl beg (by rfl) (by rfl)) ?_))

  refine (HEX.out w2 ((HRX.out.below HB.out).more HB.out.size) ((HRY.out.below HB.out).more HB.out.size)).mono ?_
  rintro e w3 ⟨rfl, hb3⟩
  have HB3 := Lib.hid (bthen HB.out hb3)
  clear c0 c1 cc2 c3 d0 d1 d2 d3 hb3
  go_wp2
  go_ret
  exact ⟨rfl, HB3.out⟩
end Go.Proofs.YtckbleiikldloaaDoor

/- Plain laws of ICMPv4's messages: what a put message tells; a turned bit. No condition. -/
namespace Go.Proofs.YtckbleiikldloaaDoor
open Go.RowKit
set_option linter.unusedVariables false
set_option maxRecDepth 20000

theorem set_two (X rest : List UInt8) (a b u v : UInt8) : ((X ++ a :: b :: rest).set X.length u).set (X.length + 1) v = X ++ u :: v :: rest := by
  rw [List.set_append_right _ _ (Nat.le_refl _), List.set_append_right _ _ (by omega)]
  simp
theorem toBe_two (c : Nat) (hc : c ≤ 65535) : toBe 2 c = [UInt8.ofNat (c / 256), UInt8.ofNat (c % 256)] := by
  have e : c / 256 % 256 = c / 256 := Nat.mod_eq_of_lt (by omega)
  simp [toBe, e]
theorem sum23 (X rest : List UInt8) (hX : X.length = 2) : rawN (X ++ (toBe 2 (65535 - rawN (X ++ 0 :: 0 :: rest)) ++ rest)) = 65535 := by
  obtain ⟨c, hc⟩ : ∃ c, c = 65535 - rawN (X ++ 0 :: 0 :: rest) := ⟨_, rfl⟩
  have h0 : ((X ++ 0 :: 0 :: rest).set (2 * 1) 0).set (2 * 1 + 1) 0 = X ++ 0 :: 0 :: rest := by
    have := set_two X rest 0 0 0 0
    rw [hX] at this
    exact this
  have h := sum_right (X ++ 0 :: 0 :: rest) 1 (by simp; omega) c (by rw [h0]; exact hc)
  rw [h0] at h
  have h1 := set_two X rest 0 0 (UInt8.ofNat (c / 256)) (UInt8.ofNat (c % 256))
  rw [hX] at h1
  rw [show (2 * 1 : Nat) = 2 from rfl, h1] at h
  rw [← hc, toBe_two c (by omega)]
  exact h
theorem body23_length (m : Mm) : (body23 m).length = (rest23 m).length + 4 := by
  unfold body23
  simp only [List.length_append, frontK_length, toBe_length]
  omega
theorem raw_body23 (m : Mm) : rawN (body23 m) = 65535 := by
  have h := sum23 (frontK m.kind) (rest23 m) (frontK_length _)
  have e : body23 m = frontK m.kind ++ (toBe 2 (65535 - rawN (frontK m.kind ++ 0 :: 0 :: rest23 m)) ++ rest23 m) := by
    unfold body23
    simp
  rw [e]
  exact h
theorem rest23_ge (m : Mm) : 4 ≤ (rest23 m).length := by
  unfold rest23
  simp only [List.length_append, lb23_length, toBe_length, List.length_cons, List.length_nil]
  omega
theorem head23_nb (s d : List UInt8) : ¬ (head23 s d).bad := by
  unfold H4.bad
  simp [head23]
/-- what put lays reads -/
theorem readF4_pkt (B s d : List UInt8) (hs : s.length = 4) (hd : d.length = 4) (h8 : 8 ≤ B.length) (hB : B.length ≤ 60000) :
    readF4 (pkt4 (head23 s d) B) = if rawN B ≠ 65535 then ([], 14) else (B, 0) := by
  have hP := par4_pkt (head23 s d) (head23_fit s d hs hd) (head23_nb s d) B [] (by simp [head23]; omega)
  have hb := body4_pkt (head23 s d) (head23_fit s d hs hd) (head23_nb s d) B [] (by simp [head23]; omega)
  rw [List.append_nil] at hP hb
  unfold readF4
  rw [hP, hb, if_neg (by simp), if_neg (by simp [head23]), if_neg (by omega)]
theorem rest23_split (m : Mm) : rest23 m = [0] ++ lb23 m.n ++ toBe 2 m.mtu.toNat ++ (begin23 m.beg (decide (0 < m.n)) ++ ext23 m.n (stack22 m.st).1) := by
  unfold rest23
  simp only [List.append_assoc]
theorem body23_parts (m : Mm) (h0 : 0 ≤ m.kind) (h2 : m.kind ≤ 2) (hm0 : 0 ≤ m.mtu) (hm1 : m.mtu ≤ 65535) :
    kind4F ((body23 m).getD 0 0).toNat ((body23 m).getD 1 0).toNat = m.kind ∧ ((body23 m).getD 4 0).toNat = 0 ∧ ((body23 m).getD 5 0).toNat = (if m.n = 0 then 0 else 32) ∧ numF (body23 m) 6 2 = m.mtu.toNat ∧ (body23 m).drop 8 = begin23 m.beg (decide (0 < m.n)) ++ ext23 m.n (stack22 m.st).1 := by
  have hk : m.kind = 0 ∨ m.kind = 1 ∨ m.kind = 2 := by omega
  obtain ⟨c, hc⟩ : ∃ c, 65535 - rawN (frontK m.kind ++ [0, 0] ++ rest23 m) = c := ⟨_, rfl⟩
  have hb : body23 m = frontK m.kind ++ toBe 2 c ++ rest23 m := by unfold body23; rw [hc]
  obtain ⟨x, y, hxy⟩ : ∃ x y, toBe 2 c = [x, y] := by
    have hl := toBe_length 2 c
    match h : toBe 2 c, hl with
    | [x, y], _ => exact ⟨x, y, rfl⟩
  obtain ⟨p, q, hpq⟩ : ∃ p q, toBe 2 m.mtu.toNat = [p, q] := by
    have hl := toBe_length 2 m.mtu.toNat
    match h : toBe 2 m.mtu.toNat, hl with
    | [x, y], _ => exact ⟨x, y, rfl⟩
  obtain ⟨f, g, hfg⟩ : ∃ f g, frontK m.kind = [f, g] := by
    have hl := frontK_length m.kind
    match h : frontK m.kind, hl with
    | [x, y], _ => exact ⟨x, y, rfl⟩
  obtain ⟨lb, hlb⟩ : ∃ lb, lb23 m.n = [lb] := by
    have hl := lb23_length m.n
    match h : lb23 m.n, hl with
    | [x], _ => exact ⟨x, rfl⟩
  obtain ⟨Z, hZ⟩ : ∃ Z, begin23 m.beg (decide (0 < m.n)) ++ ext23 m.n (stack22 m.st).1 = Z := ⟨_, rfl⟩
  have hB : body23 m = f :: g :: x :: y :: 0 :: lb :: p :: q :: Z := by
    rw [hb, rest23_split, hZ, hfg, hxy, hlb, hpq]
    rfl
  rw [hB, hZ]
  have h4 : lb.toNat = if m.n = 0 then 0 else 32 := by
    unfold lb23 at hlb
    split at hlb
    · rename_i h
      injection hlb with h1
      rw [← h1, if_pos h]
      rfl
    · rename_i h
      injection hlb with h1
      rw [← h1, if_neg h]
      rfl
  refine ⟨?_, rfl, h4, ?_, rfl⟩
  · show kind4F f.toNat g.toNat = m.kind
    rcases hk with h | h | h <;> rw [h] at hfg ⊢ <;> injection hfg with e1 e2 <;> injection e2 with e2 _ <;> subst e1 e2 <;> rfl
  · show be [p, q] = _
    rw [← hpq, be_toBe]
    exact Nat.mod_eq_of_lt (by omega)
theorem begin23_full (s : List UInt8) : (begin23 s true).length = 128 := by
  unfold begin23
  split
  · rw [List.length_take]; omega
  · rw [if_pos rfl]
    simp [zerosN]
    omega
theorem stack22_yes {l : List Ent} (h : (stack22 l).2 = 0) : l.length ≤ 16 ∧ (∀ x ∈ l, x.good) ∧ (stack22 l).1 = hd22 (obsB [⟨1, 1, l.flatMap packL⟩]) := by
  unfold stack22 at h ⊢
  split at h
  · cases h
  · rename_i h16
    rw [if_neg h16]
    split at h
    · rename_i hg
      rw [if_pos hg]
      refine ⟨by omega, fun x hx => by have := List.all_eq_true.1 hg x hx; simpa using this, ?_⟩
      simp [obsB]
    · cases h
theorem told_stack (l : List Ent) (hf : ∀ x ∈ l, x.fit) (h : (stack22 l).2 = 0) : toldG (stack22 l).1 = (l, 0) := by
  obtain ⟨h16, hg, e⟩ := stack22_yes h
  rw [e]
  have hpl := packs_len l hg
  refine told_of _ ?_ l hf hg h16 rfl
  intro x hx
  simp only [List.mem_cons, List.not_mem_nil, or_false] at hx
  subst hx
  refine ⟨?_, ⟨by show (0 : Int) ≤ 1; decide, by show (1 : Int) ≤ 255; decide⟩, ⟨by show (0 : Int) ≤ 1; decide, by show (1 : Int) ≤ 255; decide⟩⟩
  unfold Ob.good
  simp only [Bool.and_eq_true, decide_eq_true_eq]
  rw [hpl]
  omega
theorem gotF4_put (m : Mm) (hb : ¬ m.bad) (hs : (stack22 m.st).2 = 0) (hl : m.st.length = m.n) (hf : ∀ x ∈ m.st, x.fit) :
    gotF4 (body23 m) m.kind (numF (body23 m) 6 2) = ((m.kind, m.mtu, begin23 m.beg (decide (0 < m.n)), m.st), 0) := by
  obtain ⟨hk0, hk2, hm0, hm6, hmz⟩ := bad_or hb
  obtain ⟨_, p4, p5, p6, p8⟩ := body23_parts m hk0 hk2 hm0 hm6
  have hbk : badK4 m.kind m.mtu.toNat = false := by
    unfold badK4
    rw [decide_eq_false (by omega), Bool.false_or]
    by_cases h1 : m.kind = 1
    · rw [decide_eq_false (fun h => h h1)]; rfl
    · rw [decide_eq_false (p := m.mtu.toNat ≠ 0) (by have := hmz h1; omega), Bool.and_false]
  have hmt : ((m.mtu.toNat : Nat) : Int) = m.mtu := by omega
  have hlen : (body23 m).length = 8 + ((begin23 m.beg (decide (0 < m.n))).length + (ext23 m.n (stack22 m.st).1).length) := by
    have h1 := congrArg List.length p8
    rw [List.length_drop, List.length_append] at h1
    have h2 := body23_length m
    have h3 := rest23_ge m
    omega
  unfold gotF4
  rw [p4, p5, p6, hbk, if_neg (by simp), hmt]
  by_cases hn : m.n = 0
  · have h0 : m.st = [] := List.eq_nil_of_length_eq_zero (by omega)
    have hb1 := begin23_le m.beg (decide (0 < m.n))
    have h1 : (ext23 m.n (stack22 m.st).1) = [] := by unfold ext23; rw [if_pos hn]
    rw [h1, List.length_nil] at hlen
    rw [h1, List.append_nil] at p8
    rw [if_pos hn, if_pos rfl, if_neg (by omega), p8, h0]
  · have h1 : (ext23 m.n (stack22 m.st).1) = (stack22 m.st).1 := by unfold ext23; rw [if_neg hn]
    have hd : decide (0 < m.n) = true := decide_eq_true (by omega)
    have hbl := begin23_full m.beg
    rw [h1, hd] at p8
    rw [hd, hbl] at hlen
    have h136 : (body23 m).drop 136 = (stack22 m.st).1 := by
      have e : (body23 m).drop 136 = ((body23 m).drop 8).drop 128 := by rw [List.drop_drop]
      rw [e, p8]
      exact List.drop_left' hbl
    rw [if_neg hn, if_neg (by decide), if_pos rfl, if_neg (by omega), h136, told_stack m.st hf hs, if_neg (by simp), p8, List.take_left' hbl, hd]
theorem put23_yes (m : Mm) (s d : List UInt8) (he : (put23 m s d).2 = 0) :
    ¬ m.bad ∧ (stack22 m.st).2 = 0 ∧ put23 m s d = (pkt4 (head23 s d) (body23 m), 0) := by
  have hle := body23_le m
  have hp := put4_yes (head23 s d) (head23_nb s d) (body23 m) (by simp [head23]; omega)
  unfold put23 at he ⊢
  split at he
  · cases he
  · rename_i hb
    rw [if_neg hb]
    split at he
    · rename_i h1
      exact absurd he h1
    · rename_i h1
      rw [if_neg h1]
      exact ⟨hb, by omega, hp⟩
theorem put23_no (m : Mm) (s d : List UInt8) (he : (put23 m s d).2 ≠ 0) : (put23 m s d).1 = [] := by
  have hle := body23_le m
  have hp := put4_yes (head23 s d) (head23_nb s d) (body23 m) (by simp [head23]; omega)
  unfold put23 at he ⊢
  split
  · rfl
  · rename_i hb
    rw [if_neg hb] at he
    split
    · rfl
    · rename_i h1
      rw [if_neg h1, hp] at he
      exact absurd rfl he
theorem put23_len (m : Mm) (s d : List UInt8) (hs : s.length = 4) (hd : d.length = 4) (he : (put23 m s d).2 = 0) : 28 ≤ (put23 m s d).1.length ∧ (put23 m s d).1.length ≤ 300 := by
  obtain ⟨_, _, h3⟩ := put23_yes m s d he
  have hle := body23_le m
  have hge := rest23_ge m
  have hlen := body23_length m
  rw [h3]
  show 28 ≤ (pkt4 _ _).length ∧ (pkt4 _ _).length ≤ _
  rw [pkt4_length _ ⟨hs, hd⟩]
  simp [head23]
  omega
/-- what is put is got -/
theorem getF4_back (m : Mm) (s d : List UInt8) (hs : s.length = 4) (hd : d.length = 4) (he : (put23 m s d).2 = 0) (hl : m.st.length = m.n) (hf : ∀ x ∈ m.st, x.fit) :
    getF4 (put23 m s d).1 = ((m.kind, m.mtu, begin23 m.beg (decide (0 < m.n)), m.st), 0) := by
  obtain ⟨hb, h2, h3⟩ := put23_yes m s d he
  obtain ⟨hk0, hk2, hm0, hm6, hmz⟩ := bad_or hb
  have hle := body23_le m
  have hge := rest23_ge m
  have hlen := body23_length m
  have hr := readF4_pkt (body23 m) s d hs hd (by omega) (by omega)
  rw [raw_body23, if_neg (by simp)] at hr
  obtain ⟨p0, _⟩ := body23_parts m hk0 hk2 hm0 hm6
  rw [h3]
  show getF4 (pkt4 _ _) = _
  unfold getF4
  rw [hr, if_neg (by simp), p0, gotF4_put m hb h2 hl hf]
theorem isF4_put (m : Mm) (s d : List UInt8) (hs : s.length = 4) (hd : d.length = 4) (he : (put23 m s d).2 = 0) : isF4 (put23 m s d).1 = true := by
  obtain ⟨hb, _, h3⟩ := put23_yes m s d he
  obtain ⟨hk0, hk2, _⟩ := bad_or hb
  have hle := body23_le m
  have hP := par4_pkt (head23 s d) (head23_fit s d hs hd) (head23_nb s d) (body23 m) [] (by simp [head23]; omega)
  have hB := body4_pkt (head23 s d) (head23_fit s d hs hd) (head23_nb s d) (body23 m) [] (by simp [head23]; omega)
  rw [List.append_nil] at hP hB
  rw [h3]
  show isF4 (pkt4 _ _) = true
  unfold isF4
  rw [hP, hB]
  have hk : m.kind = 0 ∨ m.kind = 1 ∨ m.kind = 2 := by omega
  unfold body23
  rcases hk with h | h | h <;> rw [h] <;> rfl
theorem getF4_turned (m : Mm) (s d : List UInt8) (hs : s.length = 4) (hd : d.length = 4) (he : (put23 m s d).2 = 0) (j : Nat) (hj : 20 ≤ j) (u : UInt8) (hu : (put23 m s d).1[j]? = some u) (b : Nat) (hb : b < 8) :
    (getF4 ((put23 m s d).1.set j (UInt8.ofNat (u.toNat ^^^ 2 ^ b)))).2 = 14 := by
  obtain ⟨_, _, h3⟩ := put23_yes m s d he
  have hle := body23_le m
  have hge := rest23_ge m
  have hlen := body23_length m
  rw [h3] at hu ⊢
  have hu : (pkt4 (head23 s d) (body23 m))[j]? = some u := hu
  show (getF4 ((pkt4 (head23 s d) (body23 m)).set j _)).2 = 14
  have hH : (head4 (head23 s d) (20 + (head23 s d).opt.length + (body23 m).length)).length = 20 := by
    rw [head4_length _ ⟨hs, hd⟩]
    simp [head23]
  unfold pkt4 at hu ⊢
  rw [List.getElem?_append_right (by omega), hH] at hu
  rw [List.set_append_right _ _ (by omega), hH]
  have ht := raw_turnedX (body23 m) (j - 20) u b hb hu (raw_body23 m)
  obtain ⟨B, hB⟩ : ∃ B, (body23 m).set (j - 20) (UInt8.ofNat (u.toNat ^^^ 2 ^ b)) = B := ⟨_, rfl⟩
  rw [hB] at ht ⊢
  have hBl : B.length = (body23 m).length := by rw [← hB, List.length_set]
  rw [← hBl]
  have hr := readF4_pkt B s d hs hd (by omega) (by omega)
  rw [if_pos ht] at hr
  show (getF4 (pkt4 (head23 s d) B)).2 = 14
  unfold getF4
  rw [hr, if_pos (by simp)]
end Go.Proofs.YtckbleiikldloaaDoor

/- awake of layer 23 (icmp4): the document's example. No condition but what the package's table holds. -/
namespace Go.Proofs.YtckbleiikldloaaDoor
open Go.RowKit
set_option linter.unusedVariables false
set_option maxRecDepth 20000
set_option linter.unusedSimpArgs false

def e24 : Ent := ⟨16, 0, true, 1⟩
def s24 (k : UInt8) : List UInt8 := if k = 0 then [0, 0, 0, 0] else [10, 0, 0, k]
def abc24 : List UInt8 := [97, 98, 99]
def mA24 (A : Option Addr) (c : Nat) : Mm := ⟨0, 0, abc24, A, 1, c, [e24]⟩
def mB24 : Mm := ⟨1, 1400, abc24, none, 0, 0, []⟩
def mC24 : Mm := ⟨2, 1, [], none, 0, 0, []⟩
def zA24 : List UInt8 := (put23 (mA24 none 0) (s24 1) (s24 2)).1
def zB24 : List UInt8 := (put23 mB24 (s24 0) (s24 0)).1
theorem fit24 : ∀ x ∈ [e24], x.fit := by
  intro x hx
  obtain rfl := List.mem_singleton.1 hx
  exact ⟨by decide, by decide, by decide, by decide, by decide, by decide⟩
theorem putA24 (A : Option Addr) (c : Nat) : put23 (mA24 A c) (s24 1) (s24 2) = (zA24, 0) := by
  have h : (put23 (mA24 none 0) (s24 1) (s24 2)).2 = 0 := by kernel_rfl
  have e : put23 (mA24 A c) (s24 1) (s24 2) = put23 (mA24 none 0) (s24 1) (s24 2) := rfl
  rw [e]
  unfold zA24
  rw [← h]
theorem putB24 : put23 mB24 (s24 0) (s24 0) = (zB24, 0) := by
  have h : (put23 mB24 (s24 0) (s24 0)).2 = 0 := by kernel_rfl
  unfold zB24
  rw [← h]
theorem putC24 : put23 mC24 (s24 0) (s24 0) = ([], 1) := by kernel_rfl
theorem zA24_len : zA24.length = 168 := by kernel_rfl
theorem zA24_40 : zA24[20]? = some 11 := by kernel_rfl
theorem zA24_44 : zA24[25]? = some 32 := by kernel_rfl
theorem zB24_len : zB24.length = 31 := by kernel_rfl
theorem isB24 : isF4 zB24 = true := by kernel_rfl
theorem getA24 : getF4 zA24 = ((0, 0, begin23 abc24 true, [e24]), 0) := getF4_back (mA24 none 0) (s24 1) (s24 2) rfl rfl (by rw [putA24]) rfl fit24
theorem getB24 : getF4 zB24 = ((1, 1400, abc24, []), 0) := getF4_back mB24 (s24 0) (s24 0) rfl rfl (by rw [putB24]) rfl (by simp [mB24])

theorem arr24_0 : (bv (s24 0)).toArray = #[.int .u8 0, .int .u8 0, .int .u8 0, .int .u8 0] := by kernel_rfl
theorem arr24_1 : (bv (s24 1)).toArray = #[.int .u8 10, .int .u8 0, .int .u8 0, .int .u8 1] := by kernel_rfl
theorem arr24_2 : (bv (s24 2)).toArray = #[.int .u8 10, .int .u8 0, .int .u8 0, .int .u8 2] := by kernel_rfl

set_option maxRecDepth 100000 in
set_option maxHeartbeats 1000000 in
theorem awake23 (w : World) (hT : Typ23 w) : Calls Tryd.prog 7 #[] w fun e w' => e = .returned (.bool true) ∧ Below w.heap.size w w' := by
  have kc := fun (w : World) (C : Array Value) (n c g : Nat) (hg : w.heap.size = g) => run_const (P := Tryd.prog) w 22 5 C n c Tryd.underlying22 Tryd.underlying5 g hg
  have HT := Lib.hid hT
  clear hT
  go_enter Tryd.func7, Tryd.ntmps7
  go_wp2_with fail
  have hB0 := bthen (alloc_below w (.cells #[.int .i64 16, .int .u8 0, .bool true, .int .u8 1] 49)) (alloc_below _ (.cells #[.int .u8 97, .int .u8 98, .int .u8 99] 5 (3, 4)))
  have hE0 := row_newE w e24
  have hE1 : Row ((w.alloc (.cells #[.int .i64 16, .int .u8 0, .bool true, .int .u8 1] 49)).alloc (.cells #[.int .u8 97, .int .u8 98, .int .u8 99] 5 (3, 4))) (w.heap.size + 1) 4 (some ⟨w.heap.size, 0, none⟩) 1 (evs [e24]) := hE0.below_le (alloc_below _ _) (by simp)
  have hA1 := row_litF (e := 5) (w.alloc (.cells #[.int .i64 16, .int .u8 0, .bool true, .int .u8 1] 49)) #[.int .u8 97, .int .u8 98, .int .u8 99] (3, 4) abc24 3 rfl rfl
  rw [World.size_alloc] at hA1
  obtain ⟨W0, hW0⟩ : ∃ W0, ((w.alloc (.cells #[.int .i64 16, .int .u8 0, .bool true, .int .u8 1] 49)).alloc (.cells #[.int .u8 97, .int .u8 98, .int .u8 99] 5 (3, 4))) = W0 := ⟨_, rfl⟩
  have hsz : W0.heap.size = w.heap.size + 1 + 1 := by rw [← hW0]; simp
  rw [hW0] at hB0 hE1 hA1 ⊢
  have HW := Lib.hid hB0
  have HE := Lib.hid (hE1.more (B' := W0.heap.size) (by omega))
  have HA := Lib.hid (hA1.more (B' := W0.heap.size) (by omega))
  clear hB0 hE0 hE1 hA1 hW0 hsz
  have PP := put23p_any ⟨0, 0, some ⟨w.heap.size + 1, 0, none⟩, 3, 3, abc24, some ⟨w.heap.size, 0, none⟩, 1, 1, [e24]⟩ W0 ⟨by dsimp only; omega, by dsimp only; omega, HA.out, Nat.le_refl _, by show (3 : Nat) ≤ maxLen; decide, HE.out, Nat.le_refl _, by show (1 : Nat) ≤ maxLen; decide, fit24⟩ (HT.out.on HW.out) (by show 3 ≤ 1000000; omega) (s24 1) (s24 2) rfl rfl
  rw [arr24_1, arr24_2] at PP
  simp only [Mp.cells] at PP
  refine PP.mono ?_
  clear PP
  rintro e w1 ⟨A1, n1, c1, rfl, ho1, hb1⟩
  rw [show put23 (Mp.m ⟨0, 0, some ⟨w.heap.size + 1, 0, none⟩, 3, 3, abc24, some ⟨w.heap.size, 0, none⟩, 1, 1, [e24]⟩) (s24 1) (s24 2) = (zA24, 0) from putA24 _ _] at ho1 ⊢
  dsimp only at ho1 ⊢
  have hn1 : n1 = 168 := by have := ho1.len; rw [bv_length, zA24_len] at this; omega
  subst hn1
  replace HW := Lib.hid (bthen HW.out hb1)
  replace HE := Lib.hid ((HE.out.below hb1).more hb1.size)
  have H1 := Lib.hid ho1
  clear ho1 hb1 HA
  go_wp2_with fail
  refine (get23_any A1 168 c1 zA24 w1 H1.out.row H1.out.le H1.out.cap (by omega) (HT.out.on HW.out)).mono ?_
  rintro e w2 ⟨m2, rfl, hok2, hgot2, hb2⟩
  rw [getA24] at hgot2 ⊢
  dsimp only at hgot2 ⊢
  obtain ⟨k2, t2, P2, pn2, pc2, bg2, A2, n2, c2, st2⟩ := m2
  have hq := hgot2
  unfold Mp.got at hq
  simp only [Prod.mk.injEq] at hq
  obtain ⟨rfl, rfl, rfl, rfl⟩ := hq
  have hp2 : pn2 = 128 := by have := hok2.blen; dsimp only at this; rw [begin23_full] at this; omega
  have hn2 : n2 = 1 := by have := hok2.slen; dsimp only at this; simp at this; omega
  subst hp2 hn2
  replace HW := Lib.hid (bthen HW.out hb2)
  replace HE := Lib.hid ((HE.out.below hb2).more hb2.size)
  replace H1 := Lib.hid (H1.out.below hb2)
  have H2 := Lib.hid hok2
  clear hok2 hgot2 hb2
  go_upto_region 4 with (first
    | (refine wpList_alloc_blk (by rfl) 25 rfl Mp.zero.cells zeroMp ?_; intro w3 hb3 hB3 hs3)
    | (refine wpList_store_all (by rfl) 25 _ _ rfl w2.heap.size (Mp.cells ⟨0, 0, P2, 128, pc2, begin23 abc24 true, A2, 1, c2, [e24]⟩) rfl rfl 25 _ hb3 (sizeMp _) rfl (oneMp _) ?_; intro w4 hb4 hg4 hs4))
  obtain ⟨g4, hg4'⟩ : ∃ g, w2.heap.size = g := ⟨_, rfl⟩
  have hB4 : Below w2.heap.size w2 w4 := bgrown hB3 hg4 (by omega) (Nat.le_refl _)
  rw [hg4'] at hb4
  try rw [hg4']
  replace HW := Lib.hid (bthen HW.out hB4)
  replace HE := Lib.hid ((HE.out.below hB4).more hB4.size)
  replace H1 := Lib.hid (H1.out.below hB4)
  replace H2 := Lib.hid (H2.out.on hB4)
  have HK := Lib.hid hb4
  clear hb3 hB3 hs3 hb4 hg4 hs4 hB4 hg4'
  go_wp2_with fail
  have hB5 := alloc_below w4 (.cells #[.int .u8 97, .int .u8 98, .int .u8 99] 5 (3, 4))
  have hA5 := row_litF (e := 5) w4 #[.int .u8 97, .int .u8 98, .int .u8 99] (3, 4) abc24 3 rfl rfl
  obtain ⟨W5, hW5⟩ : ∃ W5, (w4.alloc (.cells #[.int .u8 97, .int .u8 98, .int .u8 99] 5 (3, 4))) = W5 := ⟨_, rfl⟩
  have hsz : W5.heap.size = w4.heap.size + 1 := by rw [← hW5]; simp
  rw [hW5] at hB5 hA5 ⊢
  replace HW := Lib.hid (bthen HW.out hB5)
  replace HE := Lib.hid ((HE.out.below hB5).more hB5.size)
  replace H1 := Lib.hid (H1.out.below hB5)
  replace H2 := Lib.hid (H2.out.on hB5)
  replace HK := Lib.hid (HK.out.on hB5)
  have HA := Lib.hid (hA5.more (B' := W5.heap.size) (by omega))
  clear hB5 hA5 hW5 hsz
  have PP := put23p_any ⟨1, 1400, some ⟨w4.heap.size, 0, none⟩, 3, 3, abc24, none, 0, 0, []⟩ W5 ⟨by dsimp only; omega, by dsimp only; omega, HA.out, Nat.le_refl _, by show (3 : Nat) ≤ maxLen; decide, Row.nil _ _ _ _, Nat.le_refl _, Nat.zero_le _, by simp⟩ (HT.out.on HW.out) (by show 3 ≤ 1000000; omega) (s24 0) (s24 0) rfl rfl
  rw [arr24_0] at PP
  simp only [Mp.cells] at PP
  refine PP.mono ?_
  clear PP
  rintro e w6 ⟨A6, n6, c6, rfl, ho6, hb6⟩
  rw [show put23 (Mp.m ⟨1, 1400, some ⟨w4.heap.size, 0, none⟩, 3, 3, abc24, none, 0, 0, []⟩) (s24 0) (s24 0) = (zB24, 0) from putB24] at ho6 ⊢
  dsimp only at ho6 ⊢
  have hn6 : n6 = 31 := by have := ho6.len; rw [bv_length, zB24_len] at this; omega
  subst hn6
  replace HW := Lib.hid (bthen HW.out hb6)
  replace HE := Lib.hid ((HE.out.below hb6).more hb6.size)
  replace H1 := Lib.hid (H1.out.below hb6)
  replace H2 := Lib.hid (H2.out.on hb6)
  replace HK := Lib.hid (HK.out.on hb6)
  have H6 := Lib.hid ho6
  clear ho6 hb6 HA
  go_wp2_with fail
  refine (get23_any A6 31 c6 zB24 w6 H6.out.row H6.out.le H6.out.cap (by omega) (HT.out.on HW.out)).mono ?_
  rintro e w7 ⟨m7, rfl, hok7, hgot7, hb7⟩
  rw [getB24] at hgot7 ⊢
  dsimp only at hgot7 ⊢
  obtain ⟨k7, t7, P7, pn7, pc7, bg7, A7, n7, c7, st7⟩ := m7
  have hq := hgot7
  unfold Mp.got at hq
  simp only [Prod.mk.injEq] at hq
  obtain ⟨rfl, rfl, rfl, rfl⟩ := hq
  have hp7 : pn7 = 3 := by have := hok7.blen; dsimp only at this; simp [abc24] at this; omega
  subst hp7
  replace HW := Lib.hid (bthen HW.out hb7)
  replace HE := Lib.hid ((HE.out.below hb7).more hb7.size)
  replace H1 := Lib.hid (H1.out.below hb7)
  replace H2 := Lib.hid (H2.out.on hb7)
  replace HK := Lib.hid (HK.out.on hb7)
  replace H6 := Lib.hid (H6.out.below hb7)
  have H7 := Lib.hid hok7
  clear hok7 hgot7 hb7
  go_upto_region 6 with (first
    | (refine wpList_alloc_blk (by rfl) 25 rfl Mp.zero.cells zeroMp ?_; intro w8 hb8 hB8 hs8)
    | (refine wpList_store_all (by rfl) 25 _ _ rfl w7.heap.size (Mp.cells ⟨1, 1400, P7, 3, pc7, abc24, A7, n7, c7, []⟩) rfl rfl 25 _ hb8 (sizeMp _) rfl (oneMp _) ?_; intro w9 hb9 hg9 hs9))
  obtain ⟨g9, hg9'⟩ : ∃ g, w7.heap.size = g := ⟨_, rfl⟩
  have hB9 : Below w7.heap.size w7 w9 := bgrown hB8 hg9 (by omega) (Nat.le_refl _)
  rw [hg9'] at hb9
  try rw [hg9']
  replace HW := Lib.hid (bthen HW.out hB9)
  replace HE := Lib.hid ((HE.out.below hB9).more hB9.size)
  replace H1 := Lib.hid (H1.out.below hB9)
  replace H2 := Lib.hid (H2.out.on hB9)
  replace HK := Lib.hid (HK.out.on hB9)
  replace H6 := Lib.hid (H6.out.below hB9)
  replace H7 := Lib.hid (H7.out.on hB9)
  have HL := Lib.hid hb9
  clear hb8 hB8 hs8 hb9 hg9 hs9 hB9 hg9'
  go_wp2_with fail
  have PP := put23p_any ⟨2, 1, none, 0, 0, [], none, 0, 0, []⟩ w9 ⟨by dsimp only; omega, by dsimp only; omega, Row.nil _ _ _ _, Nat.le_refl _, Nat.zero_le _, Row.nil _ _ _ _, Nat.le_refl _, Nat.zero_le _, by simp⟩ (HT.out.on HW.out) (by show 0 ≤ 1000000; omega) (s24 0) (s24 0) rfl rfl
  rw [arr24_0] at PP
  simp only [Mp.cells] at PP
  refine PP.mono ?_
  clear PP
  rintro e w10 ⟨A10, n10, c10, rfl, ho10, hb10⟩
  rw [show put23 (Mp.m ⟨2, 1, none, 0, 0, [], none, 0, 0, []⟩) (s24 0) (s24 0) = ([], 1) from putC24] at ho10 ⊢
  dsimp only at ho10 ⊢
  replace HW := Lib.hid (bthen HW.out hb10)
  replace HE := Lib.hid ((HE.out.below hb10).more hb10.size)
  replace H1 := Lib.hid (H1.out.below hb10)
  replace H2 := Lib.hid (H2.out.on hb10)
  have hK10 := HK.out.on hb10
  replace H6 := Lib.hid (H6.out.below hb10)
  replace H7 := Lib.hid (H7.out.on hb10)
  have hL10 := HL.out.on hb10
  obtain ⟨b1, hA1, _, _, hc1, _⟩ := H1.out.open_ (by omega)
  subst hA1
  have h40 : w10.cell? ⟨b1, 20, none⟩ = some (.int .u8 11) := hc1 20 _ (bv_get _ _ _ zA24_40)
  have h44 : w10.cell? ⟨b1, 25, none⟩ = some (.int .u8 32) := hc1 25 _ (bv_get _ _ _ zA24_44)
  have k0 : w10.cell? ⟨g4, 0, none⟩ = some (.int .i64 0) := hK10.cell 0
  have k2 : w10.cell? ⟨g4, 2, none⟩ = some (.slice P2 128 pc2) := hK10.cell 2
  have k3 : w10.cell? ⟨g4, 3, none⟩ = some (.slice A2 1 c2) := hK10.cell 3
  have l1 : w10.cell? ⟨g9, 1, none⟩ = some (.int .i64 1400) := hL10.cell 1
  have l2 : w10.cell? ⟨g9, 2, none⟩ = some (.slice P7 3 pc7) := hL10.cell 2
  have HKK := Lib.hid hK10
  have HLL := Lib.hid hL10
  clear ho10 hb10 hc1 hK10 hL10 HK HL
  go_wp2_with fail
  refine (exact_same A2 (some ⟨w.heap.size, 0, none⟩) 1 c2 1 [e24] w10 _ H2.out.row HE.out (by omega)).mono ?_
  rintro e w11 ⟨rfl, hb11⟩
  replace HW := Lib.hid (bthen HW.out hb11)
  replace H6 := Lib.hid (H6.out.below hb11)
  replace H7 := Lib.hid (H7.out.on hb11)
  have hL11 := HLL.out.on hb11
  clear l1 l2 h40 h44 k0 k2 k3
  have l1 : w11.cell? ⟨g9, 1, none⟩ = some (.int .i64 1400) := hL11.cell 1
  have l2 : w11.cell? ⟨g9, 2, none⟩ = some (.slice P7 3 pc7) := hL11.cell 2
  clear hb11 hL11 HLL HKK
  go_wp2_with (first
    | (refine wpList_str (by rfl) (.tmp 105) 22 9 5 rfl Tryd.underlying22 Tryd.underlying5 Tryd.underlying9 _ _ _ _ abc24 (by rfl) H7.out.brow ?_)
    | (refine wpList_value (by rfl) (exec_eqS23 _ _ _ rfl abc24 (by rfl) (by rfl)) ?_))
  refine (is23_any A6 31 c6 zB24 w11 H6.out.row H6.out.le H6.out.cap (by omega)).mono ?_
  rintro e w12 ⟨rfl, hb12⟩
  rw [isB24]
  replace HW := Lib.hid (bthen HW.out hb12)
  clear l1 l2 hb12
  go_wp2_with fail
  go_ret
  exact ⟨rfl, HW.out⟩
end Go.Proofs.YtckbleiikldloaaDoor

/- How a law's arguments are opened: slices of bytes and of numbers, structs and arrays by value. No condition. -/
namespace Go.Proofs.YtckbleiikldloaaDoor
open Go.ChangeShapes Go.WideShapes Go.ChangeAt Go.RowKit
set_option linter.unusedVariables false
set_option maxRecDepth 20000

section
variable {H : Type} {enc : TypeId × Value → H} {P : Program} {w : World} {base : Nat} {spare : Nat → Bool} {held : Bool}

/-- numbers of a kind as cells -/
def nv (k : IntKind) (l : List Int) : List Value := l.map (Value.int k)
theorem nv_length (k : IntKind) (l : List Int) : (nv k l).length = l.length := by simp [nv]
theorem nv_get (k : IntKind) (l : List Int) (i : Nat) (x : Int) (h : l[i]? = some x) : (nv k l)[i]? = some (.int k x) := by simp [nv, h]

/-- a slice of numbers that came in: it is read as numbers, each of its kind -/
theorem open_nums {t e : TypeId} {k : IntKind} {r : Reach} {b0 : Nat} {v : Value} {d : DataW H} {ps : List MemPlace} (ht : P.underlying t = some (.slice e)) (he : P.underlying e = some (.int k)) (hc : P.cellsOf e = 1)
    (hv : Value.okWide P w r b0 t v) (h : DataW.Trod enc P w base spare held t v d ps) :
    ∃ A n c l, v = .slice A n c ∧ Row w w.heap.size 1 A n (nv k l) ∧ n ≤ c ∧ c ≤ maxLen ∧ ∀ x ∈ l, (Lit.int k x).wf = true := by
  obtain ⟨a0, len0, cap0, rfl⟩ := okWide_slice ht hv
  obtain ⟨fuel, hf⟩ := h
  rcases open_ints ht he hc hf with ⟨hcs, _⟩ | ⟨x, l, c, zs, hcs, _, hl, hm, hz, _, hcell, hwz⟩
  · simp [Value.cells] at hcs
    obtain ⟨rfl, rfl, rfl⟩ := hcs
    exact ⟨none, 0, 0, [], rfl, Row.nil _ _ _ _, Nat.le_refl _, Nat.zero_le _, by simp⟩
  · simp [Value.cells] at hcs
    obtain ⟨rfl, rfl, rfl⟩ := hcs
    have hlz : len0 ≤ zs.length := by rw [hz]; split <;> omega
    refine ⟨some x, len0, cap0, zs.take len0, rfl, ⟨?_, fun hn => ?_⟩, hl, hm, fun y hy => hwz y (List.mem_of_mem_take hy)⟩
    · rw [nv_length, List.length_take]; omega
    · obtain ⟨b, off, spot⟩ := x
      have hc0 := hcell 0 (by omega)
      have hspot : spot = none := by simpa [Addr.add] using World.cell?_spot hc0
      subst hspot
      refine ⟨b, off, rfl, World.block_lt_of_cell? w _ hc0, fun j u hu => ?_⟩
      have hj : j < len0 := by
        rcases Nat.lt_or_ge j len0 with h' | h'
        · exact h'
        · rw [List.getElem?_eq_none (by rw [nv_length, List.length_take]; omega)] at hu; cases hu
      have hcj := hcell j (by omega)
      have hadd : (⟨b, off, none⟩ : Addr).add j = ⟨b, off + j, none⟩ := by unfold Addr.add; split <;> simp_all
      rw [hadd] at hcj
      rw [hcj, ← hu, nv_get k (zs.take len0) j (zs.getD j 0) ?_]
      rw [List.getElem?_take, if_pos hj, List.getD_eq_getElem?_getD, List.getElem?_eq_getElem (by omega)]
      rfl

/-- a slice of bytes that came in -/
theorem open_bytes {t e : TypeId} {r : Reach} {b0 : Nat} {v : Value} {d : DataW H} {ps : List MemPlace} (ht : P.underlying t = some (.slice e)) (he : P.underlying e = some (.int .u8)) (hc : P.cellsOf e = 1)
    (hv : Value.okWide P w r b0 t v) (h : DataW.Trod enc P w base spare held t v d ps) : ∃ r : Bs, v = r.v ∧ r.ok w := by
  obtain ⟨A, n, c, l, rfl, hr, hn, hm, hw⟩ := open_nums ht he hc hv h
  have e : nv .u8 l = bv (l.map fun z => UInt8.ofNat z.toNat) := by
    unfold nv bv
    rw [List.map_map]
    apply List.map_congr_left
    intro z hz
    have hb : 0 ≤ z ∧ z ≤ 255 := by simpa [Lit.wf, IntKind.min, IntKind.max, IntKind.signed, IntKind.bits] using hw z hz
    simp only [Function.comp]
    rw [u8_of z hb.1 hb.2]
  rw [e] at hr
  exact ⟨⟨A, n, c, _⟩, rfl, hr, hn, hm⟩

/-- a struct by value: its fields' cells, each with its own reading -/
theorem open_struct {t : TypeId} {fs : Array Field} {r : Reach} {b0 : Nat} {v : Value} {d : DataW H} {ps : List MemPlace} (ht : P.underlying t = some (.struct fs))
    (hv : Value.okWide P w r b0 t v) (h : DataW.Trod enc P w base spare held t v d ps) :
    ∃ (cs : List Value) (n : Nat), v = .agg cs.toArray ∧ cs.length = P.cellsOf t ∧ ∀ (i : Nat) (f : Field), fs[i]? = some f → ∃ y, DataW.trod enc P w base spare held n f.type ((cs.drop f.offset).take (P.cellsOf f.type)) = some y := by
  obtain ⟨⟨cs⟩, rfl, hsz⟩ := okWide_struct ht hv
  obtain ⟨fuel, hf⟩ := h
  obtain ⟨xs, n, _, _, _, hlen, hg⟩ := DataW.trod_struct ht hf
  refine ⟨cs, n, rfl, by simpa using hsz, fun i f hi => ?_⟩
  have hil : i < fs.size := (Array.getElem?_eq_some_iff.1 hi).1
  have := hg i f hi
  simp only [Value.cells] at this
  rw [this, List.getElem?_eq_getElem (by omega)]
  exact ⟨_, rfl⟩
theorem cell_int {t : TypeId} {k : IntKind} {n : Nat} {cs : List Value} (ht : P.underlying t = some (.int k)) (h : ∃ y, DataW.trod enc P w base spare held n t cs = some y) : ∃ x, cs = [.int k x] ∧ (Lit.int k x).wf = true := by
  obtain ⟨y, h⟩ := h
  obtain ⟨x, h1, _, h2⟩ := DataW.trod_int ht h
  exact ⟨x, h1, h2⟩
theorem cell_bool {t : TypeId} {n : Nat} {cs : List Value} (ht : P.underlying t = some .bool) (h : ∃ y, DataW.trod enc P w base spare held n t cs = some y) : ∃ x, cs = [.bool x] := by
  obtain ⟨y, h⟩ := h
  obtain ⟨x, h1, _⟩ := DataW.trod_bool ht h
  exact ⟨x, h1⟩
end
theorem len_cons {l : List Value} {n : Nat} (h : l.length = n + 1) : ∃ a r, l = a :: r ∧ r.length = n := by
  cases l with
  | nil => simp at h
  | cons a r => exact ⟨a, r, rfl, by simpa using h⟩
theorem bd_u8 {x : Int} (h : (Lit.int .u8 x).wf = true) : 0 ≤ x ∧ x ≤ 255 := by simpa [Lit.wf, IntKind.min, IntKind.max, IntKind.signed, IntKind.bits] using h
theorem bd_u16 {x : Int} (h : (Lit.int .u16 x).wf = true) : 0 ≤ x ∧ x ≤ 65535 := by simpa [Lit.wf, IntKind.min, IntKind.max, IntKind.signed, IntKind.bits] using h
theorem bd_u32 {x : Int} (h : (Lit.int .u32 x).wf = true) : 0 ≤ x ∧ x ≤ 4294967295 := by simpa [Lit.wf, IntKind.min, IntKind.max, IntKind.signed, IntKind.bits] using h
theorem bd_i64 {x : Int} (h : (Lit.int .i64 x).wf = true) : -9223372036854775808 ≤ x ∧ x ≤ 9223372036854775807 := by simpa [Lit.wf, IntKind.min, IntKind.max, IntKind.signed, IntKind.bits] using h
end Go.Proofs.YtckbleiikldloaaDoor

/- How a law's argument that is a slice of entries is opened. No condition. -/
namespace Go.Proofs.YtckbleiikldloaaDoor
open Go.ChangeShapes Go.WideShapes Go.ChangeAt Go.RowKit Go.Deep
set_option linter.unusedVariables false
set_option maxRecDepth 20000

section
variable {H : Type} {enc : TypeId × Value → H} {P : Program} {w : World} {base : Nat} {spare : Nat → Bool} {held : Bool}
theorem open_slice_fields {t e : TypeId} {fs : Array Field} {fuel : Nat} {cs : List Value} {x : DataW H × List MemPlace} (ht : P.underlying t = some (.slice e)) (he : P.underlying e = some (.struct fs))
    (hone : oneCellFields P fs = true) (hC : P.cellsOf e = fs.size) (h : DataW.trod enc P w base spare held fuel t cs = some x) :
    cs = [.slice none 0 0] ∨
    ∃ (a : Addr) (len cap : Nat), cs = [.slice (some a) len cap] ∧ len ≤ cap ∧ cap ≤ maxLen ∧
      ∀ i, i < len → ∃ n, ∀ (j : Nat) (f : Field), fs[j]? = some f → ∃ (v : Value) (y : DataW H × List MemPlace), w.cell? (a.add (i * fs.size + j)) = some v ∧ DataW.trod enc P w base spare held n f.type [v] = some y := by
  rcases open_slice ht h with h0 | ⟨a, len, cap, m, n, D, Pl, hcs, hb, hl, hm, hmm, hx, hi⟩
  · exact .inl h0.1
  · refine .inr ⟨a, len, cap, hcs, hl, hm, fun i hil => ?_⟩
    have him : i < m := by rw [hmm]; split <;> omega
    obtain ⟨cs', hc, ht'⟩ := hi i him
    rw [hC] at hc
    obtain ⟨ys, n', hn', hy, hlen, hyl, hf⟩ := DataW.trod_struct he ht'
    obtain ⟨_, hcl, hat⟩ := World.cells?_some hc
    refine ⟨n', fun j f hj => ?_⟩
    obtain ⟨ho, hk⟩ := hone_of hone j f hj
    have hjl : j < fs.size := (Array.getElem?_eq_some_iff.1 hj).1
    have hcell := hat j hjl
    have hv : cs'[j]? = some (cs'[j]'(by omega)) := List.getElem?_eq_getElem (by omega)
    have h1 := hf j f hj
    rw [ho, hk] at h1
    have hone' : (cs'.drop j).take 1 = [cs'[j]'(by omega)] := by
      rw [List.drop_eq_getElem_cons (by omega)]
      rfl
    rw [hone'] at h1
    have hys : ys[j]? = some (ys[j]'(by omega)) := List.getElem?_eq_getElem (by omega)
    refine ⟨_, _, ?_, h1.trans hys⟩
    rw [← Go.Deep.add_add, hcell, hv]
end

/-- an entry's numbers are those of its fields' kinds -/
structure Ent.wf (e : Ent) : Prop where
  label : (Lit.int .i64 e.label).wf = true
  cls : 0 ≤ e.cls ∧ e.cls ≤ 255
  ttl : 0 ≤ e.ttl ∧ e.ttl ≤ 255
theorem add_none (b o j : Nat) : (⟨b, o, none⟩ : Addr).add j = ⟨b, o + j, none⟩ := by unfold Addr.add; split <;> simp_all
theorem evs_back (l : List Ent) (j : Nat) (u : Value) (h : (evs l)[j]? = some u) : ∃ i r x, j = i * 4 + r ∧ r < 4 ∧ l[i]? = some x ∧ x.cells[r]? = some u := by
  have hj : j < l.length * 4 := by
    have := (List.getElem?_eq_some_iff.1 h).1
    rw [evs_length] at this
    exact this
  obtain ⟨x, hx⟩ := get_ex l (k := j / 4) (by omega)
  refine ⟨j / 4, j % 4, x, by omega, by omega, hx, ?_⟩
  rw [← evs_cell l (j / 4) x hx (j % 4) (by omega), ← h]
  congr 1
  omega

theorem open_ents {H : Type} {enc : TypeId × Value → H} {w : World} {base : Nat} {spare : Nat → Bool} {held : Bool} {r : Reach} {b0 : Nat} {v : Value} {d : DataW H} {ps : List MemPlace}
    (hv : Value.okWide Tryd.prog w r b0 23 v) (h : DataW.Trod enc Tryd.prog w base spare held 23 v d ps) :
    ∃ A n c l, v = .slice A n c ∧ Row w w.heap.size 4 A n (evs l) ∧ n ≤ c ∧ c ≤ maxLen ∧ ∀ x ∈ l, x.wf := by
  obtain ⟨a0, len0, cap0, rfl⟩ := okWide_slice Tryd.underlying23 hv
  obtain ⟨fuel, hf⟩ := h
  rcases open_slice_fields Tryd.underlying23 Tryd.underlying49 (by kernel_rfl) (by kernel_rfl) hf with hcs | ⟨a, l, c, hcs, hl, hm, hi⟩
  · simp [Value.cells] at hcs
    obtain ⟨rfl, rfl, rfl⟩ := hcs
    exact ⟨none, 0, 0, [], rfl, Row.nil _ _ _ _, Nat.le_refl _, Nat.zero_le _, by simp⟩
  · simp [Value.cells] at hcs
    obtain ⟨rfl, rfl, rfl⟩ := hcs
    have one : ∀ i, i < len0 → ∃ x : Ent, x.wf ∧ ∀ j u, x.cells[j]? = some u → w.cell? (a.add (i * 4 + j)) = some u := by
      intro i hil
      obtain ⟨n, hfs⟩ := hi i hil
      obtain ⟨v0, y0, c0, t0⟩ := hfs 0 _ rfl
      obtain ⟨v1, y1, c1, t1⟩ := hfs 1 _ rfl
      obtain ⟨v2, y2, c2, t2⟩ := hfs 2 _ rfl
      obtain ⟨v3, y3, c3, t3⟩ := hfs 3 _ rfl
      obtain ⟨x0, e0, _, q0⟩ := DataW.trod_int Tryd.underlying3 t0
      obtain ⟨x1, e1, _, q1⟩ := DataW.trod_int Tryd.underlying5 t1
      obtain ⟨x2, e2, _⟩ := DataW.trod_bool Tryd.underlying4 t2
      obtain ⟨x3, e3, _, q3⟩ := DataW.trod_int Tryd.underlying5 t3
      simp only [List.cons.injEq, and_true] at e0 e1 e2 e3
      subst e0 e1 e2 e3
      refine ⟨⟨x0, x1, x2, x3⟩, ⟨q0, bd_u8 q1, bd_u8 q3⟩, fun j u hu => ?_⟩
      simp only [Ent.cells] at hu
      match j with
      | 0 => cases hu; exact c0
      | 1 => cases hu; exact c1
      | 2 => cases hu; exact c2
      | 3 => cases hu; exact c3
      | j + 4 => simp at hu
    have all : ∀ k, k ≤ len0 → ∃ l : List Ent, l.length = k ∧ (∀ x ∈ l, x.wf) ∧ ∀ i x, l[i]? = some x → ∀ j u, x.cells[j]? = some u → w.cell? (a.add (i * 4 + j)) = some u := by
      intro k
      induction k with
      | zero => exact fun _ => ⟨[], rfl, by simp, by simp⟩
      | succ k ih =>
        intro hk
        obtain ⟨l, h1, h2, h3⟩ := ih (by omega)
        obtain ⟨x, hx, hc⟩ := one k (by omega)
        refine ⟨l ++ [x], by simp [h1], ?_, fun i y hy => ?_⟩
        · intro y hy
          rcases List.mem_append.1 hy with h | h
          · exact h2 y h
          · obtain rfl := List.mem_singleton.1 h
            exact hx
        · rcases Nat.lt_or_ge i l.length with hlt | hge
          · rw [List.getElem?_append_left hlt] at hy
            exact h3 i y hy
          · rw [List.getElem?_append_right hge] at hy
            have hi0 : i - l.length = 0 := by
              have := (List.getElem?_eq_some_iff.1 hy).1
              simp at this
              omega
            rw [hi0] at hy
            obtain rfl : x = y := by simpa using hy
            have : i = k := by omega
            subst this
            exact hc
    obtain ⟨L, h1, h2, h3⟩ := all len0 (Nat.le_refl _)
    refine ⟨some a, len0, cap0, L, rfl, ⟨by rw [evs_length, h1], fun hn => ?_⟩, hl, hm, h2⟩
    obtain ⟨b, off, spot⟩ := a
    obtain ⟨x, hx⟩ := get_ex L (k := 0) (by omega)
    have hc0 := h3 0 x hx 0 _ rfl
    have hspot : spot = none := by simpa [Addr.add] using World.cell?_spot hc0
    subst hspot
    refine ⟨b, off, rfl, World.block_lt_of_cell? w _ (by rw [← hc0]), fun j u hu => ?_⟩
    obtain ⟨i, r, y, rfl, hr, hy, hu'⟩ := evs_back L j u hu
    rw [← add_none]
    exact h3 i y hy r u hu'
end Go.Proofs.YtckbleiikldloaaDoor

/- How an array of bytes among a law's arguments is opened. No condition. -/
namespace Go.Proofs.YtckbleiikldloaaDoor
open Go.ChangeShapes Go.WideShapes Go.ChangeAt Go.RowKit
set_option linter.unusedVariables false
set_option maxRecDepth 20000

section
variable {H : Type} {enc : TypeId × Value → H} {P : Program} {w : World} {base : Nat} {spare : Nat → Bool} {held : Bool}
def byteOf : Value → UInt8 | .int _ x => UInt8.ofNat x.toNat | _ => 0
theorem cell_bytes {t e : TypeId} {k n : Nat} {cs : List Value} (ht : P.underlying t = some (.array k e)) (he : P.underlying e = some (.int .u8)) (hc : P.cellsOf e = 1) (hl : P.cellsOf t = k)
    (h : ∃ y, DataW.trod enc P w base spare held n t cs = some y) : ∃ l : List UInt8, cs = bv l ∧ l.length = k := by
  obtain ⟨y, h⟩ := h
  obtain ⟨xs, m, _, _, hcs, hx, hi⟩ := DataW.trod_array ht h
  rw [hl] at hcs
  refine ⟨cs.map byteOf, ?_, by simp [hcs]⟩
  apply List.ext_getElem (by simp [bv])
  intro i h1 h2
  have hik : i < k := by omega
  have hp := hi i hik
  rw [hc, Nat.mul_one, List.drop_eq_getElem_cons h1, List.take_succ_cons, List.take_zero, List.getElem?_eq_getElem (by omega)] at hp
  obtain ⟨x, hv, hw⟩ := cell_int he ⟨_, hp⟩
  have hv' : cs[i] = .int .u8 x := by simpa using hv
  have hb := bd_u8 hw
  simp only [bv, List.getElem_map, hv', byteOf]
  rw [u8_of x hb.1 hb.2]
end
end Go.Proofs.YtckbleiikldloaaDoor

/- How a header of IPv4 among a law's arguments is opened. No condition. -/
namespace Go.Proofs.YtckbleiikldloaaDoor
open Go.ChangeShapes Go.WideShapes Go.ChangeAt Go.RowKit
set_option linter.unusedVariables false
set_option maxRecDepth 20000

theorem cell_str {H : Type} {enc : TypeId × Value → H} {P : Program} {w : World} {base : Nat} {spare : Nat → Bool} {held : Bool} {t : TypeId} {n : Nat} {cs : List Value} (ht : P.underlying t = some .string)
    (h : ∃ y, DataW.trod enc P w base spare held n t cs = some y) : ∃ l : List UInt8, cs = [str l] ∧ l.length ≤ 9223372036854775807 := by
  obtain ⟨y, h⟩ := h
  obtain ⟨⟨⟨l⟩⟩, h1, _, h2⟩ := DataW.trod_string ht h
  exact ⟨l, h1, by simpa [ByteArray.size, maxLen] using h2⟩

theorem open_h4 {H : Type} {enc : TypeId × Value → H} {w : World} {base : Nat} {spare : Nat → Bool} {held : Bool} {r : Reach} {b0 : Nat} {v : Value} {d : DataW H} {ps : List MemPlace}
    (hv : Value.okWide Tryd.prog w r b0 56 v) (h : DataW.Trod enc Tryd.prog w base spare held 56 v d ps) : ∃ h : H4, v = .agg h.cells.toArray ∧ h.fit := by
  obtain ⟨cs, m, rfl, hz, hg⟩ := open_struct Tryd.underlying56 hv h
  have g0 : cs.length = 17 := hz.trans (by kernel_rfl)
  have k8 : Tryd.prog.cellsOf 5 = 1 := by kernel_rfl
  have k3 : Tryd.prog.cellsOf 3 = 1 := by kernel_rfl
  have k2 : Tryd.prog.cellsOf 45 = 1 := by kernel_rfl
  have kb : Tryd.prog.cellsOf 4 = 1 := by kernel_rfl
  have ks : Tryd.prog.cellsOf 9 = 1 := by kernel_rfl
  have k4 : Tryd.prog.cellsOf 26 = 4 := by kernel_rfl
  obtain ⟨c0, r0, rfl, g1⟩ := len_cons g0
  obtain ⟨c1, r1, rfl, g2⟩ := len_cons g1
  obtain ⟨c2, r2, rfl, g3⟩ := len_cons g2
  obtain ⟨c3, r3, rfl, g4⟩ := len_cons g3
  obtain ⟨c4, r4, rfl, g5⟩ := len_cons g4
  obtain ⟨c5, r5, rfl, g6⟩ := len_cons g5
  obtain ⟨c6, r6, rfl, g7⟩ := len_cons g6
  obtain ⟨c7, r7, rfl, g8⟩ := len_cons g7
  obtain ⟨x0, e0, q0⟩ := cell_int Tryd.underlying5 (hg 0 _ rfl)
  obtain ⟨x1, e1, q1⟩ := cell_int Tryd.underlying3 (hg 1 _ rfl)
  obtain ⟨x2, e2, q2⟩ := cell_int Tryd.underlying45 (hg 2 _ rfl)
  obtain ⟨x3, e3⟩ := cell_bool Tryd.underlying4 (hg 3 _ rfl)
  obtain ⟨x4, e4⟩ := cell_bool Tryd.underlying4 (hg 4 _ rfl)
  obtain ⟨x5, e5, q5⟩ := cell_int Tryd.underlying3 (hg 5 _ rfl)
  obtain ⟨x6, e6, q6⟩ := cell_int Tryd.underlying5 (hg 6 _ rfl)
  obtain ⟨x7, e7, q7⟩ := cell_int Tryd.underlying5 (hg 7 _ rfl)
  obtain ⟨s, e8, l8⟩ := cell_bytes Tryd.underlying26 Tryd.underlying5 k8 k4 (hg 8 _ rfl)
  obtain ⟨t, e9, l9⟩ := cell_bytes Tryd.underlying26 Tryd.underlying5 k8 k4 (hg 9 _ rfl)
  obtain ⟨o, e10, z10⟩ := cell_str Tryd.underlying9 (hg 10 _ rfl)
  obtain ⟨rfl, rfl, rfl, rfl, rfl, rfl, rfl, rfl⟩ : c0 = .int .u8 x0 ∧ c1 = .int .i64 x1 ∧ c2 = .int .u16 x2 ∧ c3 = .bool x3 ∧ c4 = .bool x4 ∧ c5 = .int .i64 x5 ∧ c6 = .int .u8 x6 ∧ c7 = .int .u8 x7 :=
    ⟨by simpa [k8] using e0, by simpa [k3] using e1, by simpa [k2] using e2, by simpa [kb] using e3, by simpa [kb] using e4, by simpa [k3] using e5, by simpa [k8] using e6, by simpa [k8] using e7⟩
  have e8' : r7.take 4 = bv s := by simpa [k4] using e8
  have e9' : (r7.drop 4).take 4 = bv t := by simpa [k4] using e9
  have e10' : (r7.drop 8).take 1 = [str o] := by simpa [ks] using e10
  have hr : r7 = bv s ++ (bv t ++ [str o]) := by
    rw [← e8', ← e9', ← e10']
    have h1 : (r7.drop 8).take 1 = r7.drop 8 := List.take_of_length_le (by simp; omega)
    rw [h1, show (8 : Nat) = 4 + 4 from rfl, ← List.drop_drop, List.take_append_drop, List.take_append_drop]
  subst hr
  exact ⟨⟨x0, x1, x2, x3, x4, x5, x6, x7, s, t, o⟩, rfl, ⟨⟨l8, l9⟩, bd_u8 q0, bd_i64 q1, bd_u16 q2, bd_i64 q5, bd_u8 q6, bd_u8 q7, z10⟩⟩
end Go.Proofs.YtckbleiikldloaaDoor

/- How an error among a law's arguments is opened. No condition. -/
namespace Go.Proofs.YtckbleiikldloaaDoor
open Go.ChangeShapes Go.WideShapes Go.ChangeAt Go.RowKit Go.Deep
set_option linter.unusedVariables false
set_option maxRecDepth 20000
end Go.Proofs.YtckbleiikldloaaDoor

/- How a message of ICMP among a law's arguments is opened. No condition. -/
namespace Go.Proofs.YtckbleiikldloaaDoor
open Go.ChangeShapes Go.WideShapes Go.ChangeAt Go.RowKit Go.Deep
set_option linter.unusedVariables false
set_option maxRecDepth 20000

theorem cell_ents {H : Type} {enc : TypeId × Value → H} {w : World} {base : Nat} {spare : Nat → Bool} {held : Bool} {n : Nat} {cs : List Value} (h : ∃ y, DataW.trod enc Tryd.prog w base spare held n 23 cs = some y) :
    ∃ A n c l, cs = [.slice A n c] ∧ Row w w.heap.size 4 A n (evs l) ∧ n ≤ c ∧ c ≤ maxLen ∧ ∀ x ∈ l, x.wf := by
  obtain ⟨⟨d, ps⟩, hf⟩ := h
  rcases open_slice_fields Tryd.underlying23 Tryd.underlying49 (by kernel_rfl) (by kernel_rfl) hf with hcs | ⟨a, len0, cap0, hcs, hl, hm, hi⟩
  · exact ⟨none, 0, 0, [], hcs, Row.nil _ _ _ _, Nat.le_refl _, Nat.zero_le _, by simp⟩
  · have one : ∀ i, i < len0 → ∃ x : Ent, x.wf ∧ ∀ j u, x.cells[j]? = some u → w.cell? (a.add (i * 4 + j)) = some u := by
      intro i hil
      obtain ⟨n, hfs⟩ := hi i hil
      obtain ⟨v0, y0, c0, t0⟩ := hfs 0 _ rfl
      obtain ⟨v1, y1, c1, t1⟩ := hfs 1 _ rfl
      obtain ⟨v2, y2, c2, t2⟩ := hfs 2 _ rfl
      obtain ⟨v3, y3, c3, t3⟩ := hfs 3 _ rfl
      obtain ⟨x0, e0, _, q0⟩ := DataW.trod_int Tryd.underlying3 t0
      obtain ⟨x1, e1, _, q1⟩ := DataW.trod_int Tryd.underlying5 t1
      obtain ⟨x2, e2, _⟩ := DataW.trod_bool Tryd.underlying4 t2
      obtain ⟨x3, e3, _, q3⟩ := DataW.trod_int Tryd.underlying5 t3
      simp only [List.cons.injEq, and_true] at e0 e1 e2 e3
      subst e0 e1 e2 e3
      refine ⟨⟨x0, x1, x2, x3⟩, ⟨q0, bd_u8 q1, bd_u8 q3⟩, fun j u hu => ?_⟩
      simp only [Ent.cells] at hu
      match j with
      | 0 => cases hu; exact c0
      | 1 => cases hu; exact c1
      | 2 => cases hu; exact c2
      | 3 => cases hu; exact c3
      | j + 4 => simp at hu
    have all : ∀ k, k ≤ len0 → ∃ l : List Ent, l.length = k ∧ (∀ x ∈ l, x.wf) ∧ ∀ i x, l[i]? = some x → ∀ j u, x.cells[j]? = some u → w.cell? (a.add (i * 4 + j)) = some u := by
      intro k
      induction k with
      | zero => exact fun _ => ⟨[], rfl, by simp, by simp⟩
      | succ k ih =>
        intro hk
        obtain ⟨l, h1, h2, h3⟩ := ih (by omega)
        obtain ⟨x, hx, hc⟩ := one k (by omega)
        refine ⟨l ++ [x], by simp [h1], ?_, fun i y hy => ?_⟩
        · intro y hy
          rcases List.mem_append.1 hy with h | h
          · exact h2 y h
          · obtain rfl := List.mem_singleton.1 h
            exact hx
        · rcases Nat.lt_or_ge i l.length with hlt | hge
          · rw [List.getElem?_append_left hlt] at hy
            exact h3 i y hy
          · rw [List.getElem?_append_right hge] at hy
            have hi0 : i - l.length = 0 := by
              have := (List.getElem?_eq_some_iff.1 hy).1
              simp at this
              omega
            rw [hi0] at hy
            obtain rfl : x = y := by simpa using hy
            have : i = k := by omega
            subst this
            exact hc
    obtain ⟨L, h1, h2, h3⟩ := all len0 (Nat.le_refl _)
    refine ⟨some a, len0, cap0, L, hcs, ⟨by rw [evs_length, h1], fun hn => ?_⟩, hl, hm, h2⟩
    obtain ⟨b, off, spot⟩ := a
    obtain ⟨x, hx⟩ := get_ex L (k := 0) (by omega)
    have hc0 := h3 0 x hx 0 _ rfl
    have hspot : spot = none := by simpa [Addr.add] using World.cell?_spot hc0
    subst hspot
    refine ⟨b, off, rfl, World.block_lt_of_cell? w _ (by rw [← hc0]), fun j u hu => ?_⟩
    obtain ⟨i, r, y, rfl, hr, hy, hu'⟩ := evs_back L j u hu
    rw [← add_none]
    exact h3 i y hy r u hu'
theorem Ent.wf.fitM {x : Ent} (h : x.wf) : x.fit := ⟨(bd_i64 h.label).1, (bd_i64 h.label).2, h.cls.1, h.cls.2, h.ttl.1, h.ttl.2⟩
section
variable {H : Type} {enc : TypeId × Value → H} {P : Program} {w : World} {base : Nat} {spare : Nat → Bool} {held : Bool}
theorem cell_sliceM {t e : TypeId} {n : Nat} {cs : List Value} (ht : P.underlying t = some (.slice e)) (he : P.underlying e = some (.int .u8)) (hc : P.cellsOf e = 1)
    (h : ∃ y, DataW.trod enc P w base spare held n t cs = some y) : ∃ r : Bs, cs = [r.v] ∧ r.ok w := by
  obtain ⟨⟨d, ps⟩, hf⟩ := h
  rcases open_ints ht he hc hf with ⟨hcs, _⟩ | ⟨x, l, c, zs, hcs, _, hl, hm, hz, _, hcell, hwz⟩
  · exact ⟨⟨none, 0, 0, []⟩, hcs, ⟨Row.nil _ _ _ _, Nat.le_refl _, Nat.zero_le _⟩⟩
  · have hlz : l ≤ zs.length := by rw [hz]; split <;> omega
    have hrow : Row w w.heap.size 1 (some x) l (nv .u8 (zs.take l)) := by
      refine ⟨?_, fun hn => ?_⟩
      · rw [nv_length, List.length_take]; omega
      · obtain ⟨b, off, spot⟩ := x
        have hc0 := hcell 0 (by omega)
        have hspot : spot = none := by simpa [Addr.add] using World.cell?_spot hc0
        subst hspot
        refine ⟨b, off, rfl, World.block_lt_of_cell? w _ hc0, fun j u hu => ?_⟩
        have hj : j < l := by
          rcases Nat.lt_or_ge j l with h' | h'
          · exact h'
          · rw [List.getElem?_eq_none (by rw [nv_length, List.length_take]; omega)] at hu; cases hu
        have hcj := hcell j (by omega)
        have hadd : (⟨b, off, none⟩ : Addr).add j = ⟨b, off + j, none⟩ := by unfold Addr.add; split <;> simp_all
        rw [hadd] at hcj
        rw [hcj, ← hu, nv_get .u8 (zs.take l) j (zs.getD j 0) ?_]
        rw [List.getElem?_take, if_pos hj, List.getD_eq_getElem?_getD, List.getElem?_eq_getElem (by omega)]
        rfl
    have e : nv .u8 (zs.take l) = bv ((zs.take l).map fun z => UInt8.ofNat z.toNat) := by
      unfold nv bv
      rw [List.map_map]
      apply List.map_congr_left
      intro z hz
      have hb : 0 ≤ z ∧ z ≤ 255 := by simpa [Lit.wf, IntKind.min, IntKind.max, IntKind.signed, IntKind.bits] using hwz z (List.mem_of_mem_take hz)
      simp only [Function.comp]
      rw [u8_of z hb.1 hb.2]
    rw [e] at hrow
    exact ⟨⟨some x, l, c, _⟩, hcs, ⟨hrow, hl, hm⟩⟩
end
theorem open_mp {H : Type} {enc : TypeId × Value → H} {w : World} {base : Nat} {spare : Nat → Bool} {held : Bool} {r : Reach} {b0 : Nat} {v : Value} {d : DataW H} {ps : List MemPlace}
    (hv : Value.okWide Tryd.prog w r b0 25 v) (h : DataW.Trod enc Tryd.prog w base spare held 25 v d ps) : ∃ m : Mp, v = .agg m.cells.toArray ∧ m.ok w := by
  obtain ⟨cs, k, rfl, hz, hg⟩ := open_struct Tryd.underlying25 hv h
  have g0 : cs.length = 4 := hz.trans (by kernel_rfl)
  have k3 : Tryd.prog.cellsOf 3 = 1 := by kernel_rfl
  have ks : Tryd.prog.cellsOf 22 = 1 := by kernel_rfl
  have ke : Tryd.prog.cellsOf 23 = 1 := by kernel_rfl
  obtain ⟨c0, r0, rfl, g1⟩ := len_cons g0
  obtain ⟨c1, r1, rfl, g2⟩ := len_cons g1
  obtain ⟨c2, r2, rfl, g3⟩ := len_cons g2
  obtain ⟨c3, r3, rfl, g4⟩ := len_cons g3
  obtain rfl : r3 = [] := List.eq_nil_of_length_eq_zero g4
  obtain ⟨x0, e0, q0⟩ := cell_int Tryd.underlying3 (hg 0 _ rfl)
  obtain ⟨x1, e1, q1⟩ := cell_int Tryd.underlying3 (hg 1 _ rfl)
  obtain ⟨s, e2, z2⟩ := cell_sliceM Tryd.underlying22 Tryd.underlying5 (by kernel_rfl) (hg 2 _ rfl)
  obtain ⟨A, n, c, l, e3, hr, hn, hm, hl⟩ := cell_ents (hg 3 _ rfl)
  obtain ⟨rfl, rfl, rfl, rfl⟩ : c0 = .int .i64 x0 ∧ c1 = .int .i64 x1 ∧ c2 = s.v ∧ c3 = .slice A n c :=
    ⟨by simpa [k3] using e0, by simpa [k3] using e1, by simpa [ks] using e2, by simpa [ke] using e3⟩
  obtain ⟨P, pn, pc, beg⟩ := s
  exact ⟨⟨x0, x1, P, pn, pc, beg, A, n, c, l⟩, rfl, ⟨bd_i64 q0, bd_i64 q1, z2.row, z2.le, z2.cap, hr, hn, hm, fun x hx => (hl x hx).fitM⟩⟩
theorem open_a4 {H : Type} {enc : TypeId × Value → H} {w : World} {base : Nat} {spare : Nat → Bool} {held : Bool} {r : Reach} {b0 : Nat} {v : Value} {d : DataW H} {ps : List MemPlace}
    (hv : Value.okWide Tryd.prog w r b0 26 v) (h : DataW.Trod enc Tryd.prog w base spare held 26 v d ps) : ∃ l : List UInt8, v = .agg (bv l).toArray ∧ l.length = 4 := by
  simp only [Value.okWide, Tryd.underlying26] at hv
  obtain ⟨cs, rfl, _⟩ := hv
  obtain ⟨fuel, hf⟩ := h
  obtain ⟨l, h1, h2⟩ := cell_bytes Tryd.underlying26 Tryd.underlying5 (by kernel_rfl) (by kernel_rfl) ⟨_, hf⟩
  refine ⟨l, ?_, h2⟩
  rw [← h1]
  simp [Value.cells]
end Go.Proofs.YtckbleiikldloaaDoor


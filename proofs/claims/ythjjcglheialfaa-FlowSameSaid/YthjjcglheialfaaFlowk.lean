/- What the functions of flows on packets' keys compute, and the numbers of keys and stacks. No condition but sizes. -/
import Derived.Test.YthjjcglheialfaaFlowb
namespace Go.Proofs.Ythjjcglheialfaa
open Go.RowKit
set_option linter.unusedVariables false
set_option maxRecDepth 20000
set_option linter.unusedSimpArgs false

/-- a key with the ports that a body begins with -/
def portsF (k : Ky) (body : List UInt8) : Ky := if (k.pro = 6 ∨ k.pro = 17) ∧ 4 ≤ body.length then { k with fr := (numF body 0 2 : Nat), to := (numF body 2 2 : Nat) } else k
theorem portsF_ok (k : Ky) (hk : k.ok) (body : List UInt8) : (portsF k body).ok := by
  unfold portsF
  split
  · exact ⟨hk.src, hk.dst⟩
  · exact hk
def key4F (l : List UInt8) : Ky := ⟨false, (par4 l).1.src ++ z12, (par4 l).1.dst ++ z12, (par4 l).1.pro, 0, 0⟩
def whole4 (l : List UInt8) : Bool := !(par4 l).1.more && ((par4 l).1.off == 0)
def key6F (l : List UInt8) : Ky := ⟨true, (par6 l).1.src, (par6 l).1.dst, (par6 l).1.next, 0, 0⟩
theorem key4F_ok (l : List UInt8) : (key4F l).ok := ⟨by simp [key4F, (par4_ok l).src, z12], by simp [key4F, (par4_ok l).dst, z12]⟩
theorem key6F_ok (l : List UInt8) : (key6F l).ok := ⟨(par6_ok l).src, (par6_ok l).dst⟩

set_option maxHeartbeats 4000000 in
theorem key6_any (A : Option Addr) (n c : Nat) (l : List UInt8) (w : World) (h : Row w w.heap.size 1 A n (bv l)) (hc : n ≤ c) (hcm : c ≤ maxLen) (hn : n ≤ 1099511627776) :
    Calls Try.prog 21 #[.slice A n c] w fun e w' => e = .returned (.tuple #[.agg (key6F l).cells.toArray, .bool true, .int .i64 (par6 l).2]) ∧ Below w.heap.size w w' := by
  have HR := Lib.hid h
  have hok := par6_ok l
  have P := fun W (hB : Below w.heap.size w W) => parse6_any A n c l W ((h.below hB).more hB.size) hc hcm hn
  have HKO := Lib.hid (key6F_ok l)
  have HKX : Hid ((⟨true, (par6 l).1.src, (par6 l).1.dst, (par6 l).1.next, 0, 0⟩ : Ky).ok) := Lib.hid (key6F_ok l)
  have HKD := Lib.hid (show key6F l = ⟨true, (par6 l).1.src, (par6 l).1.dst, (par6 l).1.next, 0, 0⟩ from rfl)
  generalize key6F l = K6 at HKO HKD ⊢
  cases hp : par6 l with
  | mk h6 er =>
  rw [hp] at hok P HKD HKX
  clear hp
  simp only at hok P HKD HKX ⊢
  have HP := Lib.hid P
  have HOK := Lib.hid hok
  have HS := Lib.hid (h6.drop_src hok)
  have HD := Lib.hid (h6.drop_dst hok)
  clear P hok h
  go_enter Try.func21, Try.ntmps21
  go_wp2_with (refine wpList_alloc_blk rfl 26 rfl Ky.zero.cells zeroK ?_; intro w1 hb1 hB1 hs1)
  refine (HP.out w1 hB1).mono ?_
  rintro e w2 ⟨rfl, hb2⟩
  have hz2 := hb1.on hb2
  have hB2 := bthen hB1 hb2
  clear hb1 hB1 hs1 hb2
  go_wp2_with (first
    | (refine wpList_load_midB rfl 24 (.tmp 12) rfl w2.heap.size 5 rfl _ _ R1.out Try.underlying24 rfl (size24 _ HOK.out.src) ?_)
    | (refine wpList_load_midB rfl 24 (.tmp 14) rfl w2.heap.size 21 rfl _ _ R2.out Try.underlying24 rfl (size24 _ HOK.out.dst) ?_)
    | (refine wpList_value rfl (exec_buildK6 _ _ _ _ rfl h6.src h6.dst h6.next HOK.out.src HOK.out.dst rfl rfl rfl rfl) ?_)
    | (refine wpList_alloc_blk rfl 48 rfl H6.zero.cells zero6 ?_; intro w3 hbw3 hBw3 hsw3)
    | (refine wpList_store_all rfl 48 _ _ rfl w2.heap.size h6.cells rfl rfl 48 _ hbw3 (size6 _ HOK.out) (H6.cells_same _ _ HOK.out H6.zero_ok) (H6.one _) ?_; intro w4 hbw4 hgw4 hsw4; have hBw4 : Below w2.heap.size w2 w4 := bgrown hBw3 hgw4 (by omega) (by omega)); have r1 := hbw4.range 5 16; rw [HS.out] at r1; have R1 := Lib.hid r1; have r2 := hbw4.range 21 16; rw [HD.out] at r2; have R2 := Lib.hid r2; have c3 : w4.cell? ⟨w2.heap.size, 3, none⟩ = some (.int .u8 h6.next) := hbw4.cell 3; have hz4 := hz2.on hBw4
    | (refine wpList_store_all rfl 26 _ _ rfl w.heap.size _ rfl rfl 26 _ hz4 (sizeK _ HKX.out) (Ky.cells_same _ _ HKX.out Ky.zero_ok) (Ky.one _) ?_; intro w5 hb5 hg5 hs5))
  refine bodyPost_ret (results_cell3 rfl _ _ w.heap.size _ _ _ rfl hb5 Try.underlying26 rfl (sizeK _ HKX.out)) rfl ?_
  exact ⟨by rw [HKD.out]; rfl, bgrown (bthen hB2 hBw4) hg5 (by have := hB2.size; have := hBw4.size; omega) (by omega)⟩

set_option maxHeartbeats 4000000 in
theorem ports_no (k : Ky) (hk : k.ok) (body : List UInt8) (w : World) (hn : body.length ≤ 1099511627776) (hx : ¬ ((k.pro = 6 ∨ k.pro = 17) ∧ 4 ≤ body.length)) :
    Calls Try.prog 26 #[.agg k.cells.toArray, str body] w fun e w' => e = .returned (.agg k.cells.toArray) ∧ Below w.heap.size w w' := by
  have HK := Lib.hid hk
  have HT := Lib.hid (k.get_tail hk)
  have hcase : (k.pro = 6 ∧ ¬ (4 : Int) ≤ (body.length : Int)) ∨ ((k.pro == 6) = false ∧ k.pro = 17 ∧ ¬ (4 : Int) ≤ (body.length : Int)) ∨ ((k.pro == 6) = false ∧ (k.pro == 17) = false) := by
    simp only [beq_eq_false_iff_ne]
    omega
  clear hx hk
  rcases hcase with ⟨p1, p2⟩ | ⟨p1, p3, p2⟩ | ⟨p1, p2⟩
  all_goals
    go_enter Try.func26, Try.ntmps26
    go_wp2_with (first
      | (refine wpList_box_blk rfl 29 _ rfl k.cells rfl ?_; intro w1 hb1 hB1 hs1)
      | (refine wpList_alloc_blk rfl 29 rfl Ky.zero.cells zeroR ?_; intro w2 hb2 hB2 hs2; have hb12 := hb1.on hB2; have c33 : w2.cell? ⟨w.heap.size, 33, none⟩ = some (.int .u8 k.pro) := (hb12.cell 33).trans (HT.out 0); have hbe := hb2; rw [hs1] at hbe)
      | (refine wpList_load_blk rfl 29 _ rfl w.heap.size rfl 29 _ _ hb12 Try.underlying29 rfl (sizeR _ HK.out) ?_)
      | (refine wpList_store_all rfl 29 _ _ rfl (w.heap.size + 1) _ rfl rfl 29 _ hbe (sizeR _ HK.out) (Ky.cells_same _ _ HK.out Ky.zero_ok) (Ky.one _) ?_; intro w3 hb3 hg3 hs3))
    refine bodyPost_ret (results_cell1 rfl _ _ (w.heap.size + 1) _ _ _ rfl hb3 Try.underlying29 rfl (sizeR _ HK.out)) rfl ?_
    exact ⟨rfl, bgrown (bthen hB1 hB2) hg3 (by omega) (by omega)⟩

set_option maxHeartbeats 4000000 in
theorem ports_yes (k : Ky) (hk : k.ok) (body : List UInt8) (w : World) (hn : body.length ≤ 1099511627776) (hx : k.pro = 6 ∨ k.pro = 17) (h4 : 4 ≤ body.length) (P Q : Nat) (hP : numF body 0 2 = P) (hQ : numF body 2 2 = Q) :
    Calls Try.prog 26 #[.agg k.cells.toArray, str body] w fun e w' => e = .returned (.agg ({ k with fr := (P : Nat), to := (Q : Nat) } : Ky).cells.toArray) ∧ Below w.heap.size w w' := by
  have HK := Lib.hid hk
  have HT := Lib.hid (k.get_tail hk)
  have h4' : (4 : Int) ≤ (body.length : Int) := by omega
  have bP : P < 256 ^ 2 := by rw [← hP]; exact numF_bd _ _ _
  have bQ : Q < 256 ^ 2 := by rw [← hQ]; exact numF_bd _ _ _
  have HG1 : Hid (∀ W, Calls Try.prog 44 #[str body, .int .i64 0, .int .i64 2] W (fun e w' => e = .returned (.tuple #[.int .u64 (P : Nat), .bool true]) ∧ W = w')) := Lib.hid fun W => by
    have G := rget_yes body 0 2 W hn (by omega) (by omega) (by omega) (by omega)
    rw [← hP]; exact G
  have HG2 : Hid (∀ W, Calls Try.prog 44 #[str body, .int .i64 2, .int .i64 2] W (fun e w' => e = .returned (.tuple #[.int .u64 (Q : Nat), .bool true]) ∧ W = w')) := Lib.hid fun W => by
    have G := rget_yes body 2 2 W hn (by omega) (by omega) (by omega) (by omega)
    rw [← hQ]; exact G
  have hcase : k.pro = 6 ∨ ((k.pro == 6) = false ∧ k.pro = 17) := by
    simp only [beq_eq_false_iff_ne]
    omega
  have HS1 := Lib.hid (k.set34 hk (P : Nat))
  have hk2 : ({ k with fr := (P : Nat) } : Ky).ok := ⟨hk.src, hk.dst⟩
  have HS2 := Lib.hid (({ k with fr := (P : Nat) } : Ky).set35 hk2 (Q : Nat))
  have HK3 : Hid (({ k with fr := (P : Nat), to := (Q : Nat) } : Ky).ok) := Lib.hid ⟨hk.src, hk.dst⟩
  clear hx hk hP hQ hk2
  rcases hcase with p1 | ⟨p1, p3⟩
  all_goals
    go_enter Try.func26, Try.ntmps26
    go_wp2_with (first
      | (refine wpList_box_blk rfl 29 _ rfl k.cells rfl ?_; intro w1 hb1 hB1 hs1)
      | (refine wpList_alloc_blk rfl 29 rfl Ky.zero.cells zeroR ?_; intro w2 hb2 hB2 hs2; have hb12 := hb1.on hB2; have c33 : w2.cell? ⟨w.heap.size, 33, none⟩ = some (.int .u8 k.pro) := (hb12.cell 33).trans (HT.out 0); have hbe := hb2; rw [hs1] at hbe))
    refine (HG1.out _).mono ?_
    rintro e w' ⟨rfl, rfl⟩
    go_wp2_with fail
    refine (HG2.out _).mono ?_
    rintro e w' ⟨rfl, rfl⟩
    have c34 : w2.cell? ⟨w.heap.size, 34, none⟩ = some (.int .i64 k.fr) := (hb12.cell 34).trans (HT.out 1)
    have c35 : w2.cell? ⟨w.heap.size, 35, none⟩ = some (.int .i64 k.to) := (hb12.cell 35).trans (HT.out 2)
    have f34 := hb12.frozen 34
    have f35 := hb12.frozen 35
    have hs1' := (hb12.set 34 (.int .i64 (P : Nat))).set 35 (.int .i64 (Q : Nat))
    rw [HS1.out, HS2.out] at hs1'
    have HSB := Lib.hid hs1'
    have hfar := (hbe.far (p := ⟨w.heap.size, 34, none⟩) (by show w.heap.size + 1 ≠ w.heap.size; omega) (.int .i64 (P : Nat))).far (p := ⟨w.heap.size, 35, none⟩) (by show w.heap.size + 1 ≠ w.heap.size; omega) (.int .i64 (Q : Nat))
    have HFB := Lib.hid hfar
    have hB5 := ((bthen hB1 hB2).setCell (p := ⟨w.heap.size, 34, none⟩) (Nat.le_refl _) (.int .i64 (P : Nat))).setCell (p := ⟨w.heap.size, 35, none⟩) (Nat.le_refl _) (.int .i64 (Q : Nat))
    have HB5 := Lib.hid hB5
    have hsz2 : w.heap.size + 2 ≤ w2.heap.size := by omega
    clear hs1' hfar hB5 hb12 hbe hb1 hb2 hs1
    go_wp2_with (first
      | (refine wpList_load_blk rfl 29 _ rfl w.heap.size rfl 29 _ _ HSB.out Try.underlying29 rfl (sizeR _ HK3.out) ?_)
      | (refine wpList_store_all rfl 29 _ _ rfl (w.heap.size + 1) _ rfl rfl 29 _ HFB.out (sizeR _ HK3.out) (Ky.cells_same _ _ HK3.out Ky.zero_ok) (Ky.one _) ?_; intro w3 hb3 hg3 hs3))
    refine bodyPost_ret (results_cell1 rfl _ _ (w.heap.size + 1) _ _ _ rfl hb3 Try.underlying29 rfl (sizeR _ HK3.out)) rfl ?_
    exact ⟨rfl, bgrown HB5.out hg3 HB5.out.size (by omega)⟩
theorem ports_any (k : Ky) (hk : k.ok) (body : List UInt8) (w : World) (hn : body.length ≤ 1099511627776) :
    Calls Try.prog 26 #[.agg k.cells.toArray, str body] w fun e w' => e = .returned (.agg (portsF k body).cells.toArray) ∧ Below w.heap.size w w' := by
  by_cases hx : (k.pro = 6 ∨ k.pro = 17) ∧ 4 ≤ body.length
  · have e : portsF k body = { k with fr := (numF body 0 2 : Nat), to := (numF body 2 2 : Nat) } := by unfold portsF; rw [if_pos hx]
    rw [e]
    exact ports_yes k hk body w hn hx.1 hx.2 _ _ rfl rfl
  · have e : portsF k body = k := by unfold portsF; rw [if_neg hx]
    rw [e]
    exact ports_no k hk body w hn hx

/-- the labels of a stack, three bytes each -/
def label3 (n : Int) : List UInt8 := toBe 3 (n % 16777216).toNat
def labelsF (l : List Ent) : List UInt8 := l.flatMap fun x => label3 x.label
def hashF (k : Ky) (l : List Ent) : Nat := mixF (bytesF k ++ labelsF l)
theorem labelsF_snoc (l : List Ent) (x : Ent) : labelsF (l ++ [x]) = labelsF l ++ label3 x.label := by simp [labelsF]
theorem label3_length (n : Int) : (label3 n).length = 3 := toBe_length _ _
theorem labelsF_length (l : List Ent) : (labelsF l).length = 3 * l.length := by
  induction l with
  | nil => rfl
  | cons x l ih =>
    have h1 : labelsF (x :: l) = label3 x.label ++ labelsF l := rfl
    rw [h1, List.length_append, ih, label3_length, List.length_cons]
    omega
theorem label_bytes (n : Int) : [Value.int .u8 (n / 65536 % 256), .int .u8 (n / 256 % 256), .int .u8 (n % 256)] = bv (label3 n) := by
  unfold label3
  obtain ⟨m, hm⟩ : ∃ m : Nat, m = (n % 16777216).toNat := ⟨_, rfl⟩
  rw [← hm]
  have hb : m < 16777216 := by omega
  have e0 : toBe 3 m = [UInt8.ofNat (m / 256 / 256 % 256), UInt8.ofNat (m / 256 % 256), UInt8.ofNat (m % 256)] := by simp [toBe]
  rw [e0]
  have e1 : ((UInt8.ofNat (m / 256 / 256 % 256)).toNat : Int) = n / 65536 % 256 := by rw [UInt8.toNat_ofNat', Nat.mod_eq_of_lt (by omega)]; omega
  have e2 : ((UInt8.ofNat (m / 256 % 256)).toNat : Int) = n / 256 % 256 := by rw [UInt8.toNat_ofNat', Nat.mod_eq_of_lt (by omega)]; omega
  have e3 : ((UInt8.ofNat (m % 256)).toNat : Int) = n % 256 := by rw [UInt8.toNat_ofNat', Nat.mod_eq_of_lt (by omega)]; omega
  simp only [bv, List.map_cons, List.map_nil, e1, e2, e3]
theorem bytesF_le (k : Ky) (hk : k.ok) : (bytesF k).length ≤ 38 := by
  unfold bytesF
  rw [List.length_append, bytesT_length]
  have := bytesH_le k hk
  omega

set_option maxHeartbeats 4000000 in
theorem hash_any (k : Ky) (hk : k.fit) (A : Option Addr) (n c : Nat) (l : List Ent) (w : World) (hr : Row w w.heap.size 4 A n (evs l)) (hf : ∀ x ∈ l, -9223372036854775808 ≤ x.label ∧ x.label ≤ 9223372036854775807) (hn : n ≤ 1099511627) :
    Calls Try.prog 15 #[.agg k.cells.toArray, .slice A n c] w fun e w' => e = .returned (.int .u32 (hashF k l : Nat)) ∧ Below w.heap.size w w' := by
  have HK := Lib.hid hk
  have HR := Lib.hid hr
  have HF := Lib.hid hf
  have HL := Lib.hid (ent_len hr)
  have hbl := bytesF_le k hk.ok
  obtain ⟨BK, hBK⟩ : ∃ BK, BK = bytesF k := ⟨_, rfl⟩
  rw [← hBK] at hbl
  have HBK := Lib.hid hBK
  clear hk hr hf hBK
  go_enter Try.func15, Try.ntmps15
  go_wp2_with (first
    | (refine wpList_box_blk rfl 26 _ rfl k.cells rfl ?_; intro w1 hb1 hB1 hs1)
    | (refine wpList_load_blk rfl 26 _ rfl w.heap.size rfl 26 _ _ hb1 Try.underlying26 rfl (sizeK _ HK.out.ok) ?_))
  refine (bytes17_any k HK.out w1).mono ?_
  rintro e w2 ⟨A2, n2, c2, rfl, hown2, hb2⟩
  rw [← HBK.out] at hown2
  have hn2 : n2 ≤ 38 := by have := hown2.ok.len; simp only at this; omega
  have HN2 : Hid (BK.length = n2) := Lib.hid hown2.ok.len
  have HB2 := Lib.hid (bthen hB1 hb2)
  have HO2 := Lib.hid (hown2.mono hB1.size)
  clear hown2 hb2 hb1 hB1 hs1
  go_wp2_with fail
  go_loopw [5, 12] (fun o i wr => ∃ (j : Nat) (A3 : Option Addr) (c3 : Nat), j ≤ n ∧ o = .slice A3 (n2 + 3 * j) c3 ∧ i = .int .i64 (j : Nat) ∧ Own wr w.heap.size 5 1 A3 (n2 + 3 * j) c3 (bv (BK ++ labelsF (l.take j))) ∧ Below w.heap.size w wr) (fun _ i _ => n - (intOf i).toNat)
  case atStart => exact ⟨0, A2, c2, Nat.zero_le _, rfl, rfl, by simpa [labelsF] using HO2.out, HB2.out⟩
  case round =>
    obtain ⟨j, A3, c3, hj, rfl, rfl, hown, hb⟩ := hrel
    by_cases hlt : j < n
    · obtain ⟨x, hx⟩ : ∃ x, l[j]? = some x := ⟨_, List.getElem?_eq_getElem (by have := HL.out; omega)⟩
      obtain ⟨b, o, rfl, hb1, a0, a1, a2, a3⟩ := ent_row (HR.out.below hb) j x hx
      obtain ⟨x0, x1⟩ := HF.out x (List.mem_of_getElem? hx)
      have HS := Lib.hid (take_snoc l j x hx)
      have HLB := Lib.hid (label_bytes x.label)
      have HO := Lib.hid hown
      have HW := Lib.hid hb
      clear hx hown
      go_wp2_with (at_builtin; refine wpList_append_Own _ rfl _ _ 22 rfl w.heap.size 5 _ 1 1 Try.underlying22 infoByte rfl (by decide) A3 (n2 + 3 * j) c3 _ rfl ((HO.out.alloc _).alloc _) _ (some ⟨wr.heap.size + 1, 0, none⟩) 3 3 (bv (label3 x.label)) rfl (row_litN _ _ (label3 x.label) 3 _ (by rw [← HLB.out]) (label3_length _) (by simp)) (bv_one _) (by simp only [maxLen]; omega) (by omega) (by have := HW.out.size; simp; omega) ?_; intro A4 c4 w4 hown4 hg4 _)
      have hown5 : Own w4 w.heap.size 5 1 A4 (n2 + 3 * (j + 1)) c4 (bv (BK ++ labelsF (l.take (j + 1)))) := by
        rw [HS.out, labelsF_snoc, ← List.append_assoc, bv_append]
        exact hown4
      have hb4 : Below w.heap.size w w4 := ((HW.out.alloc HW.out.size _).alloc (by have := HW.out.size; simp; omega) _).grown hg4 (by have := HW.out.size; simp; omega) (fun g hgg => (HO.out.lt g hgg).1)
      clear hown4 hg4 a0 a1 a2 a3
      go_roundw
      case rel => exact ⟨j + 1, A4, c4, by omega, rfl, by go_num, hown5, hb4⟩
      case measure => simp [intOf]; omega
    · have : j = n := by omega
      subst this
      rw [List.take_of_length_le (by have := HL.out; omega)] at hown
      have HO := Lib.hid hown
      clear hown
      go_wp2_with fail
      refine (mix_any A3 _ c3 _ _ HO.out.row (by omega)).mono ?_
      rintro e w' ⟨rfl, rfl⟩
      go_wp2
      go_ret
      exact ⟨by rw [HBK.out]; rfl, hb⟩

set_option maxHeartbeats 4000000 in
theorem rhash_any (k : Ky) (hk : k.fit) (A : Option Addr) (n c : Nat) (l : List Ent) (w : World) (hr : Row w w.heap.size 4 A n (evs l)) (hf : ∀ x ∈ l, -9223372036854775808 ≤ x.label ∧ x.label ≤ 9223372036854775807) (hn : n ≤ 1099511627) :
    Calls Try.prog 16 #[.agg k.cells.toArray, .slice A n c] w fun e w' => e = .returned (.int .u32 (hashF k l : Nat)) ∧ Below w.heap.size w w' := by
  have HK := Lib.hid hk
  have HR := Lib.hid hr
  have HF := Lib.hid hf
  have HL := Lib.hid (ent_len hr)
  have hbl := bytesF_le k hk.ok
  obtain ⟨BK, hBK⟩ : ∃ BK, BK = bytesF k := ⟨_, rfl⟩
  rw [← hBK] at hbl
  have HBK := Lib.hid hBK
  clear hk hr hf hBK
  go_enter Try.func16, Try.ntmps16
  go_wp2_with (first
    | (refine wpList_box_blk rfl 29 _ rfl k.cells rfl ?_; intro w1 hb1 hB1 hs1)
    | (refine wpList_load_blk rfl 29 _ rfl w.heap.size rfl 29 _ _ hb1 Try.underlying29 rfl (sizeR _ HK.out.ok) ?_))
  refine (rbytes17_any k HK.out w1).mono ?_
  rintro e w2 ⟨rfl, hb2⟩
  rw [← HBK.out]
  have HB2 := Lib.hid (bthen hB1 hb2)
  clear hb2 hb1 hB1 hs1
  go_wp2_with fail
  go_loopw [5, 6] (fun o i wr => ∃ (j : Nat), j ≤ n ∧ o = str (BK ++ labelsF (l.take j)) ∧ i = .int .i64 (j : Nat) ∧ Below w.heap.size w wr) (fun _ i _ => n - (intOf i).toNat)
  case atStart => exact ⟨0, Nat.zero_le _, by simp [labelsF], rfl, HB2.out⟩
  case round =>
    obtain ⟨j, hj, rfl, rfl, hb⟩ := hrel
    by_cases hlt : j < n
    · obtain ⟨x, hx⟩ : ∃ x, l[j]? = some x := ⟨_, List.getElem?_eq_getElem (by have := HL.out; omega)⟩
      obtain ⟨b, o, rfl, hb1, a0, a1, a2, a3⟩ := ent_row (HR.out.below hb) j x hx
      obtain ⟨x0, x1⟩ := HF.out x (List.mem_of_getElem? hx)
      have HS := Lib.hid (take_snoc l j x hx)
      have HW := Lib.hid hb
      have hdone : (BK ++ labelsF (l.take j)).length ≤ 4000000000 := by rw [List.length_append, labelsF_length, List.length_take]; omega
      obtain ⟨D, hD⟩ : ∃ D, D = BK ++ labelsF (l.take j) := ⟨_, rfl⟩
      rw [← hD] at hdone
      rw [← hD]
      have HD := Lib.hid hD
      have hm : IntKind.u64.wrap x.label % 16777216 = x.label % 16777216 := by rw [IntKind.wrap_u64]; omega
      have hwn : 0 ≤ IntKind.u64.wrap x.label := by rw [IntKind.wrap_u64]; omega
      have hwl : IntKind.u64.wrap x.label ≤ 18446744073709551615 := by rw [IntKind.wrap_u64]; omega
      have m0 : 0 ≤ x.label % 16777216 := by omega
      have m1 : x.label % 16777216 < 16777216 := by omega
      obtain ⟨y, hy⟩ : ∃ y, y = x.label % 16777216 := ⟨_, rfl⟩
      rw [← hy] at hm m0 m1
      have HY := Lib.hid hy
      clear hx hD hy
      go_wp2_with fail
      refine (bytes_any y 3 _ m0 (by omega) (by omega) (by omega)).mono ?_
      rintro e w4 ⟨rfl, hb4⟩
      rw [show toBe (3 : Int).toNat y.toNat = label3 x.label by rw [HY.out]; rfl]
      have hll3 : (label3 x.label).length ≤ 3 := by rw [label3_length]; omega
      have hcat := ba_cat7 D (label3 x.label)
      clear a0 a1 a2 a3
      go_wp2_with fail
      go_roundw
      case rel =>
        refine ⟨j + 1, by omega, ?_, by go_num, bthen HW.out hb4⟩
        rw [HS.out, labelsF_snoc, ← List.append_assoc, ← HD.out]
      case measure => simp [intOf]; omega
    · have : j = n := by omega
      subst this
      rw [List.take_of_length_le (by have := HL.out; omega)]
      have hln : (BK ++ labelsF l).length ≤ 1099511627776 := by rw [List.length_append, labelsF_length, HL.out]; omega
      have HLN := Lib.hid hln
      clear hln
      go_wp2_with fail
      refine (rmix_any (BK ++ labelsF l) _ HLN.out).mono ?_
      rintro e w' ⟨rfl, rfl⟩
      go_wp2
      go_ret
      exact ⟨by rw [HBK.out]; rfl, hb⟩

end Go.Proofs.Ythjjcglheialfaa

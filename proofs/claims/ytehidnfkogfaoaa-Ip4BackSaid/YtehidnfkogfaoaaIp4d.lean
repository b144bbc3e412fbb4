/- What the program's Put of IPv4 computes. No condition but sizes. -/
import Derived.Test.YtehidnfkogfaoaaIp4c
namespace Go.Proofs.Ytehidnfkogfaoaa
open Go.RowKit
set_option linter.unusedVariables false
set_option linter.unusedSimpArgs false

/-- a header's numbers are those of its fields' kinds -/
structure H4.fit (h : H4) : Prop where
  ok : h.ok
  tos : 0 ≤ h.tos ∧ h.tos ≤ 255
  len : -9223372036854775808 ≤ h.len ∧ h.len ≤ 9223372036854775807
  id : 0 ≤ h.id ∧ h.id ≤ 65535
  off : -9223372036854775808 ≤ h.off ∧ h.off ≤ 9223372036854775807
  ttl : 0 ≤ h.ttl ∧ h.ttl ≤ 255
  pro : 0 ≤ h.pro ∧ h.pro ≤ 255
  opt : h.opt.length ≤ 9223372036854775807
/-- a header may not be put -/
def H4.bad (h : H4) : Prop := 40 < h.opt.length ∨ h.opt.length % 4 ≠ 0 ∨ h.off < 0 ∨ 8192 ≤ h.off
instance (h : H4) : Decidable h.bad := by unfold H4.bad; infer_instance
def flag4 (h : H4) : Int := h.off + (if h.keep then 16384 else 0) + (if h.more then 8192 else 0)
def word0 (h : H4) : Int := (64 + ((20 + h.opt.length : Nat) : Int) / 4) * 256 + h.tos
def word4 (h : H4) : Int := h.ttl * 256 + h.pro
/-- the header's bytes ahead of the checksum, and behind it -/
def hdA (h : H4) (all : Nat) : List UInt8 := twos [word0 h, (all : Int), h.id, flag4 h, word4 h]
def bk4 (h : H4) : List UInt8 := h.src ++ h.dst ++ h.opt
def sumC (h : H4) (all : Nat) : Nat := 65535 - rawN (hdA h all ++ bk4 h)
/-- a packet's header, and a packet -/
def head4 (h : H4) (all : Nat) : List UInt8 := hdA h all ++ toBe 2 (sumC h all) ++ bk4 h
def pkt4 (h : H4) (l : List UInt8) : List UInt8 := head4 h (20 + h.opt.length + l.length) ++ l
def put4 (h : H4) (l : List UInt8) : List UInt8 × Int :=
  if h.bad then ([], 1) else if 65535 < 20 + h.opt.length + l.length then ([], 13) else (pkt4 h l, 0)
theorem hdA_length (h : H4) (all : Nat) : (hdA h all).length = 10 := twos_length _
theorem bk4_length (h : H4) (hk : h.ok) : (bk4 h).length = 8 + h.opt.length := by simp only [bk4, List.length_append, hk.src, hk.dst]
theorem head4_length (h : H4) (hk : h.ok) (all : Nat) : (head4 h all).length = 20 + h.opt.length := by
  simp only [head4, List.length_append, hdA_length, toBe_length, bk4_length h hk]; omega
theorem pkt4_length (h : H4) (hk : h.ok) (l : List UInt8) : (pkt4 h l).length = 20 + h.opt.length + l.length := by
  simp only [pkt4, List.length_append, head4_length h hk]
theorem raw_mid (X Y : List UInt8) (hX : X.length % 2 = 0) : rawN (X ++ [0, 0] ++ Y) = rawN (X ++ Y) := by
  unfold rawN
  rw [sumB_append, sumB_append, sumB_append, sumB_zeros]
  unfold oddB
  simp [hX]

theorem head4_cut (X T Y : List UInt8) (hX : X.length = 10) : (X ++ [0, 0] ++ Y).take 10 ++ T ++ (X ++ [0, 0] ++ Y).drop (10 + 2) = X ++ T ++ Y := by
  rw [List.append_assoc X, List.take_left' hX, ← List.drop_drop, List.drop_left' hX]
  rfl
theorem or_64 (q : Int) (h0 : 0 ≤ q) (h1 : q ≤ 63) : bits .or .i64 64 q = 64 + q := by
  obtain ⟨q, rfl⟩ := Int.eq_ofNat_of_zero_le h0
  have := i64_or_nat 64 q (by omega) (by omega)
  rw [nat_join 6 64 q (by omega) (by omega)] at this
  rw [show (64 : Int) = ((64 : Nat) : Int) from rfl, this]
  omega
theorem or_byte (a b : Int) (h0 : 0 ≤ a) (h1 : a ≤ 65535) (h2 : 0 ≤ b) (h3 : b ≤ 255) : bits .or .i64 (a * 256) b = a * 256 + b := by
  obtain ⟨a, rfl⟩ := Int.eq_ofNat_of_zero_le h0
  obtain ⟨b, rfl⟩ := Int.eq_ofNat_of_zero_le h2
  have := i64_or_nat (a * 256) b (by omega) (by omega)
  rw [nat_join 8 _ _ (by omega) (by omega)] at this
  rw [show (a : Int) * 256 = ((a * 256 : Nat) : Int) by omega, this]
  omega
theorem or_keep (q : Int) (h0 : 0 ≤ q) (h1 : q < 8192) : bits .or .i64 q 16384 = q + 16384 := by
  obtain ⟨q, rfl⟩ := Int.eq_ofNat_of_zero_le h0
  have := i64_or_nat q 16384 (by omega) (by omega)
  rw [Nat.or_comm, nat_join 14 16384 q (by omega) (by omega)] at this
  rw [show (16384 : Int) = ((16384 : Nat) : Int) from rfl, this]
  omega
theorem or_more (q : Int) (h0 : 0 ≤ q) (h1 : q < 8192) : bits .or .i64 q 8192 = q + 8192 := by
  obtain ⟨q, rfl⟩ := Int.eq_ofNat_of_zero_le h0
  have := i64_or_nat q 8192 (by omega) (by omega)
  rw [Nat.or_comm, nat_join 13 8192 q (by omega) (by omega)] at this
  rw [show (8192 : Int) = ((8192 : Nat) : Int) from rfl, this]
  omega
theorem or_both (q : Int) (h0 : 0 ≤ q) (h1 : q < 8192) : bits .or .i64 (q + 16384) 8192 = q + 16384 + 8192 := by
  obtain ⟨q, rfl⟩ := Int.eq_ofNat_of_zero_le h0
  have h := i64_or_nat (q + 16384) 8192 (by omega) (by omega)
  have e : (q + 16384) ||| 8192 = q + 16384 + 8192 := by
    have h1 := nat_join 14 16384 q (by omega) (by omega)
    have h2 := nat_join 13 8192 q (by omega) (by omega)
    rw [show q + 16384 = 16384 + q by omega, ← h1, Nat.or_assoc, Nat.or_comm q 8192, h2, nat_join 14 16384 (8192 + q) (by omega) (by omega)]
    omega
  rw [e] at h
  rw [show ((q : Int) + 16384) = ((q + 16384 : Nat) : Int) by omega, show (8192 : Int) = ((8192 : Nat) : Int) from rfl, h]
  omega

set_option maxHeartbeats 1000000 in
theorem put4_arg (h : H4) (hf : h.fit) (A : Option Addr) (n c : Nat) (w : World) (hn : n ≤ 1099511627776) (hx : h.bad) :
    Calls Try.prog 14 #[.agg h.cells.toArray, .slice A n c] w fun e w' => e = .returned (.tuple #[.slice none 0 0, .int .i64 1]) ∧ Below w.heap.size w w' := by
  have HK := Lib.hid hf.ok
  have HOPT := Lib.hid (h.get_opt hf.ok)
  have hcase : (40 < (h.opt.length : Int)) ∨ (¬ (40 < (h.opt.length : Int)) ∧ ((h.opt.length : Int) % 4 != 0) = true) ∨ (¬ (40 < (h.opt.length : Int)) ∧ ((h.opt.length : Int) % 4 != 0) = false ∧ h.off < 0) ∨ (¬ (40 < (h.opt.length : Int)) ∧ ((h.opt.length : Int) % 4 != 0) = false ∧ ¬ h.off < 0 ∧ 8192 ≤ h.off) := by
    simp only [bne_iff_ne, bne_eq_false_iff_eq]
    unfold H4.bad at hx
    omega
  clear hx hf
  rcases hcase with k1 | ⟨k1, k2⟩ | ⟨k1, k2, k3⟩ | ⟨k1, k2, k3, k4⟩
  all_goals
    go_enter Try.func14, Try.ntmps14
    go_wp2_with (first
    | (refine wpList_box_blk rfl 27 _ rfl h.cells rfl ?_; intro w1 hb1 hB1 hs1; have c16 : w1.cell? ⟨w.heap.size, 16, none⟩ = some (str h.opt) := (hb1.cell 16).trans HOPT.out; have c5 : w1.cell? ⟨w.heap.size, 5, none⟩ = some (.int .i64 h.off) := hb1.cell 5)
    | (refine wpList_load_blk rfl 27 _ rfl w.heap.size rfl 27 _ _ hb1 Try.underlying27 rfl (size4 _ HK.out) ?_))
    refine (size4_wrap h HK.out _).mono ?_
    rintro e w2 ⟨rfl, hb2⟩
    have hbx2 := hb1.on hb2
    have hB2 := bthen hB1 hb2
    have c16' : w2.cell? ⟨w.heap.size, 16, none⟩ = some (str h.opt) := (hbx2.cell 16).trans HOPT.out
    have c5' : w2.cell? ⟨w.heap.size, 5, none⟩ = some (.int .i64 h.off) := hbx2.cell 5
    clear hb1 hB1 hb2 c16 c5
    go_wp2_with fail
    go_ret2
    exact ⟨rfl, hB2⟩

set_option maxHeartbeats 1000000 in
theorem put4_len (h : H4) (hf : h.fit) (A : Option Addr) (n c : Nat) (w : World) (hn : n ≤ 1099511627776) (hx : ¬ h.bad) (hl : 65535 < 20 + h.opt.length + n) :
    Calls Try.prog 14 #[.agg h.cells.toArray, .slice A n c] w fun e w' => e = .returned (.tuple #[.slice none 0 0, .int .i64 13]) ∧ Below w.heap.size w w' := by
  have HK := Lib.hid hf.ok
  have HOPT := Lib.hid (h.get_opt hf.ok)
  unfold H4.bad at hx
  have hfo : h.opt.length ≤ 1099511627776 := by omega
  have k1 : ¬ (40 < (h.opt.length : Int)) := by omega
  have k2 : ((h.opt.length : Int) % 4 != 0) = false := by rw [bne_eq_false_iff_eq]; omega
  have k3 : ¬ h.off < 0 := by omega
  have k4 : ¬ 8192 ≤ h.off := by omega
  have k5 : (65535 : Int) < 20 + (h.opt.length : Int) + n := by omega
  clear hx hf
  go_enter Try.func14, Try.ntmps14
  go_wp2_with (first
    | (refine wpList_box_blk rfl 27 _ rfl h.cells rfl ?_; intro w1 hb1 hB1 hs1; have c16 : w1.cell? ⟨w.heap.size, 16, none⟩ = some (str h.opt) := (hb1.cell 16).trans HOPT.out; have c5 : w1.cell? ⟨w.heap.size, 5, none⟩ = some (.int .i64 h.off) := hb1.cell 5)
    | (refine wpList_load_blk rfl 27 _ rfl w.heap.size rfl 27 _ _ hb1 Try.underlying27 rfl (size4 _ HK.out) ?_))
  refine (size4_any h HK.out _ hfo).mono ?_
  rintro e w2 ⟨rfl, hb2⟩
  have hbx2 := hb1.on hb2
  have hB2 := bthen hB1 hb2
  have c16' : w2.cell? ⟨w.heap.size, 16, none⟩ = some (str h.opt) := (hbx2.cell 16).trans HOPT.out
  have c5' : w2.cell? ⟨w.heap.size, 5, none⟩ = some (.int .i64 h.off) := hbx2.cell 5
  clear hb1 hB1 hb2 c16 c5
  go_wp2_with fail
  go_ret2
  exact ⟨rfl, hB2⟩

set_option maxHeartbeats 4000000 in
theorem put4_ok (h : H4) (hf : h.fit) (A : Option Addr) (n c : Nat) (l : List UInt8) (w : World) (hr : Row w w.heap.size 1 A n (bv l)) (hc : n ≤ c) (hcm : c ≤ maxLen) (hx : ¬ h.bad) (all : Nat) (hall : 20 + h.opt.length + n = all) (hl : all ≤ 65535) (kb mb : Bool) (hkb : h.keep = kb) (hmb : h.more = mb) :
    Calls Try.prog 14 #[.agg h.cells.toArray, .slice A n c] w fun e w' => ∃ r : Bs, e = .returned (.tuple #[r.v, .int .i64 0]) ∧ r.l = head4 h all ++ l ∧ Own w' w.heap.size 5 1 r.A r.n r.c (bv r.l) ∧ Below w.heap.size w w' := by
  have HK := Lib.hid hf.ok
  have HOPT := Lib.hid (h.get_opt hf.ok)
  unfold H4.bad at hx
  have hfo : h.opt.length ≤ 1099511627776 := by omega
  obtain ⟨t0, t1⟩ := hf.tos
  obtain ⟨d0, d1⟩ := hf.id
  obtain ⟨l0, l1⟩ := hf.ttl
  obtain ⟨p0, p1⟩ := hf.pro
  have k1 : ¬ (40 < (h.opt.length : Int)) := by omega
  have k2 : ((h.opt.length : Int) % 4 != 0) = false := by rw [bne_eq_false_iff_eq]; omega
  have k3 : ¬ h.off < 0 := by omega
  have k4 : ¬ 8192 ≤ h.off := by omega
  have k5 : ¬ (65535 : Int) < (all : Int) := by omega
  have h40 : h.opt.length ≤ 40 := by omega
  have o1 := or_64 (((20 + h.opt.length : Nat) : Int) / 4) (by omega) (by omega)
  have o2 := or_byte (64 + ((20 + h.opt.length : Nat) : Int) / 4) h.tos (by omega) (by omega) t0 t1
  have o3 := or_byte h.ttl h.pro l0 (by omega) p0 p1
  have HX0 := Lib.hid (show word0 h = (64 + ((20 + h.opt.length : Nat) : Int) / 4) * 256 + h.tos from rfl)
  have HX4 := Lib.hid (show word4 h = h.ttl * 256 + h.pro from rfl)
  have HFL : Hid (flag4 h = h.off + (if kb then 16384 else 0) + (if mb then 8192 else 0)) := Lib.hid (by unfold flag4; rw [hkb, hmb])
  have b0 : 0 ≤ word0 h ∧ word0 h ≤ 65535 := by rw [HX0.out]; omega
  have b4 : 0 ≤ word4 h ∧ word4 h ≤ 65535 := by rw [HX4.out]; omega
  have bf : 0 ≤ flag4 h ∧ flag4 h ≤ 65535 := by rw [HFL.out]; split <;> split <;> omega
  obtain ⟨Cs, hCs⟩ : ∃ Cs, Cs = sumC h all := ⟨_, rfl⟩
  have bs : Cs ≤ 65535 := by rw [hCs]; unfold sumC; omega
  have HCs := Lib.hid hCs
  clear hCs
  have ok1 := or_keep h.off (by omega) (by omega)
  have ok2 := or_more h.off (by omega) (by omega)
  have ok3 := or_both h.off (by omega) (by omega)
  have HR := Lib.hid hr
  have HLL : Hid (l.length = n) := Lib.hid (by have := hr.1; rw [bv_length] at this; omega)
  obtain ⟨S, hS⟩ : ∃ S, 20 + h.opt.length = S := ⟨_, rfl⟩
  have hSa : S + n = all := by omega
  have HS := Lib.hid hS
  have HKB := Lib.hid hkb
  have HMB := Lib.hid hmb
  have hSz : 20 + (h.opt.length : Int) = (S : Int) := by omega
  have HSz := Lib.hid hSz
  have hSA : (S : Int) + (n : Int) = (all : Int) := by omega
  rw [hS] at o1 o2 HX0
  clear hx hf hr hkb hmb hS hall hSz hSa
  cases kb <;> cases mb
  all_goals
    go_enter Try.func14, Try.ntmps14
    go_wp2_with (first
    | (refine wpList_box_blk rfl 27 _ rfl h.cells rfl ?_; intro w1 hb1 hB1 hs1; have c16 : w1.cell? ⟨w.heap.size, 16, none⟩ = some (str h.opt) := (hb1.cell 16).trans HOPT.out; have c5 : w1.cell? ⟨w.heap.size, 5, none⟩ = some (.int .i64 h.off) := hb1.cell 5)
    | (refine wpList_load_blk rfl 27 _ rfl w.heap.size rfl 27 _ _ hb1 Try.underlying27 rfl (size4 _ HK.out) ?_))
    refine (size4_any h HK.out _ hfo).mono ?_
    rintro e w2 ⟨rfl, hb2⟩
    have hbx2 := hb1.on hb2
    have hB2 := bthen hB1 hb2
    have c16' : w2.cell? ⟨w.heap.size, 16, none⟩ = some (str h.opt) := (hbx2.cell 16).trans HOPT.out
    have c5' : w2.cell? ⟨w.heap.size, 5, none⟩ = some (.int .i64 h.off) := hbx2.cell 5
    clear hb1 hB1 hb2 c16 c5
    have c3' : w2.cell? ⟨w.heap.size, 3, none⟩ = some (.bool h.keep) := hbx2.cell 3
    rw [HKB.out] at c3'
    have c4' : w2.cell? ⟨w.heap.size, 4, none⟩ = some (.bool h.more) := hbx2.cell 4
    rw [HMB.out] at c4'
    have c0' : w2.cell? ⟨w.heap.size, 0, none⟩ = some (.int .u8 h.tos) := hbx2.cell 0
    have c2' : w2.cell? ⟨w.heap.size, 2, none⟩ = some (.int .u16 h.id) := hbx2.cell 2
    have c6' : w2.cell? ⟨w.heap.size, 6, none⟩ = some (.int .u8 h.ttl) := hbx2.cell 6
    have c7' : w2.cell? ⟨w.heap.size, 7, none⟩ = some (.int .u8 h.pro) := hbx2.cell 7
    rw [HSz.out]
    have HX2 := Lib.hid hbx2
    clear hbx2 hs1
    go_wp2_with fail
    refine (puts4_any _ 6 6 [word0 h, (all : Int), h.id, flag4 h, word4 h, 0] _ (row_ints w2 _ [word0 h, (all : Int), h.id, flag4 h, word4 h, 0] 6 _ (by simp [HX0.out, HX4.out, HFL.out]) rfl rfl) ?_ (by omega)).mono ?_
    · intro x hx
      simp only [List.mem_cons, List.not_mem_nil, or_false] at hx
      rcases hx with rfl | rfl | rfl | rfl | rfl | rfl
      · exact b0
      · omega
      · exact ⟨d0, d1⟩
      · exact bf
      · exact b4
      · omega
    rintro e w3 ⟨A3, n3, c3, rfl, hn3, hown3, hb3⟩
    obtain rfl : n3 = 12 := hn3
    rw [show twos [word0 h, (all : Int), h.id, flag4 h, word4 h, 0] = hdA h all ++ [0, 0] from twos_snoc [word0 h, (all : Int), h.id, flag4 h, word4 h] 0] at hown3
    have hB3 := bthen hB2 (ballocd hb3)
    have hX3 := (HX2.out.alloc _).on hb3
    have HO3 := Lib.hid hown3.ok
    have HX3 := Lib.hid hX3
    have HS3 : Hid ((Bs.mk (some ⟨w.heap.size, 8, none⟩) 4 4 h.src).ok w3) := by
      have := hX3.row 1 8 4 (by rw [h.cells_length HK.out]; omega)
      rw [show 4 * 1 = 4 from rfl, h.drop_src HK.out] at this
      exact Lib.hid ⟨this, Nat.le_refl _, by simp [maxLen]⟩
    have HD3 : Hid ((Bs.mk (some ⟨w.heap.size, 12, none⟩) 4 4 h.dst).ok w3) := by
      have := hX3.row 1 12 4 (by rw [h.cells_length HK.out]; omega)
      rw [show 4 * 1 = 4 from rfl, h.drop_dst HK.out] at this
      exact Lib.hid ⟨this, Nat.le_refl _, by simp [maxLen]⟩
    have HB3 := Lib.hid hB3
    clear hown3 hb3 hB3 hX3 hB2 c16' c5' c3' c4' c0' c2' c6' c7'
    go_wp2_with fail
    refine wp_region_rel (fun A B => A.grownBy B none) (fun A => grown_refl A _) (fun A B C h k => grown_trans h k) (relAt (List.cons (fun v _ => v = .slice A3 12 c3) (List.cons (fun v _ => v = .pointer (some ⟨w.heap.size, 8, none⟩)) (List.cons (fun v _ => v = .slice (some ⟨w.heap.size, 8, none⟩) 4 4) (List.cons (fun v _ => v = .pointer (some ⟨w.heap.size, 12, none⟩)) (List.cons (fun v _ => v = .slice (some ⟨w.heap.size, 12, none⟩) 4 4) (List.cons (fun v _ => v = .pointer (some ⟨w.heap.size, 16, none⟩)) (List.cons (fun v _ => v = str h.opt) (List.cons (fun v W => ∃ A5 c5, v = .slice A5 h.opt.length c5 ∧ (Bs.mk A5 h.opt.length c5 h.opt).ok W) (List.cons (RowsR [hdA h all ++ [0, 0], h.src, h.dst, h.opt]) (List.cons (OwnB w3.heap.size S (hdA h all ++ [0, 0] ++ bk4 h)) (List.cons (OwnB w3.heap.size S (hdA h all ++ [0, 0] ++ bk4 h)) ([]))))))))))))) (MonoL.at_ (.cons (mono_val _) (.cons (mono_val _) (.cons (mono_val _) (.cons (mono_val _) (.cons (mono_val _) (.cons (mono_val _) (.cons (mono_val _) (.cons (fun _ _ _ ⟨A, c, hv, ho⟩ hg => ⟨A, c, hv, ho.below (grow_below hg)⟩) (.cons (mono_rows _) (.cons (mono_ownB _ _ _) (.cons (mono_ownB _ _ _) .nil)))))))))))) (by kernel_rfl) (by kernel_rfl) ⟨?_, ?_, ?_, ?_, ?_, ?_, ?_, ?_, ?_, ?_, ?_, trivial⟩ ?_
    · intro a vs W hX hR he hf K hK
      rw [if_pos (wanted_none rfl)]
      have e9 : a.eval (.tmp 9) = .slice A3 12 c3 := hf 9 (by kernel_rfl)
      refine wp_value (v := .slice A3 12 c3) ?_ (hK _ _ rfl (grown_refl W _))
      simp only [execOp, e9]
      try go_simp
      try (first | rfl | omega | (simp only [IntKind.wrap_i64, IntKind.wrap_u8, IntKind.wrap_u64, IntKind.wrap_u16, IntKind.wrap_u32]; omega) | (rw [Int.tmod_eq_emod_of_nonneg (by omega)]) | (rw [Int.tmod_eq_emod_of_nonneg (by omega)]; omega))
    · intro a vs W hX hR he hf K hK
      rw [if_pos (wanted_none rfl)]
      have e2 : a.eval (.tmp 2) = .pointer (some ⟨w.heap.size, 0, none⟩) := hf 2 (by kernel_rfl)
      refine wp_value (v := .pointer (some ⟨w.heap.size, 8, none⟩)) ?_ (hK _ _ rfl (grown_refl W _))
      simp only [execOp, e2]
      try go_simp
      try (first | rfl | omega | (simp only [IntKind.wrap_i64, IntKind.wrap_u8, IntKind.wrap_u64, IntKind.wrap_u16, IntKind.wrap_u32]; omega) | (rw [Int.tmod_eq_emod_of_nonneg (by omega)]) | (rw [Int.tmod_eq_emod_of_nonneg (by omega)]; omega))
    · intro a vs W hX hR he hf K hK
      rw [if_pos (wanted_none rfl)]
      have e75 : a.eval (.tmp 75) = .pointer (some ⟨w.heap.size, 8, none⟩) := (he 1 75 (by kernel_rfl) rfl).trans (hR 1 (by kernel_rfl))
      have f75 := e75
      simp only [Act.eval, Array.getD_eq_getD_getElem?] at f75
      refine wp_value (v := _) ?_ (hK _ _ rfl (grown_refl W _))
      simp only [execOp, e75]
      go_simp
    · intro a vs W hX hR he hf K hK
      rw [if_pos (wanted_none rfl)]
      have e2 : a.eval (.tmp 2) = .pointer (some ⟨w.heap.size, 0, none⟩) := hf 2 (by kernel_rfl)
      refine wp_value (v := .pointer (some ⟨w.heap.size, 12, none⟩)) ?_ (hK _ _ rfl (grown_refl W _))
      simp only [execOp, e2]
      try go_simp
      try (first | rfl | omega | (simp only [IntKind.wrap_i64, IntKind.wrap_u8, IntKind.wrap_u64, IntKind.wrap_u16, IntKind.wrap_u32]; omega) | (rw [Int.tmod_eq_emod_of_nonneg (by omega)]) | (rw [Int.tmod_eq_emod_of_nonneg (by omega)]; omega))
    · intro a vs W hX hR he hf K hK
      rw [if_pos (wanted_none rfl)]
      have e77 : a.eval (.tmp 77) = .pointer (some ⟨w.heap.size, 12, none⟩) := (he 3 77 (by kernel_rfl) rfl).trans (hR 3 (by kernel_rfl))
      have f77 := e77
      simp only [Act.eval, Array.getD_eq_getD_getElem?] at f77
      refine wp_value (v := _) ?_ (hK _ _ rfl (grown_refl W _))
      simp only [execOp, e77]
      go_simp
    · intro a vs W hX hR he hf K hK
      rw [if_pos (wanted_none rfl)]
      have e2 : a.eval (.tmp 2) = .pointer (some ⟨w.heap.size, 0, none⟩) := hf 2 (by kernel_rfl)
      refine wp_value (v := .pointer (some ⟨w.heap.size, 16, none⟩)) ?_ (hK _ _ rfl (grown_refl W _))
      simp only [execOp, e2]
      try go_simp
      try (first | rfl | omega | (simp only [IntKind.wrap_i64, IntKind.wrap_u8, IntKind.wrap_u64, IntKind.wrap_u16, IntKind.wrap_u32]; omega) | (rw [Int.tmod_eq_emod_of_nonneg (by omega)]) | (rw [Int.tmod_eq_emod_of_nonneg (by omega)]; omega))
    · intro a vs W hX hR he hf K hK
      rw [if_pos (wanted_none rfl)]
      have e79 : a.eval (.tmp 79) = .pointer (some ⟨w.heap.size, 16, none⟩) := (he 5 79 (by kernel_rfl) rfl).trans (hR 5 (by kernel_rfl))
      have hbW := bthen (below_drew _) (grow_below hX)
      have hc : W.cell? ⟨w.heap.size, 16, none⟩ = some (str h.opt) := ((HX3.out.on hbW).cell 16).trans HOPT.out
      refine wp_value (v := _) ?_ (hK _ _ rfl (grown_refl W _))
      simp only [execOp, e79]
      try go_simp
    · intro a vs W hX hR he hf K hK
      rw [if_pos (wanted_none rfl)]
      have e80 : a.eval (.tmp 80) = str h.opt := (he 6 80 (by kernel_rfl) rfl).trans (hR 6 (by kernel_rfl))
      refine wp_toBytes (.tmp 80) 9 22 5 rfl Try.underlying22 Try.underlying5 Try.underlying9 h.opt e80 (by simp only [maxLen]; omega) ?_
      intro A5 c5 w' ho hb
      exact hK _ _ ⟨A5, c5, rfl, ho⟩ (below_grow hb _)
    · intro a vs W hX hR he hf K hK
      rw [if_pos (wanted_none rfl)]
      have e74 : a.eval (.tmp 74) = .slice A3 12 c3 := (he 0 74 (by kernel_rfl) rfl).trans (hR 0 (by kernel_rfl))
      have e76 : a.eval (.tmp 76) = .slice (some ⟨w.heap.size, 8, none⟩) 4 4 := (he 2 76 (by kernel_rfl) rfl).trans (hR 2 (by kernel_rfl))
      have e78 : a.eval (.tmp 78) = .slice (some ⟨w.heap.size, 12, none⟩) 4 4 := (he 4 78 (by kernel_rfl) rfl).trans (hR 4 (by kernel_rfl))
      have e81 := he 7 81 (by kernel_rfl) rfl
      have p81 := hR 7 (by kernel_rfl)
      change (fun v W => ∃ A5 c5, v = .slice A5 h.opt.length c5 ∧ (Bs.mk A5 h.opt.length c5 h.opt).ok W) (vs 7) W at p81
      have f74 := e74
      simp only [Act.eval, Array.getD_eq_getD_getElem?] at f74
      have f76 := e76
      simp only [Act.eval, Array.getD_eq_getD_getElem?] at f76
      have f78 := e78
      simp only [Act.eval, Array.getD_eq_getD_getElem?] at f78
      have f81 := e81
      simp only [Act.eval, Array.getD_eq_getD_getElem?] at f81
      obtain ⟨A5, c5, hv5, ho5⟩ := p81
      rw [hv5] at e81
      have f81 := e81
      simp only [Act.eval, Array.getD_eq_getD_getElem?] at f81
      have hbW := bthen (below_drew _) (grow_below hX)
      refine wp_value (v := .slice (some ⟨W.heap.size, 0, none⟩) 4 4) (w' := W.alloc (.cells #[.slice A3 12 c3, .slice (some ⟨w.heap.size, 8, none⟩) 4 4, .slice (some ⟨w.heap.size, 12, none⟩) 4 4, .slice A5 h.opt.length c5] 22)) ?_ (hK _ _ ⟨[⟨A3, 12, c3, hdA h all ++ [0, 0]⟩, ⟨some ⟨w.heap.size, 8, none⟩, 4, 4, h.src⟩, ⟨some ⟨w.heap.size, 12, none⟩, 4, 4, h.dst⟩, ⟨A5, h.opt.length, c5, h.opt⟩], _, _, _, rfl, rfl, ?_, ?_⟩ (World.grownBy_alloc _ _ _))
      · simp only [execOp]
        go_simp
      · rw [World.size_alloc]
        exact Row.new (n := 4) (sz := 1) W _ rfl
      · have k := fun r (hr : Bs.ok W r) => hr.below (alloc_below W (.cells #[.slice A3 12 c3, .slice (some ⟨w.heap.size, 8, none⟩) 4 4, .slice (some ⟨w.heap.size, 12, none⟩) 4 4, .slice A5 h.opt.length c5] 22))
        simp only [List.mem_cons, List.not_mem_nil, or_false]
        rintro r (rfl | rfl | rfl | rfl)
        · exact k _ (HO3.out.below hbW)
        · exact k _ (HS3.out.below hbW)
        · exact k _ (HD3.out.below hbW)
        · exact k _ ho5
    · intro a vs W hX hR he hf K hK
      rw [if_pos (wanted_none rfl)]
      have e82 := he 8 82 (by kernel_rfl) rfl
      have p82 := hR 8 (by kernel_rfl)
      change (RowsR [hdA h all ++ [0, 0], h.src, h.dst, h.opt]) (vs 8) W at p82
      obtain ⟨rows, R, k, c', hv, hl, hr, ho⟩ := p82
      rw [hv] at e82
      have hfl : flat rows = hdA h all ++ [0, 0] ++ bk4 h := by rw [flat_map, hl]; simp [bk4]
      have hln : (hdA h all ++ [0, 0] ++ bk4 h).length = S := by simp only [List.length_append, hdA_length, bk4_length h HK.out, List.length_cons, List.length_nil]; have := HS.out; omega
      have hlb := lenV_bs rows ho
      have hk4 : k ≤ 4 := by have h1 := hr.1; rw [List.length_map] at h1; have h2 := congrArg List.length hl; simp at h2; omega
      refine wp_enter (f := 27) (args := #[.slice R k c']) (by simp only [execOp, e82]; go_simp; simpa [Act.eval] using e82) ((concat_bytes R k c' (rows.map Bs.sl) W (by rw [vs_bs]; exact hr) (fun r hx => by obtain ⟨x, hx2, rfl⟩ := List.mem_map.1 hx; exact (ho x hx2).sl) (by omega) (by rw [hlb, hfl, hln]; omega)).mono ?_)
      rintro e w' ⟨A', cc, rfl, hown, hb⟩
      rw [flatV_bs, hfl, hlb, hfl, hln] at hown
      exact ⟨_, rfl, hK _ _ ⟨A', cc, by rw [hlb, hfl, hln], hown.mono (grow_below hX).size⟩ (below_grow hb _)⟩
    · intro a vs W hX hR he hf K hK
      rw [if_pos (wanted_none rfl)]
      have e83 := he 9 83 (by kernel_rfl) rfl
      have p83 := hR 9 (by kernel_rfl)
      change (OwnB w3.heap.size S (hdA h all ++ [0, 0] ++ bk4 h)) (vs 9) W at p83
      refine wp_value (v := _) ?_ (hK _ _ p83 (grown_refl W _))
      simp only [execOp, e83]
      try go_simp
    · intro vs w4 hX4 hR
      have q0 := hR 0 (by decide)
      have q1 := hR 1 (by decide)
      have q2 := hR 2 (by decide)
      have q3 := hR 3 (by decide)
      have q4 := hR 4 (by decide)
      have q5 := hR 5 (by decide)
      have q6 := hR 6 (by decide)
      have q7 := hR 7 (by decide)
      have q8 := hR 8 (by decide)
      have q9 := hR 9 (by decide)
      have q10 := hR 10 (by decide)
      change vs 0 = .slice A3 12 c3 at q0
      change vs 1 = .pointer (some ⟨w.heap.size, 8, none⟩) at q1
      change vs 2 = .slice (some ⟨w.heap.size, 8, none⟩) 4 4 at q2
      change vs 3 = .pointer (some ⟨w.heap.size, 12, none⟩) at q3
      change vs 4 = .slice (some ⟨w.heap.size, 12, none⟩) 4 4 at q4
      change vs 5 = .pointer (some ⟨w.heap.size, 16, none⟩) at q5
      change vs 6 = str h.opt at q6
      change (fun v W => ∃ A5 c5, v = .slice A5 h.opt.length c5 ∧ (Bs.mk A5 h.opt.length c5 h.opt).ok W) (vs 7) w4 at q7
      change (RowsR [hdA h all ++ [0, 0], h.src, h.dst, h.opt]) (vs 8) w4 at q8
      change (OwnB w3.heap.size S (hdA h all ++ [0, 0] ++ bk4 h)) (vs 9) w4 at q9
      change (OwnB w3.heap.size S (hdA h all ++ [0, 0] ++ bk4 h)) (vs 10) w4 at q10
      simp only [putAll, Act.put, List.setIfInBounds_toArray, List.set_cons_zero, List.set_cons_succ, q0, q1, q2, q3, q4, q5, q6]
      clear q0 q1 q2 q3 q4 q5 q6
      clear hR
      obtain ⟨A4, c4, hv, hown4⟩ := q10
      rw [hv]
      have hB4 := bthen HB3.out (bthen (below_drew _) (grow_below hX4))
      have hS20 : 20 ≤ S := by have := HS.out; omega
      obtain ⟨g, rfl, hg1, hg2, _, _⟩ := hown4.open_ (by omega)
      have hgw : w.heap.size ≤ g := by have := HB3.out.size; omega
      have hown5 := hown4.mono HB3.out.size
      have hc4 := hown4.le
      have HO4 := Lib.hid hown5
      clear hv hX4 q7 q8 q9 hown4 hown5
      have kc : ¬ c4 = 10 := by omega
      have kc2 : (10 : Int) ≤ (S : Int) := by omega
      have kc3 : (S : Int) ≤ (c4 : Int) := by omega
      go_wp2_with fail
      refine wp_region_last 8 (fun A B => A.grownBy B none) (fun A => grown_refl A _) (fun A B C h k => grown_trans h k) (relAt (List.cons (fun v _ => v = .slice (some ⟨g, 0, none⟩) S c4) (List.cons (fun v _ => v = .slice (some ⟨g, 10, none⟩) (S - 10) (c4 - 10)) (List.cons (fun v _ => v = .slice (some ⟨g, 0, none⟩) S c4) (List.cons (RowsR [hdA h all ++ [0, 0] ++ bk4 h]) (List.cons (fun v _ => v = .int .u16 (Cs : Int)) (List.cons (fun v _ => v = .int .i64 (Cs : Int)) (List.cons (IntsR w4.heap.size 1 [(Cs : Int)]) (List.cons (OwnB w4.heap.size 2 (toBe 2 Cs)) ([])))))))))) (MonoL.at_ (.cons (mono_val _) (.cons (mono_val _) (.cons (mono_val _) (.cons (mono_rows _) (.cons (mono_val _) (.cons (mono_val _) (.cons (mono_ints _ _ _) (.cons (mono_ownB _ _ _) .nil))))))))) (by kernel_rfl) (by kernel_rfl) rfl (by kernel_rfl) _ rfl rfl ⟨?_, ?_, ?_, ?_, ?_, ?_, ?_, ?_, trivial⟩ ?_
      · intro a vs W hX hR he hf K hK
        rw [if_pos (wanted_none rfl)]
        have e9 : a.eval (.tmp 9) = .slice (some ⟨g, 0, none⟩) S c4 := hf 9 (by kernel_rfl)
        refine wp_value (v := .slice (some ⟨g, 0, none⟩) S c4) ?_ (hK _ _ rfl (grown_refl W _))
        simp only [execOp, e9]
        try go_simp
        try (first | rfl | omega | (simp only [IntKind.wrap_i64, IntKind.wrap_u8, IntKind.wrap_u64, IntKind.wrap_u16, IntKind.wrap_u32]; omega) | (rw [Int.tmod_eq_emod_of_nonneg (by omega)]) | (rw [Int.tmod_eq_emod_of_nonneg (by omega)]; omega))
      · intro a vs W hX hR he hf K hK
        rw [if_pos (wanted_none rfl)]
        have e84 : a.eval (.tmp 84) = .slice (some ⟨g, 0, none⟩) S c4 := (he 0 84 (by kernel_rfl) rfl).trans (hR 0 (by kernel_rfl))
        have f84 := e84
        simp only [Act.eval, Array.getD_eq_getD_getElem?] at f84
        refine wp_value (v := _) ?_ (hK _ _ rfl (grown_refl W _))
        simp only [execOp, e84]
        go_simp
      · intro a vs W hX hR he hf K hK
        rw [if_pos (wanted_none rfl)]
        have e9 : a.eval (.tmp 9) = .slice (some ⟨g, 0, none⟩) S c4 := hf 9 (by kernel_rfl)
        refine wp_value (v := .slice (some ⟨g, 0, none⟩) S c4) ?_ (hK _ _ rfl (grown_refl W _))
        simp only [execOp, e9]
        try go_simp
        try (first | rfl | omega | (simp only [IntKind.wrap_i64, IntKind.wrap_u8, IntKind.wrap_u64, IntKind.wrap_u16, IntKind.wrap_u32]; omega) | (rw [Int.tmod_eq_emod_of_nonneg (by omega)]) | (rw [Int.tmod_eq_emod_of_nonneg (by omega)]; omega))
      · intro a vs W hX hR he hf K hK
        rw [if_pos (wanted_none rfl)]
        have e86 : a.eval (.tmp 86) = .slice (some ⟨g, 0, none⟩) S c4 := (he 2 86 (by kernel_rfl) rfl).trans (hR 2 (by kernel_rfl))
        have f86 := e86
        simp only [Act.eval, Array.getD_eq_getD_getElem?] at f86
        have hbW := bthen (below_drew _) (grow_below hX)
        refine wp_value (v := .slice (some ⟨W.heap.size, 0, none⟩) 1 1) (w' := W.alloc (.cells #[.slice (some ⟨g, 0, none⟩) S c4] 22)) ?_ (hK _ _ ⟨[⟨some ⟨g, 0, none⟩, S, c4, hdA h all ++ [0, 0] ++ bk4 h⟩], _, _, _, rfl, rfl, ?_, ?_⟩ (World.grownBy_alloc _ _ _))
        · simp only [execOp]
          go_simp
        · rw [World.size_alloc]
          exact Row.new (n := 1) (sz := 1) W _ rfl
        · have k := fun r (hr : Bs.ok W r) => hr.below (alloc_below W (.cells #[.slice (some ⟨g, 0, none⟩) S c4] 22))
          simp only [List.mem_cons, List.not_mem_nil, or_false]
          rintro r rfl
          exact k _ (HO4.out.ok.below hbW)
      · intro a vs W hX hR he hf K hK
        rw [if_pos (wanted_none rfl)]
        have e87 := he 3 87 (by kernel_rfl) rfl
        have p87 := hR 3 (by kernel_rfl)
        change (RowsR [hdA h all ++ [0, 0] ++ bk4 h]) (vs 3) W at p87
        obtain ⟨rows, R, k, c', hv, hl, hr, ho⟩ := p87
        rw [hv] at e87
        have hfl : flat rows = hdA h all ++ [0, 0] ++ bk4 h := by rw [flat_map, hl]; simp
        have hln : (hdA h all ++ [0, 0] ++ bk4 h).length = S := by simp only [List.length_append, hdA_length, bk4_length h HK.out, List.length_cons, List.length_nil]; have := HS.out; omega
        have hk4 : k ≤ 4 := by have h1 := hr.1; rw [List.length_map] at h1; have h2 := congrArg List.length hl; simp at h2; omega
        refine wp_enter (f := 28) (args := #[.slice R k c']) (by simp only [execOp, e87]; go_simp; simpa [Act.eval] using e87) ((of_any R k c' rows W hr ho (by omega) (by rw [hfl, hln]; omega)).mono ?_)
        rintro e w' ⟨rfl, hb⟩
        rw [hfl, raw_mid _ _ (by rw [hdA_length]), show 65535 - rawN (hdA h all ++ bk4 h) = Cs from HCs.out.symm]
        exact ⟨_, rfl, hK _ _ rfl (below_grow hb _)⟩
      · intro a vs W hX hR he hf K hK
        rw [if_pos (wanted_none rfl)]
        have e88 : a.eval (.tmp 88) = .int .u16 (Cs : Int) := (he 4 88 (by kernel_rfl) rfl).trans (hR 4 (by kernel_rfl))
        refine wp_value (v := .int .i64 (Cs : Int)) ?_ (hK _ _ rfl (grown_refl W _))
        simp only [execOp, e88]
        try go_simp
        try (first | rfl | omega | (simp only [IntKind.wrap_i64, IntKind.wrap_u8, IntKind.wrap_u64, IntKind.wrap_u16, IntKind.wrap_u32]; omega) | (rw [Int.tmod_eq_emod_of_nonneg (by omega)]) | (rw [Int.tmod_eq_emod_of_nonneg (by omega)]; omega))
      · intro a vs W hX hR he hf K hK
        rw [if_pos (wanted_none rfl)]
        have e89 : a.eval (.tmp 89) = .int .i64 (Cs : Int) := (he 5 89 (by kernel_rfl) rfl).trans (hR 5 (by kernel_rfl))
        have f89 := e89
        simp only [Act.eval, Array.getD_eq_getD_getElem?] at f89
        refine wp_value (v := .slice (some ⟨W.heap.size, 0, none⟩) 1 1) (w' := W.alloc (.cells #[.int .i64 (Cs : Int)] 3)) ?_ (hK _ _ ⟨_, rfl, (grow_below hX).size, row_ints W _ [(Cs : Int)] 1 _ rfl rfl rfl⟩ (World.grownBy_alloc _ _ _))
        simp only [execOp]
        go_simp
      · intro a vs W hX hR he hf K hK
        rw [if_pos (wanted_none rfl)]
        have e90 := he 6 90 (by kernel_rfl) rfl
        have p90 := hR 6 (by kernel_rfl)
        change (IntsR w4.heap.size 1 [(Cs : Int)]) (vs 6) W at p90
        obtain ⟨p, hv, hp, hr⟩ := p90
        rw [hv] at e90
        refine wp_enter (f := 26) (args := #[.slice (some ⟨p, 0, none⟩) 1 1]) (by simp only [execOp, e90]; go_simp; simpa [Act.eval] using e90) ((puts4_any _ 1 1 [(Cs : Int)] W hr (by simp; omega) (by omega)).mono ?_)
        rintro e w' ⟨A2, n2, c2, rfl, rfl, hown, hb⟩
        rw [show twos [(Cs : Int)] = toBe 2 Cs by simp [twos]] at hown
        exact ⟨_, rfl, hK _ _ ⟨A2, c2, rfl, hown.mono (grow_below hX).size⟩ (below_grow hb _)⟩
      · intro vs w5 hX5 hR
        have q0 := hR 0 (by decide)
        have q1 := hR 1 (by decide)
        have q2 := hR 2 (by decide)
        have q3 := hR 3 (by decide)
        have q4 := hR 4 (by decide)
        have q5 := hR 5 (by decide)
        have q6 := hR 6 (by decide)
        have q7 := hR 7 (by decide)
        change vs 0 = .slice (some ⟨g, 0, none⟩) S c4 at q0
        change vs 1 = .slice (some ⟨g, 10, none⟩) (S - 10) (c4 - 10) at q1
        change vs 2 = .slice (some ⟨g, 0, none⟩) S c4 at q2
        change (RowsR [hdA h all ++ [0, 0] ++ bk4 h]) (vs 3) w5 at q3
        change vs 4 = .int .u16 (Cs : Int) at q4
        change vs 5 = .int .i64 (Cs : Int) at q5
        change (IntsR w4.heap.size 1 [(Cs : Int)]) (vs 6) w5 at q6
        change (OwnB w4.heap.size 2 (toBe 2 Cs)) (vs 7) w5 at q7
        simp only [putAll, Act.put, List.setIfInBounds_toArray, List.set_cons_zero, List.set_cons_succ, List.take_succ_cons, List.take_zero, q0, q1, q2, q4, q5]
        clear q0 q1 q2 q4 q5
        clear hR
        obtain ⟨A2, c2, hv, hown2⟩ := q7
        rw [hv]
        have ho5 : Own w5 w.heap.size 5 1 (some ⟨g, 0, none⟩) S c4 (bv (hdA h all ++ [0, 0] ++ bk4 h)) := HO4.out.below (bthen (below_drew _) (grow_below hX5))
        have hB5 := bthen hB4 (bthen (below_drew _) (grow_below hX5))
        refine wp_copy_Own (.tmp 85) (.tmp 91) 22 22 rfl Try.underlying22 (by kernel_rfl) 10 rfl rfl ho5 (by omega) (by omega) hown2.row (bv_one _) ?_
        intro w6 ho6 hg6 hs6
        have hB6 : Below w.heap.size w w6 := bgrown hB5 hg6 hB5.size hgw
        rw [← bv_take, ← bv_drop, ← bv_append, ← bv_append, head4_cut _ _ _ (hdA_length h all)] at ho6
        have HO6 := Lib.hid ho6
        have hall' : S + n ≤ 65535 := by omega
        clear ho6 ho5 hown2 hv hX5 q3 q6 hB5 hg6
        go_wp2_with (at_builtin; refine wpList_append_Own _ rfl _ _ 22 rfl w.heap.size 5 _ 1 1 Try.underlying22 infoByte rfl (by decide) (some ⟨g, 0, none⟩) S c4 _ rfl HO6.out w.heap.size A n c (bv l) rfl (HR.out.below hB6) (bv_one _) (by simp only [maxLen]; omega) (by omega) hB6.size ?_; intro A7 c7 w7 hown7 hg7 _)
        go_ret2
        have hB7 : Below w.heap.size w w7 := hB6.grown hg7 hB6.size (fun k hk => (HO6.out.lt k hk).1)
        refine ⟨⟨A7, S + n, c7, head4 h all ++ l⟩, rfl, rfl, ?_, hB7⟩
        show Own w7 w.heap.size 5 1 A7 (S + n) c7 (bv (head4 h all ++ l))
        rw [bv_append, head4, ← HCs.out]
        exact hown7

theorem put4_any (h : H4) (hf : h.fit) (A : Option Addr) (n c : Nat) (l : List UInt8) (w : World) (hr : Row w w.heap.size 1 A n (bv l)) (hc : n ≤ c) (hcm : c ≤ maxLen) (hn : n ≤ 1099511627776) :
    Calls Try.prog 14 #[.agg h.cells.toArray, .slice A n c] w fun e w' => ∃ r : Bs, e = .returned (.tuple #[r.v, .int .i64 (put4 h l).2]) ∧ r.l = (put4 h l).1 ∧ Own w' w.heap.size 5 1 r.A r.n r.c (bv r.l) ∧ Below w.heap.size w w' := by
  have hll : l.length = n := by have := hr.1; rw [bv_length] at this; omega
  unfold put4
  by_cases hx : h.bad
  · rw [if_pos hx]
    refine (put4_arg h hf A n c w hn hx).mono ?_
    rintro e w' ⟨rfl, hb⟩
    exact ⟨⟨none, 0, 0, []⟩, rfl, rfl, Own.nil _ _ _ _ _, hb⟩
  · rw [if_neg hx]
    by_cases hl : 65535 < 20 + h.opt.length + l.length
    · rw [if_pos hl]
      refine (put4_len h hf A n c w hn hx (by omega)).mono ?_
      rintro e w' ⟨rfl, hb⟩
      exact ⟨⟨none, 0, 0, []⟩, rfl, rfl, Own.nil _ _ _ _ _, hb⟩
    · rw [if_neg hl]
      unfold pkt4
      rw [hll]
      exact put4_ok h hf A n c l w hr hc hcm hx _ rfl (by omega) _ _ rfl rfl
end Go.Proofs.Ytehidnfkogfaoaa

/- What the program's checksum functions compute. No condition but sizes. -/
import Derived.Test.YtbabkcdhihmomaaOctet
import Derived.Test.YtbabkcdhihmomaaSumPlain
namespace Go.Proofs.Ytbabkcdhihmomaa
open Go.RowKit
set_option linter.unusedVariables false
set_option maxRecDepth 20000

theorem and16 (k : Nat) (h : k ≤ 4611686018427387904) : bits .and .u64 (k : Int) 65535 = ((k % 65536 : Nat) : Int) := by
  rw [show (65535 : Int) = ((65535 : Nat) : Int) from rfl, u64_and_nat k 65535 (by omega) (by omega), nat_mask16]

set_option maxHeartbeats 400000 in
theorem fold_any (n : Int) (w : World) (h0 : 0 ≤ n) (h1 : n ≤ 4611686018427387904) :
    Calls Try.prog 46 #[.int .u64 n] w fun e w' => e = .returned (.int .u16 (foldN n.toNat : Nat)) ∧ w = w' := by
  obtain ⟨n, rfl⟩ := Int.eq_ofNat_of_zero_le h0
  simp only [Int.toNat_natCast]
  go_enter Try.func46, Try.ntmps46
  go_wp2
  go_loop [0] (fun m => ∃ k : Nat, k ≤ 4611686018427387904 ∧ foldN k = foldN n ∧ m = .int .u64 k) (fun m => (intOf m).toNat)
  case atStart => exact ⟨n, by omega, rfl, rfl⟩
  case round =>
    obtain ⟨k, hk, hf, rfl⟩ := hrel
    have HF := Lib.hid hf
    clear hf
    by_cases hlt : 65535 < k
    · go_wp2
      go_round
      case rel =>
        refine ⟨k % 65536 + k / 65536, by omega, by rw [foldN_step k hlt]; exact HF.out, ?_⟩
        rw [and16 k hk, wrap64_id _ (by omega) (by omega)]
        go_num
      case measure => rw [and16 k hk, wrap64_id _ (by omega) (by omega)]; simp only [intOf]; omega
    · have HS := Lib.hid (foldN_small k (by omega))
      go_wp2
      go_ret
      refine ⟨?_, rfl⟩
      rw [← HF.out, HS.out]
      rfl

set_option maxHeartbeats 400000 in
theorem add_any (g : Nat) (n c : Int) (odd : Bool) (w : World) (hB : w.heap[g]? = some (.cells #[.int .u64 n, .bool odd] 96 (0, 0))) (h0 : 0 ≤ n) (h1 : n ≤ 4611686018427387904) (h2 : 0 ≤ c) (h3 : c ≤ 255) :
    Calls Try.prog 45 #[.pointer (some ⟨g, 0, none⟩), .int .u8 c] w fun e w' => (∃ v, e = .returned v) ∧ w'.heap[g]? = some (.cells #[.int .u64 (n + if odd then c else c * 256), .bool (!odd)] 96 (0, 0)) ∧ w.grownBy w' (some g) := by
  have c0 : w.cell? ⟨g, 0, none⟩ = some (.int .u64 n) := cell_at hB 0
  have c1 : w.cell? ⟨g, 1, none⟩ = some (.bool odd) := cell_at hB 1
  have f0 := frozen_at hB 0
  have f1 := frozen_at hB 1
  have HB := Lib.hid hB
  clear hB
  cases odd
  all_goals
    go_enter Try.func45, Try.ntmps45
    go_wp2
    go_end0
    refine ⟨⟨_, rfl⟩, ?_, grown_set (grown_set (grown_refl _ _) 0 _) 1 _⟩
    exact heap_set (heap_set HB.out 0 _) 1 _

set_option maxHeartbeats 1000000 in
theorem raw_any (R : Option Addr) (k c : Nat) (rows : List Bs) (w : World) (h : Row w w.heap.size 1 R k (rows.map Bs.v)) (hr : ∀ r ∈ rows, r.ok w) (hk : k ≤ 1099511627776) (ht : (flat rows).length ≤ 1099511627776) :
    Calls Try.prog 39 #[.slice R k c] w fun e w' => e = .returned (.int .u16 (rawN (flat rows) : Nat)) ∧ Below w.heap.size w w' := by
  have hkl : rows.length = k := by have := h.1; simpa using this
  go_enter Try.func39, Try.ntmps39
  go_wp2_with fail
  go_loopw [15] (fun j wr => ∃ i : Nat, i ≤ k ∧ j = .int .i64 i ∧ wr.heap[w.heap.size]? = some (.cells #[.int .u64 (sumB false (flat (rows.take i)) : Nat), .bool (oddB false (flat (rows.take i)))] 96 (0, 0)) ∧ Below w.heap.size w wr) (fun j _ => k - (intOf j).toNat)
  case atStart => exact ⟨0, Nat.zero_le _, rfl, heap_new w _ _, (Below.refl _ _).alloc (Nat.le_refl _) _⟩
  case round =>
    obtain ⟨i, hi, rfl, hB, hb⟩ := hrel
    by_cases hlt : i < k
    · obtain ⟨r, hri⟩ := get_ex rows (k := i) (by omega)
      have hrok := hr r (List.mem_of_getElem? hri)
      obtain ⟨b, o, rfl, hbB, hcell⟩ := h.2 (by omega)
      have hcr := (hb.cell (p := ⟨b, o + i, none⟩) hbB).trans (hcell i r.v (by simp [hri]))
      unfold Bs.v at hcr
      have hrl := hrok.len
      have hrow := hrok.row
      have hn := flat_take_le rows (i + 1)
      have HS := Lib.hid (take_snoc rows i r hri)
      rw [HS.out, flat_snoc, List.length_append, hrl] at hn
      have HB := Lib.hid hB
      clear hB hcell hri
      generalize hd : flat (rows.take i) = done at HB hn
      have HD := Lib.hid hd
      have HL := Lib.hid hrl
      clear hd hrl hkl
      obtain ⟨rA, rn, rc, rl⟩ := r
      simp only at hcr hrow hn HL HS
      clear hrok
      clear hr
      obtain ⟨wo, rfl⟩ : ∃ wo : World, wo = wr := ⟨_, rfl⟩
      go_wp2_with fail
      go_loopw [21] (fun j ws => ∃ m : Nat, m ≤ rn ∧ j = .int .i64 m ∧ ws.heap[w.heap.size]? = some (.cells #[.int .u64 (sumB false (done ++ rl.take m) : Nat), .bool (oddB false (done ++ rl.take m))] 96 (0, 0)) ∧ Below w.heap.size w ws) (fun j _ => rn - (intOf j).toNat)
      case atStart => exact ⟨0, Nat.zero_le _, rfl, by simpa using HB.out, hb⟩
      case round =>
        obtain ⟨m, hm, rfl, hB2, hb2⟩ := hrel
        by_cases hlt2 : m < rn
        · obtain ⟨b2, o2, rfl, hbB2, hcell2⟩ := hrow.2 (by omega)
          obtain ⟨u, hu⟩ := get_ex rl (k := m) (by have := HL.out; omega)
          have hcu := (hb2.cell (p := ⟨b2, o2 + m, none⟩) hbB2).trans (hcell2 m _ (bv_get rl m u hu))
          have hub := byte_le u
          have hsum := sumB_le false (done ++ rl.take m)
          rw [List.length_append, List.length_take] at hsum
          have HU := Lib.hid (take_snoc rl m u hu)
          clear hu hcell2
          generalize hdd : done ++ rl.take m = dd at hB2 hsum
          have HDD := Lib.hid hdd
          have HB2 := Lib.hid hB2
          clear hdd hB2 hcr hb
          go_wp2_with fail
          refine (add_any _ _ _ _ _ HB2.out (by omega) (by omega) hub.1 hub.2).mono ?_
          rintro e w3 ⟨⟨v, rfl⟩, hB3, hg3⟩
          have hb3 := hb2.trans (grown_below hg3 (Nat.le_of_lt (heap_lt HB2.out)) (Nat.le_refl _))
          have HB3 := Lib.hid hB3
          clear hB3 hg3
          go_wp2_with fail
          go_roundw
          case rel =>
            refine ⟨m + 1, by omega, by go_num, ?_, hb3⟩
            rw [HU.out, ← List.append_assoc, HDD.out, sumB_snoc, oddB_snoc]
            rw [HB3.out]
            cases oddB false dd <;> simp
          case measure => simp [intOf]; omega
        · have : m = rn := by omega
          subst this
          have HB2 := Lib.hid hB2
          clear hB2 hb
          go_wp2_with fail
          go_roundw
          case rel =>
            refine ⟨i + 1, by omega, by go_num, ?_, hb2⟩
            have := HB2.out
            rw [List.take_of_length_le (by have := HL.out; omega)] at this
            rw [HS.out, flat_snoc, HD.out]
            exact this
          case measure => simp [intOf]; omega
    · have : i = k := by omega
      subst this
      have hs := sumB_le false (flat rows)
      rw [List.take_of_length_le (by omega)] at hB
      have c0 : wr.cell? ⟨w.heap.size, 0, none⟩ = some (.int .u64 (sumB false (flat rows) : Nat)) := cell_at hB 0
      clear hB h hr
      go_wp2_with fail
      refine (fold_any _ _ (by omega) (by omega)).mono ?_
      rintro e w3 ⟨rfl, rfl⟩
      go_wp2_with fail
      go_ret
      exact ⟨rfl, hb⟩

theorem nat_compl16 (c : Nat) (h : c < 65536) : 65535 ^^^ c = 65535 - c := by
  have h1 : (BitVec.allOnes 16 ^^^ BitVec.ofNat 16 c).toNat = (~~~ (BitVec.ofNat 16 c)).toNat := by rw [BitVec.allOnes_xor]
  rw [BitVec.toNat_xor, BitVec.toNat_not, BitVec.toNat_allOnes, BitVec.toNat_ofNat, Nat.mod_eq_of_lt h] at h1
  exact h1
theorem compl16 (c : Int) (h0 : 0 ≤ c) (h1 : c ≤ 65535) : bits .xor .u16 IntKind.u16.max c = 65535 - c := by
  obtain ⟨c, rfl⟩ := Int.eq_ofNat_of_zero_le h0
  rw [show IntKind.u16.max = ((65535 : Nat) : Int) from rfl, u16_xor_nat 65535 c (by omega) (by omega), nat_compl16 c (by omega)]
  omega

theorem of_any (R : Option Addr) (k c : Nat) (rows : List Bs) (w : World) (h : Row w w.heap.size 1 R k (rows.map Bs.v)) (hr : ∀ r ∈ rows, r.ok w) (hk : k ≤ 1099511627776) (ht : (flat rows).length ≤ 1099511627776) :
    Calls Try.prog 22 #[.slice R k c] w fun e w' => e = .returned (.int .u16 (65535 - rawN (flat rows) : Nat)) ∧ Below w.heap.size w w' := by
  have hf : rawN (flat rows) ≤ 65535 := foldN_le _
  go_enter Try.func22, Try.ntmps22
  go_wp2_with fail
  refine (raw_any R k c rows _ h hr hk ht).mono ?_
  rintro e w3 ⟨rfl, hb⟩
  have hx := compl16 (rawN (flat rows) : Nat) (by omega) (by omega)
  go_wp2_with fail
  go_ret
  exact ⟨ret_int (by omega), hb⟩

theorem check_any (R : Option Addr) (k c : Nat) (rows : List Bs) (w : World) (h : Row w w.heap.size 1 R k (rows.map Bs.v)) (hr : ∀ r ∈ rows, r.ok w) (hk : k ≤ 1099511627776) (ht : (flat rows).length ≤ 1099511627776) :
    Calls Try.prog 27 #[.slice R k c] w fun e w' => e = .returned (.bool (decide (rawN (flat rows) = 65535))) ∧ Below w.heap.size w w' := by
  have hf : rawN (flat rows) ≤ 65535 := foldN_le _
  go_enter Try.func27, Try.ntmps27
  go_wp2_with fail
  refine (raw_any R k c rows _ h hr hk ht).mono ?_
  rintro e w3 ⟨rfl, hb⟩
  go_wp2_with fail
  go_ret
  refine ⟨ret_bool ?_, hb⟩
  rw [Bool.eq_iff_iff]
  simp
  omega

theorem lit_row (cs : Array Value) (rows : List Bs) (k : Nat) (w : World) (hcs : cs.toList = rows.map Bs.v) (hk : rows.length = k) :
    Row (w.alloc (.cells cs 26)) (w.alloc (.cells cs 26)).heap.size 1 (some ⟨w.heap.size, 0, none⟩) k (rows.map Bs.v) := by
  have hsz : cs.size = k * 1 := by rw [← Array.length_toList, hcs]; simpa using hk
  have hrow := Row.new (e := 26) w cs hsz
  rw [hcs] at hrow
  simpa using hrow
theorem lit_ok (cs : Array Value) (rows : List Bs) (w : World) (hr : ∀ r ∈ rows, r.ok w) : ∀ r ∈ rows, r.ok (w.alloc (.cells cs 26)) := fun r hx => (hr r hx).below ((Below.refl _ _).alloc (Nat.le_refl _) _)
theorem lit_below {w w' : World} {cs : Array Value} {t : TypeId} (h : Below (w.alloc (.cells cs t)).heap.size (w.alloc (.cells cs t)) w') : Below w.heap.size w w' :=
  ((Below.refl w.heap.size w).alloc (Nat.le_refl _) _).trans (h.mono (by simp))

theorem raw_lit (cs : Array Value) (rows : List Bs) (k k' : Nat) (w : World) (hcs : cs.toList = rows.map Bs.v) (hk : rows.length = k) (hk2 : k ≤ 1099511627776) (hr : ∀ r ∈ rows, r.ok w) (ht : (flat rows).length ≤ 1099511627776) (g : Nat) (hg : w.heap.size = g) :
    Calls Try.prog 39 #[.slice (some ⟨g, 0, none⟩) k k'] (w.alloc (.cells cs 26)) fun e w' => e = .returned (.int .u16 (rawN (flat rows) : Nat)) ∧ Below w.heap.size w w' :=
  hg ▸ (raw_any _ k k' rows _ (lit_row cs rows k w hcs hk) (lit_ok cs rows w hr) hk2 ht).mono fun e w' ⟨he, hb⟩ => ⟨he, lit_below hb⟩

theorem of_lit (cs : Array Value) (rows : List Bs) (k k' : Nat) (w : World) (hcs : cs.toList = rows.map Bs.v) (hk : rows.length = k) (hk2 : k ≤ 1099511627776) (hr : ∀ r ∈ rows, r.ok w) (ht : (flat rows).length ≤ 1099511627776) (g : Nat) (hg : w.heap.size = g) :
    Calls Try.prog 22 #[.slice (some ⟨g, 0, none⟩) k k'] (w.alloc (.cells cs 26)) fun e w' => e = .returned (.int .u16 (65535 - rawN (flat rows) : Nat)) ∧ Below w.heap.size w w' :=
  hg ▸ (of_any _ k k' rows _ (lit_row cs rows k w hcs hk) (lit_ok cs rows w hr) hk2 ht).mono fun e w' ⟨he, hb⟩ => ⟨he, lit_below hb⟩

theorem check_lit (cs : Array Value) (rows : List Bs) (k k' : Nat) (w : World) (hcs : cs.toList = rows.map Bs.v) (hk : rows.length = k) (hk2 : k ≤ 1099511627776) (hr : ∀ r ∈ rows, r.ok w) (ht : (flat rows).length ≤ 1099511627776) (g : Nat) (hg : w.heap.size = g) :
    Calls Try.prog 27 #[.slice (some ⟨g, 0, none⟩) k k'] (w.alloc (.cells cs 26)) fun e w' => e = .returned (.bool (decide (rawN (flat rows) = 65535))) ∧ Below w.heap.size w w' :=
  hg ▸ (check_any _ k k' rows _ (lit_row cs rows k w hcs hk) (lit_ok cs rows w hr) hk2 ht).mono fun e w' ⟨he, hb⟩ => ⟨he, lit_below hb⟩

end Go.Proofs.Ytbabkcdhihmomaa

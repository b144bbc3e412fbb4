/- Texts of this claim put together, in build order: each one's own remark stands ahead of it. -/
import Derived.Test.YtckbleiikldloaaDoorG01
import Derived.Test.YtckbleiikldloaaDoorG02
import Derived.Lib.AppendZeros
/- The Internet's checksum in plain numbers: how it folds, and how it adds up. No program in sight, no condition. -/
namespace Go.Proofs.YtckbleiikldloaaDoor
set_option linter.unusedVariables false
set_option maxRecDepth 20000

/-- a number, folded to 16 bits -/
def foldN (n : Nat) : Nat := if n = 0 then 0 else (n - 1) % 65535 + 1
theorem foldN_small (n : Nat) (h : n ≤ 65535) : foldN n = n := by unfold foldN; split <;> omega
theorem foldN_step (n : Nat) (h : 65535 < n) : foldN (n % 65536 + n / 65536) = foldN n := by unfold foldN; rw [if_neg (by omega), if_neg (by omega)]; omega
theorem foldN_le (n : Nat) : foldN n ≤ 65535 := by unfold foldN; split <;> omega

/-- bytes added by twos; the flag: the next one is the lower one -/
def sumB : Bool → List UInt8 → Nat
  | _, [] => 0
  | false, u :: r => u.toNat * 256 + sumB true r
  | true, u :: r => u.toNat + sumB false r
/-- the flag behind bytes -/
def oddB (b : Bool) (l : List UInt8) : Bool := if l.length % 2 = 0 then b else !b
theorem oddB_cons (b : Bool) (u : UInt8) (l : List UInt8) : oddB b (u :: l) = oddB (!b) l := by
  unfold oddB
  rw [List.length_cons]
  rcases Nat.mod_two_eq_zero_or_one l.length with h | h
  · rw [if_neg (by omega), if_pos h]
  · rw [if_pos (by omega), if_neg (by omega), Bool.not_not]
theorem oddB_nil (b : Bool) : oddB b [] = b := rfl
theorem sumB_append (b : Bool) (l r : List UInt8) : sumB b (l ++ r) = sumB b l + sumB (oddB b l) r := by
  induction l generalizing b with
  | nil => simp [sumB, oddB_nil]
  | cons u l ih => cases b <;> simp [sumB, ih, oddB_cons] <;> omega
theorem oddB_append (b : Bool) (l r : List UInt8) : oddB b (l ++ r) = oddB (oddB b l) r := by
  induction l generalizing b with
  | nil => rfl
  | cons u l ih => rw [List.cons_append, oddB_cons, oddB_cons, ih]
theorem sumB_snoc (b : Bool) (l : List UInt8) (u : UInt8) : sumB b (l ++ [u]) = sumB b l + (if oddB b l then u.toNat else u.toNat * 256) := by
  rw [sumB_append]
  cases oddB b l <;> simp [sumB]
theorem oddB_snoc (b : Bool) (l : List UInt8) (u : UInt8) : oddB b (l ++ [u]) = !oddB b l := by
  rw [oddB_append]
  cases oddB b l <;> rfl
theorem sumB_le (b : Bool) (l : List UInt8) : sumB b l ≤ l.length * 65280 := by
  induction l generalizing b with
  | nil => simp [sumB]
  | cons u l ih =>
    have := u.toNat_lt
    cases b
    · have := ih true; simp only [sumB, List.length_cons]; omega
    · have := ih false; simp only [sumB, List.length_cons]; omega
/-- the folded sum of bytes -/
def rawN (l : List UInt8) : Nat := foldN (sumB false l)
end Go.Proofs.YtckbleiikldloaaDoor

/- What the program's checksum functions compute. No condition but sizes. -/
namespace Go.Proofs.YtckbleiikldloaaDoor
open Go.RowKit
set_option linter.unusedVariables false
set_option maxRecDepth 20000

theorem and16 (k : Nat) (h : k ≤ 4611686018427387904) : bits .and .u64 (k : Int) 65535 = ((k % 65536 : Nat) : Int) := by
  rw [show (65535 : Int) = ((65535 : Nat) : Int) from rfl, u64_and_nat k 65535 (by omega) (by omega), nat_mask16]

set_option maxHeartbeats 400000 in
theorem fold_any (n : Int) (w : World) (h0 : 0 ≤ n) (h1 : n ≤ 4611686018427387904) :
    Calls Tryd.prog 74 #[.int .u64 n] w fun e w' => e = .returned (.int .u16 (foldN n.toNat : Nat)) ∧ w = w' := by
  obtain ⟨n, rfl⟩ := Int.eq_ofNat_of_zero_le h0
  simp only [Int.toNat_natCast]
  go_enter Tryd.func74, Tryd.ntmps74
  go_wp2
  go_loop [0] (fun m => ∃ k : Nat, k ≤ 4611686018427387904 ∧ foldN k = foldN n ∧ m = .int .u64 k) (fun m => (intOf m).toNat)
  case atStart => exact ⟨n, by omega, rfl, rfl⟩
  case round =>
    obtain ⟨k, hk, hf, rfl⟩ := hrel
    have HF := Lib.hid hf
    clear hf
    by_cases hlt : 65535 < k
    · go_wp2
      go_round
      case rel =>
        refine ⟨k % 65536 + k / 65536, by omega, by rw [foldN_step k hlt]; exact HF.out, ?_⟩
        rw [and16 k hk, wrap64_id _ (by omega) (by omega)]
        go_num
      case measure => rw [and16 k hk, wrap64_id _ (by omega) (by omega)]; simp only [intOf]; omega
    · have HS := Lib.hid (foldN_small k (by omega))
      go_wp2
      go_ret
      refine ⟨?_, rfl⟩
      rw [← HF.out, HS.out]
      rfl

set_option maxHeartbeats 400000 in
theorem add_any (g : Nat) (n c : Int) (odd : Bool) (w : World) (hB : w.heap[g]? = some (.cells #[.int .u64 n, .bool odd] 131 (0, 0))) (h0 : 0 ≤ n) (h1 : n ≤ 4611686018427387904) (h2 : 0 ≤ c) (h3 : c ≤ 255) :
    Calls Tryd.prog 73 #[.pointer (some ⟨g, 0, none⟩), .int .u8 c] w fun e w' => (∃ v, e = .returned v) ∧ w'.heap[g]? = some (.cells #[.int .u64 (n + if odd then c else c * 256), .bool (!odd)] 131 (0, 0)) ∧ w.grownBy w' (some g) := by
  have c0 : w.cell? ⟨g, 0, none⟩ = some (.int .u64 n) := cell_at hB 0
  have c1 : w.cell? ⟨g, 1, none⟩ = some (.bool odd) := cell_at hB 1
  have f0 := frozen_at hB 0
  have f1 := frozen_at hB 1
  have HB := Lib.hid hB
  clear hB
  cases odd
  all_goals
    go_enter Tryd.func73, Tryd.ntmps73
    go_wp2
    go_end0
    refine ⟨⟨_, rfl⟩, ?_, grown_set (grown_set (grown_refl _ _) 0 _) 1 _⟩
    exact heap_set (heap_set HB.out 0 _) 1 _

set_option maxHeartbeats 1000000 in
theorem raw_any (R : Option Addr) (k c : Nat) (rows : List Bs) (w : World) (h : Row w w.heap.size 1 R k (rows.map Bs.v)) (hr : ∀ r ∈ rows, r.ok w) (hk : k ≤ 1099511627776) (ht : (flat rows).length ≤ 1099511627776) :
    Calls Tryd.prog 69 #[.slice R k c] w fun e w' => e = .returned (.int .u16 (rawN (flat rows) : Nat)) ∧ Below w.heap.size w w' := by
  have hkl : rows.length = k := by have := h.1; simpa using this
  go_enter Tryd.func69, Tryd.ntmps69
  go_wp2_with fail
  go_loopw [15] (fun j wr => ∃ i : Nat, i ≤ k ∧ j = .int .i64 i ∧ wr.heap[w.heap.size]? = some (.cells #[.int .u64 (sumB false (flat (rows.take i)) : Nat), .bool (oddB false (flat (rows.take i)))] 131 (0, 0)) ∧ Below w.heap.size w wr) (fun j _ => k - (intOf j).toNat)
  case atStart => exact ⟨0, Nat.zero_le _, rfl, heap_new w _ _, (Below.refl _ _).alloc (Nat.le_refl _) _⟩
  case round =>
    obtain ⟨i, hi, rfl, hB, hb⟩ := hrel
    by_cases hlt : i < k
    · obtain ⟨r, hri⟩ := get_ex rows (k := i) (by omega)
      have hrok := hr r (List.mem_of_getElem? hri)
      obtain ⟨b, o, rfl, hbB, hcell⟩ := h.2 (by omega)
      have hcr := (hb.cell (p := ⟨b, o + i, none⟩) hbB).trans (hcell i r.v (by simp [hri]))
      unfold Bs.v at hcr
      have hrl := hrok.len
      have hrow := hrok.row
      have hn := flat_take_le rows (i + 1)
      have HS := Lib.hid (take_snoc rows i r hri)
      rw [HS.out, flat_snoc, List.length_append, hrl] at hn
      have HB := Lib.hid hB
      clear hB hcell hri
      generalize hd : flat (rows.take i) = done at HB hn
      have HD := Lib.hid hd
      have HL := Lib.hid hrl
      clear hd hrl hkl
      obtain ⟨rA, rn, rc, rl⟩ := r
      simp only at hcr hrow hn HL HS
      clear hrok
      clear hr
      obtain ⟨wo, rfl⟩ : ∃ wo : World, wo = wr := ⟨_, rfl⟩
      go_wp2_with fail
      go_loopw [21] (fun j ws => ∃ m : Nat, m ≤ rn ∧ j = .int .i64 m ∧ ws.heap[w.heap.size]? = some (.cells #[.int .u64 (sumB false (done ++ rl.take m) : Nat), .bool (oddB false (done ++ rl.take m))] 131 (0, 0)) ∧ Below w.heap.size w ws) (fun j _ => rn - (intOf j).toNat)
      case atStart => exact ⟨0, Nat.zero_le _, rfl, by simpa using HB.out, hb⟩
      case round =>
        obtain ⟨m, hm, rfl, hB2, hb2⟩ := hrel
        by_cases hlt2 : m < rn
        · obtain ⟨b2, o2, rfl, hbB2, hcell2⟩ := hrow.2 (by omega)
          obtain ⟨u, hu⟩ := get_ex rl (k := m) (by have := HL.out; omega)
          have hcu := (hb2.cell (p := ⟨b2, o2 + m, none⟩) hbB2).trans (hcell2 m _ (bv_get rl m u hu))
          have hub := byte_le u
          have hsum := sumB_le false (done ++ rl.take m)
          rw [List.length_append, List.length_take] at hsum
          have HU := Lib.hid (take_snoc rl m u hu)
          clear hu hcell2
          generalize hdd : done ++ rl.take m = dd at hB2 hsum
          have HDD := Lib.hid hdd
          have HB2 := Lib.hid hB2
          clear hdd hB2 hcr hb
          go_wp2_with fail
          refine (add_any _ _ _ _ _ HB2.out (by omega) (by omega) hub.1 hub.2).mono ?_
          rintro e w3 ⟨⟨v, rfl⟩, hB3, hg3⟩
          have hb3 := hb2.trans (grown_below hg3 (Nat.le_of_lt (heap_lt HB2.out)) (Nat.le_refl _))
          have HB3 := Lib.hid hB3
          clear hB3 hg3
          go_wp2_with fail
          go_roundw
          case rel =>
            refine ⟨m + 1, by omega, by go_num, ?_, hb3⟩
            rw [HU.out, ← List.append_assoc, HDD.out, sumB_snoc, oddB_snoc]
            rw [HB3.out]
            cases oddB false dd <;> simp
          case measure => simp [intOf]; omega
        · have : m = rn := by omega
          subst this
          have HB2 := Lib.hid hB2
          clear hB2 hb
          go_wp2_with fail
          go_roundw
          case rel =>
            refine ⟨i + 1, by omega, by go_num, ?_, hb2⟩
            have := HB2.out
            rw [List.take_of_length_le (by have := HL.out; omega)] at this
            rw [HS.out, flat_snoc, HD.out]
            exact this
          case measure => simp [intOf]; omega
    · have : i = k := by omega
      subst this
      have hs := sumB_le false (flat rows)
      rw [List.take_of_length_le (by omega)] at hB
      have c0 : wr.cell? ⟨w.heap.size, 0, none⟩ = some (.int .u64 (sumB false (flat rows) : Nat)) := cell_at hB 0
      clear hB h hr
      go_wp2_with fail
      refine (fold_any _ _ (by omega) (by omega)).mono ?_
      rintro e w3 ⟨rfl, rfl⟩
      go_wp2_with fail
      go_ret
      exact ⟨rfl, hb⟩

theorem nat_compl16 (c : Nat) (h : c < 65536) : 65535 ^^^ c = 65535 - c := by
  have h1 : (BitVec.allOnes 16 ^^^ BitVec.ofNat 16 c).toNat = (~~~ (BitVec.ofNat 16 c)).toNat := by rw [BitVec.allOnes_xor]
  rw [BitVec.toNat_xor, BitVec.toNat_not, BitVec.toNat_allOnes, BitVec.toNat_ofNat, Nat.mod_eq_of_lt h] at h1
  exact h1
theorem compl16 (c : Int) (h0 : 0 ≤ c) (h1 : c ≤ 65535) : bits .xor .u16 IntKind.u16.max c = 65535 - c := by
  obtain ⟨c, rfl⟩ := Int.eq_ofNat_of_zero_le h0
  rw [show IntKind.u16.max = ((65535 : Nat) : Int) from rfl, u16_xor_nat 65535 c (by omega) (by omega), nat_compl16 c (by omega)]
  omega

theorem of_any (R : Option Addr) (k c : Nat) (rows : List Bs) (w : World) (h : Row w w.heap.size 1 R k (rows.map Bs.v)) (hr : ∀ r ∈ rows, r.ok w) (hk : k ≤ 1099511627776) (ht : (flat rows).length ≤ 1099511627776) :
    Calls Tryd.prog 45 #[.slice R k c] w fun e w' => e = .returned (.int .u16 (65535 - rawN (flat rows) : Nat)) ∧ Below w.heap.size w w' := by
  have hf : rawN (flat rows) ≤ 65535 := foldN_le _
  go_enter Tryd.func45, Tryd.ntmps45
  go_wp2_with fail
  refine (raw_any R k c rows _ h hr hk ht).mono ?_
  rintro e w3 ⟨rfl, hb⟩
  have hx := compl16 (rawN (flat rows) : Nat) (by omega) (by omega)
  go_wp2_with fail
  go_ret
  exact ⟨ret_int (by omega), hb⟩

theorem check_any (R : Option Addr) (k c : Nat) (rows : List Bs) (w : World) (h : Row w w.heap.size 1 R k (rows.map Bs.v)) (hr : ∀ r ∈ rows, r.ok w) (hk : k ≤ 1099511627776) (ht : (flat rows).length ≤ 1099511627776) :
    Calls Tryd.prog 51 #[.slice R k c] w fun e w' => e = .returned (.bool (decide (rawN (flat rows) = 65535))) ∧ Below w.heap.size w w' := by
  have hf : rawN (flat rows) ≤ 65535 := foldN_le _
  go_enter Tryd.func51, Tryd.ntmps51
  go_wp2_with fail
  refine (raw_any R k c rows _ h hr hk ht).mono ?_
  rintro e w3 ⟨rfl, hb⟩
  go_wp2_with fail
  go_ret
  refine ⟨ret_bool ?_, hb⟩
  rw [Bool.eq_iff_iff]
  simp
  omega

theorem lit_row (cs : Array Value) (rows : List Bs) (k : Nat) (w : World) (hcs : cs.toList = rows.map Bs.v) (hk : rows.length = k) :
    Row (w.alloc (.cells cs 22)) (w.alloc (.cells cs 22)).heap.size 1 (some ⟨w.heap.size, 0, none⟩) k (rows.map Bs.v) := by
  have hsz : cs.size = k * 1 := by rw [← Array.length_toList, hcs]; simpa using hk
  have hrow := Row.new (e := 22) w cs hsz
  rw [hcs] at hrow
  simpa using hrow
theorem lit_ok (cs : Array Value) (rows : List Bs) (w : World) (hr : ∀ r ∈ rows, r.ok w) : ∀ r ∈ rows, r.ok (w.alloc (.cells cs 22)) := fun r hx => (hr r hx).below ((Below.refl _ _).alloc (Nat.le_refl _) _)
theorem lit_below {w w' : World} {cs : Array Value} {t : TypeId} (h : Below (w.alloc (.cells cs t)).heap.size (w.alloc (.cells cs t)) w') : Below w.heap.size w w' :=
  ((Below.refl w.heap.size w).alloc (Nat.le_refl _) _).trans (h.mono (by simp))

theorem raw_lit (cs : Array Value) (rows : List Bs) (k k' : Nat) (w : World) (hcs : cs.toList = rows.map Bs.v) (hk : rows.length = k) (hk2 : k ≤ 1099511627776) (hr : ∀ r ∈ rows, r.ok w) (ht : (flat rows).length ≤ 1099511627776) (g : Nat) (hg : w.heap.size = g) :
    Calls Tryd.prog 69 #[.slice (some ⟨g, 0, none⟩) k k'] (w.alloc (.cells cs 22)) fun e w' => e = .returned (.int .u16 (rawN (flat rows) : Nat)) ∧ Below w.heap.size w w' :=
  hg ▸ (raw_any _ k k' rows _ (lit_row cs rows k w hcs hk) (lit_ok cs rows w hr) hk2 ht).mono fun e w' ⟨he, hb⟩ => ⟨he, lit_below hb⟩

theorem of_lit (cs : Array Value) (rows : List Bs) (k k' : Nat) (w : World) (hcs : cs.toList = rows.map Bs.v) (hk : rows.length = k) (hk2 : k ≤ 1099511627776) (hr : ∀ r ∈ rows, r.ok w) (ht : (flat rows).length ≤ 1099511627776) (g : Nat) (hg : w.heap.size = g) :
    Calls Tryd.prog 45 #[.slice (some ⟨g, 0, none⟩) k k'] (w.alloc (.cells cs 22)) fun e w' => e = .returned (.int .u16 (65535 - rawN (flat rows) : Nat)) ∧ Below w.heap.size w w' :=
  hg ▸ (of_any _ k k' rows _ (lit_row cs rows k w hcs hk) (lit_ok cs rows w hr) hk2 ht).mono fun e w' ⟨he, hb⟩ => ⟨he, lit_below hb⟩

theorem check_lit (cs : Array Value) (rows : List Bs) (k k' : Nat) (w : World) (hcs : cs.toList = rows.map Bs.v) (hk : rows.length = k) (hk2 : k ≤ 1099511627776) (hr : ∀ r ∈ rows, r.ok w) (ht : (flat rows).length ≤ 1099511627776) (g : Nat) (hg : w.heap.size = g) :
    Calls Tryd.prog 51 #[.slice (some ⟨g, 0, none⟩) k k'] (w.alloc (.cells cs 22)) fun e w' => e = .returned (.bool (decide (rawN (flat rows) = 65535))) ∧ Below w.heap.size w w' :=
  hg ▸ (check_any _ k k' rows _ (lit_row cs rows k w hcs hk) (lit_ok cs rows w hr) hk2 ht).mono fun e w' ⟨he, hb⟩ => ⟨he, lit_below hb⟩

end Go.Proofs.YtckbleiikldloaaDoor

/- What slices.Grow (of nothing) and slices.Concat compute. No condition but sizes. -/
namespace Go.Proofs.YtckbleiikldloaaDoor
open Go.RowKit
set_option linter.unusedVariables false
set_option maxRecDepth 20000

theorem info_bytes : (Tryd.prog.info? 5).map (fun i => (i.zero, i.size, i.bytes)) = some (some (.int .u8 0), 1, 1) := by kernel_rfl

set_option maxHeartbeats 400000 in
theorem grow_bytes (m : Int) (w : World) (hm0 : 0 ≤ m) (hm : m ≤ 1099511627776) :
    Calls Tryd.prog 68 #[.slice none 0 0, .int .i64 m] w fun e w' => ∃ A' c', e = .returned (.slice A' 0 c') ∧ Own w' w.heap.size 5 1 A' 0 c' [] ∧ Below w.heap.size w w' := by
  obtain ⟨m, rfl⟩ := Int.eq_ofNat_of_zero_le hm0
  rcases Nat.eq_zero_or_pos m with h0 | h0
  · subst h0
    go_enter Tryd.func68, Tryd.ntmps68
    go_wp2_with fail
    go_ret
    exact ⟨none, 0, rfl, Own.nil _ _ _ _ _, Below.refl _ _⟩
  · obtain ⟨i0, hi0, hz0, hz1, hz2⟩ := info_parts info_bytes
    have hrun := Lib.run_append_nil_zeros (P := Tryd.prog) w 22 3 22 5 i0 _ .i64 .i64 Tryd.underlying22 Tryd.underlying3 hi0 hz0 m h0 (by omega) (by omega) (by rw [hz2]; omega)
    have HR := Lib.hid hrun
    clear hrun
    go_enter Tryd.func68, Tryd.ntmps68
    go_wp2_with (at_builtin; refine Lib.wpList_append_run _ rfl _ _ _ _ rfl _ _ rfl rfl _ _ HR.out ?_)
    go_ret
    refine ⟨_, _, rfl, ?_, ((Below.refl _ _).drew).alloc (Nat.le_refl _) _⟩
    refine ⟨rfl, Nat.zero_le _, grownCap_le_maxLen _ _ _ _ (by simp only [maxLen]; omega), .inr ⟨_, _, rfl, Nat.le_refl _, heap_alloc_new w.drew _, ?_, by simp⟩⟩
    have := grownCap_ge w m 0 5
    simp only [Array.size_append, size_zeroCells, ← Nat.add_mul]
    rw [show m + (grownCap w m 0 5 - m) = grownCap w m 0 5 by omega]
    rfl

set_option maxHeartbeats 1000000 in
theorem concat_bytes (R : Option Addr) (k c : Nat) (rows : List Sl) (w : World) (h : Row w w.heap.size 1 R k (rows.map Sl.v)) (hr : ∀ r ∈ rows, r.ok 1 w) (hk : k ≤ 1099511627776) (ht : lenV rows ≤ 1099511627776) :
    Calls Tryd.prog 44 #[.slice R k c] w fun e w' => ∃ A' c', e = .returned (.slice A' (lenV rows) c') ∧ Own w' w.heap.size 5 1 A' (lenV rows) c' (flatV rows) ∧ Below w.heap.size w w' := by
  have hkl : rows.length = k := by have := h.1; simpa using this
  go_enter Tryd.func44, Tryd.ntmps44
  go_wp2_with fail
  go_loop [3, 11] (fun s j => ∃ i : Nat, i ≤ k ∧ j = .int .i64 i ∧ s = .int .i64 (lenV (rows.take i) : Nat)) (fun _ j => k - (intOf j).toNat)
  case atStart => exact ⟨0, Nat.zero_le _, rfl, rfl⟩
  case round =>
    obtain ⟨i, hi, rfl, rfl⟩ := hrel
    by_cases hlt : i < k
    · obtain ⟨r, hri⟩ := get_ex rows (k := i) (by omega)
      obtain ⟨b, o, rfl, hbB, hcell⟩ := h.2 (by omega)
      have hcr := hcell i r.v (by simp [hri])
      unfold Sl.v at hcr
      have hn := lenV_take_le rows (i + 1)
      have HS := Lib.hid (take_snoc rows i r hri)
      rw [HS.out, lenV_snoc] at hn
      have HL := Lib.hid hkl
      clear hcell hri hr hkl
      generalize hd : lenV (rows.take i) = done at hn ⊢
      have HD := Lib.hid hd
      clear hd
      obtain ⟨rA, rn, rc, rl⟩ := r
      simp only at hcr hn HS
      go_wp2_with fail
      go_round
      case rel => exact ⟨i + 1, by omega, by go_num, by rw [HS.out, lenV_snoc, HD.out]; go_num⟩
      case measure => simp [intOf]; omega
    · have : i = k := by omega
      subst this
      have htk : rows.take i = rows := List.take_of_length_le (by omega)
      rw [htk]
      generalize hL : lenV rows = tot at ht ⊢
      have HL := Lib.hid hL
      have HK := Lib.hid hkl
      clear htk hkl hL
      go_wp2_with fail
      refine (grow_bytes _ _ (by omega) (by omega)).mono ?_
      rintro e w1 ⟨A', c', rfl, hown, hb⟩
      clear hlt
      go_wp2_with fail
      go_loopw [6, 27] (fun s j wr => ∃ (m : Nat) (A2 : Option Addr) (c2 : Nat), m ≤ i ∧ j = .int .i64 m ∧ s = .slice A2 (lenV (rows.take m)) c2 ∧ Own wr w.heap.size 5 1 A2 (lenV (rows.take m)) c2 (flatV (rows.take m)) ∧ Below w.heap.size w wr) (fun _ j _ => i - (intOf j).toNat)
      case atStart => exact ⟨0, A', c', Nat.zero_le _, rfl, rfl, hown, hb⟩
      case round =>
        obtain ⟨m, A2, c2, hm, rfl, rfl, hown2, hb2⟩ := hrel
        clear hown hb
        by_cases hlt : m < i
        · obtain ⟨r, hri⟩ := get_ex rows (k := m) (by have := HK.out; omega)
          have hrok := hr r (List.mem_of_getElem? hri)
          obtain ⟨b, o, rfl, hbB, hcell⟩ := h.2 (by omega)
          have hcr := (hb2.cell (p := ⟨b, o + m, none⟩) hbB).trans (hcell m r.v (by simp [hri]))
          unfold Sl.v at hcr
          have hn := lenV_take_le rows (m + 1)
          have HS := Lib.hid (take_snoc rows m r hri)
          rw [HS.out, lenV_snoc, HL.out] at hn
          clear hcell hri hr
          have hrow := hrok.row.below hb2
          have hone := hrok.one
          generalize hd : lenV (rows.take m) = done at hn hown2 ⊢
          have HD := Lib.hid hd
          clear hd hrok
          obtain ⟨rA, rn, rc, rl⟩ := r
          simp only at hcr hn HS hrow hone
          have HO := Lib.hid hown2
          have HR := Lib.hid hrow
          have H1 := Lib.hid hone
          clear hown2 hrow hone h
          go_wp2_with (at_builtin; refine wpList_append_Own _ rfl _ _ 22 rfl w.heap.size 5 _ 1 1 Tryd.underlying22 info_bytes rfl (by decide) _ _ _ _ rfl HO.out w.heap.size _ _ _ rl rfl HR.out H1.out (by simp only [maxLen]; omega) (by omega) hb2.size ?_; intro A3 c3 w3 hown3 hg3 _)
          have hb3 := hb2.grown hg3 hb2.size (fun g hg => (HO.out.lt g hg).1)
          go_roundw
          case rel =>
            refine ⟨m + 1, A3, c3, by omega, by go_num, ?_, ?_, hb3⟩
            · rw [HS.out, lenV_snoc, HD.out]
            · rw [HS.out, lenV_snoc, HD.out, flatV_snoc]; exact hown3
          case measure => simp [intOf]; omega
        · have : m = i := by omega
          subst this
          rw [List.take_of_length_le (by have := HK.out; omega), HL.out] at hown2
          rw [List.take_of_length_le (by have := HK.out; omega), HL.out]
          clear h hr
          go_wp2_with fail
          go_ret
          exact ⟨A2, c2, by rw [HL.out]; rfl, by rw [HL.out]; exact hown2, hb2⟩

theorem info_entries : (Tryd.prog.info? 49).map (fun i => (i.zero, i.size, i.bytes)) = some (some (.agg #[.int .i64 0, .int .u8 0, .bool false, .int .u8 0]), 4, 16) := by kernel_rfl

theorem concat_lit (cs : Array Value) (rows : List Bs) (k k' : Nat) (w : World) (hcs : cs.toList = rows.map Bs.v) (hk : rows.length = k) (hk2 : k ≤ 1099511627776) (hr : ∀ r ∈ rows, r.ok w) (ht : (flat rows).length ≤ 1099511627776) (g : Nat) (hg : w.heap.size = g) :
    Calls Tryd.prog 44 #[.slice (some ⟨g, 0, none⟩) k k'] (w.alloc (.cells cs 22)) fun e w' => ∃ A' c', e = .returned (.slice A' (flat rows).length c') ∧ Own w' w.heap.size 5 1 A' (flat rows).length c' (bv (flat rows)) ∧ Below w.heap.size w w' := by
  subst hg
  have hsz : cs.size = k * 1 := by rw [← Array.length_toList, hcs]; simpa using hk
  have hrow := Row.new (e := 22) w cs hsz
  have hb : Below w.heap.size w (w.alloc (.cells cs 22)) := (Below.refl _ _).alloc (Nat.le_refl _) _
  have hl := lenV_bs rows hr
  rw [hcs, ← vs_bs] at hrow
  refine (concat_bytes _ k k' (rows.map Bs.sl) _ (by simpa using hrow) (fun r hx => ?_) hk2 (by rw [hl]; exact ht)).mono ?_
  · obtain ⟨x, hx2, rfl⟩ := List.mem_map.1 hx
    exact ((hr x hx2).sl).below hb
  · rintro e w' ⟨A', c', rfl, hown, hb'⟩
    rw [hl, flatV_bs] at hown
    rw [hl]
    exact ⟨A', c', rfl, hown.mono (by simp), hb.trans (hb'.mono (by simp))⟩

end Go.Proofs.YtckbleiikldloaaDoor

/- What stands ahead of a message in the sum: sum.Pseudo. No condition but sizes. -/
namespace Go.Proofs.YtckbleiikldloaaDoor
open Go.RowKit
set_option linter.unusedVariables false
set_option maxRecDepth 20000

theorem put_mid {α : Type} (X Y Z T : List α) (a b : Nat) (ha : X.length = a) (hb : a + Y.length = b) : (X ++ Y ++ Z).take a ++ T ++ (X ++ Y ++ Z).drop b = X ++ T ++ Z := by
  subst ha
  subst hb
  simp [List.append_assoc]
def pseudoF (src dst : List UInt8) (p : Nat) (size : Int) : List UInt8 :=
  if size < 0 then [] else
  if src.length = 4 ∧ dst.length = 4 ∧ size ≤ 65535 then src ++ dst ++ [0, UInt8.ofNat p] ++ toBe 2 size.toNat else
  if src.length = 16 ∧ dst.length = 16 ∧ size ≤ 4294967295 then src ++ dst ++ toBe 4 size.toNat ++ [0, 0, 0, UInt8.ofNat p] else []

theorem lit_below' {w w1 w3 : World} {A : Option Addr} {n c : Nat} {e t : TypeId} {xs : List Value} {cs : Array Value} (hb : Below w.heap.size w w1) (hg : (w1.alloc (.cells cs t)).grownBy w3 (blk A c)) (ho : Own w1 w.heap.size e 1 A n c xs) : Below w.heap.size w1 w3 :=
  ((Below.refl _ _).alloc hb.size _).grown hg (by have := hb.size; simp; omega) (fun g hg => (ho.lt g hg).1)
end Go.Proofs.YtckbleiikldloaaDoor

/- What the reference's checksum functions (footplateref02) compute. No condition but sizes. -/
namespace Go.Proofs.YtckbleiikldloaaDoor
open Go.RowKit
set_option linter.unusedVariables false
set_option maxRecDepth 20000

theorem rfold_any (n : Int) (w : World) (h0 : 0 ≤ n) (h1 : n ≤ 4611686018427387904) :
    Calls Tryd.prog 60 #[.int .i64 n] w fun e w' => e = .returned (.int .i64 (foldN n.toNat : Nat)) ∧ w = w' := by
  obtain ⟨n, rfl⟩ := Int.eq_ofNat_of_zero_le h0
  simp only [Int.toNat_natCast]
  go_enter Tryd.func60, Tryd.ntmps60
  go_wp2
  go_loop [0] (fun m => ∃ k : Nat, k ≤ 4611686018427387904 ∧ foldN k = foldN n ∧ m = .int .i64 k) (fun m => (intOf m).toNat)
  case atStart => exact ⟨n, by omega, rfl, rfl⟩
  case round =>
    obtain ⟨k, hk, hf, rfl⟩ := hrel
    have HF := Lib.hid hf
    clear hf
    by_cases hlt : 65535 < k
    · go_wp2
      go_round
      case rel => exact ⟨k % 65536 + k / 65536, by omega, by rw [foldN_step k hlt]; exact HF.out, by go_num⟩
      case measure => simp [intOf]; omega
    · have HS := Lib.hid (foldN_small k (by omega))
      go_wp2
      go_ret
      refine ⟨?_, rfl⟩
      rw [← HF.out, HS.out]
      rfl

theorem oddB_take (l : List UInt8) (k : Nat) (hk : k ≤ l.length) : oddB false (l.take k) = !decide (k % 2 = 0) := by
  unfold oddB
  rw [List.length_take, Nat.min_eq_left hk]
  by_cases h : k % 2 = 0 <;> simp [h]

set_option maxHeartbeats 400000 in
theorem rraw_any (l : List UInt8) (w : World) (hl : l.length ≤ 1099511627776) :
    Calls Tryd.prog 33 #[str l] w fun e w' => e = .returned (.int .i64 (rawN l : Nat)) ∧ w = w' := by
  go_enter Tryd.func33, Tryd.ntmps33
  go_wp2_with fail
  go_loop [3, 4] (fun m j => ∃ k : Nat, k ≤ l.length ∧ j = .int .i64 k ∧ m = .int .i64 (sumB false (l.take k) : Nat)) (fun _ j => l.length - (intOf j).toNat)
  case atStart => exact ⟨0, Nat.zero_le _, rfl, rfl⟩
  case round =>
    obtain ⟨k, hk, rfl, rfl⟩ := hrel
    by_cases hlt : k < l.length
    · obtain ⟨u, hu⟩ := get_ex l hlt
      have hub := byte_le u
      have hs := sumB_le false (l.take k)
      rw [List.length_take] at hs
      have HO := Lib.hid (oddB_take l k hk)
      have HG := Lib.hid (ba_get l k u hu)
      have HS := Lib.hid (take_snoc l k u hu)
      clear hu
      generalize hq : sumB false (l.take k) = q at hs ⊢
      have HQ := Lib.hid hq
      clear hq
      by_cases hp : k % 2 = 0
      · have hp' : (((k : Int) % 2) == 0) = true := by rw [beq_iff_eq]; omega
        go_wp2
        go_round
        case rel =>
          refine ⟨k + 1, by omega, by go_num, ?_⟩
          simp only [HG.out]
          rw [wI (u.toNat : Int) (by omega) (by omega), wI (256 * (u.toNat : Int)) (by omega) (by omega), wI _ (by omega) (by omega), HS.out, sumB_snoc, HO.out, HQ.out]
          simp [hp]
          omega
        case measure => simp [intOf]; omega
      · have hp' : (((k : Int) % 2) == 0) = false := by rw [beq_eq_false_iff_ne]; omega
        go_wp2
        go_round
        case rel =>
          refine ⟨k + 1, by omega, by go_num, ?_⟩
          simp only [HG.out]
          rw [wI (u.toNat : Int) (by omega) (by omega), wI _ (by omega) (by omega), HS.out, sumB_snoc, HO.out, HQ.out]
          simp [hp]
        case measure => simp [intOf]; omega
    · have : k = l.length := by omega
      subst this
      have hs := sumB_le false l
      rw [List.take_length]
      generalize hq : sumB false l = q at hs ⊢
      have HQ := Lib.hid hq
      clear hq
      go_wp2_with fail
      refine (rfold_any _ _ (by omega) (by omega)).mono ?_
      rintro e w' ⟨rfl, rfl⟩
      go_wp2_with fail
      go_ret
      exact ⟨by rw [rawN, HQ.out]; rfl, rfl⟩

theorem rof_any (l : List UInt8) (w : World) (hl : l.length ≤ 1099511627776) :
    Calls Tryd.prog 24 #[str l] w fun e w' => e = .returned (.int .i64 (65535 - rawN l : Nat)) ∧ w = w' := by
  have hf : rawN l ≤ 65535 := foldN_le _
  go_enter Tryd.func24, Tryd.ntmps24
  go_wp2_with fail
  refine (rraw_any l _ hl).mono ?_
  rintro e w' ⟨rfl, rfl⟩
  go_wp2_with fail
  go_ret
  exact ⟨ret_int (by omega), rfl⟩

end Go.Proofs.YtckbleiikldloaaDoor


/- What the program's bytes-and-numbers functions (octet.Cut, octet.Get, octet.Put, slices.Clone) compute. No condition but sizes. -/
import Derived.Test.YtbabkcdhihmomaaBase
import Derived.Lib.SliceRun
import Derived.BigQuiet
import Derived.Deep.QuietTactic
namespace Go.Proofs.Ytbabkcdhihmomaa
open Go.RowKit
set_option linter.unusedVariables false
set_option maxRecDepth 20000

theorem infoByte : (Try.prog.info? 5).map (fun i => (i.zero, i.size, i.bytes)) = some (some (.int .u8 0), 1, 1) := by kernel_rfl

set_option maxHeartbeats 400000 in
theorem clone_bytes (A : Option Addr) (n c : Nat) (l : List UInt8) (w : World) (h : Row w w.heap.size 1 A n (bv l)) (hn : n ≤ 1099511627776) :
    Calls Try.prog 38 #[.slice A n c] w fun e w' => ∃ A' c', e = .returned (.slice A' n c') ∧ Own w' w.heap.size 5 1 A' n c' (bv l) ∧ Below w.heap.size w w' := by
  rcases A with _ | a
  · have h0 : n = 0 := by
      rcases Nat.eq_zero_or_pos n with h0 | h0
      · exact h0
      · obtain ⟨b, o, hA, _⟩ := h.2 h0; cases hA
    subst h0
    have hl : bv l = [] := List.eq_nil_of_length_eq_zero (by simpa using h.1)
    rw [hl]
    clear hl h
    have he := fun W => Lib.run_eql_slice_nil (P := Try.prog) W 26 5 none 0 c 0 0 Try.underlying26
    go_enter Try.func38, Try.ntmps38
    go_wp2
    go_ret
    exact ⟨none, 0, rfl, Own.nil _ _ _ _ _, Below.refl _ _⟩
  · have he := fun W => Lib.run_eql_slice_nil (P := Try.prog) W 26 5 (some a) n c 0 0 Try.underlying26
    go_enter Try.func38, Try.ntmps38
    go_wp2_with (at_builtin; refine wpList_append_Own _ rfl _ _ 26 rfl w.heap.size 5 _ 1 1 Try.underlying26 infoByte rfl (by decide) _ 0 0 [] rfl (Own.nil _ _ _ _ _) w.heap.size (some a) n c (bv l) rfl (h.below ((Below.refl _ _).alloc (Nat.le_refl _) _)) (bv_one l) (by simp only [maxLen]; omega) (by omega) (by simp) ?_; intro A' c' w1 hown hg _)
    go_ret
    simp only [Nat.zero_add, List.nil_append] at hown
    exact ⟨A', c', by simp, hown, ((Below.refl _ _).alloc (Nat.le_refl _) _).grown hg (by simp) (by simp [blk])⟩

/-- the bytes are there -/
def There (n : Nat) (i s : Int) : Prop := 0 ≤ i ∧ 0 ≤ s ∧ i ≤ n ∧ s ≤ n - i
instance (n : Nat) (i s : Int) : Decidable (There n i s) := by unfold There; infer_instance

set_option maxHeartbeats 400000 in
theorem cut_no (A : Option Addr) (n c : Nat) (i s : Int) (w : World) (hn : n ≤ 1099511627776) (hno : ¬ There n i s) :
    Calls Try.prog 44 #[.slice A n c, .int .i64 i, .int .i64 s] w fun e w' => e = .returned (.tuple #[.slice none 0 0, .bool false]) ∧ w = w' := by
  by_cases h1 : i < 0
  · clear hno
    go_enter Try.func44, Try.ntmps44
    go_wp2_with fail
    go_ret2
    exact ⟨rfl, rfl⟩
  by_cases h2 : s < 0
  · clear hno
    go_enter Try.func44, Try.ntmps44
    go_wp2_with fail
    go_ret2
    exact ⟨rfl, rfl⟩
  by_cases h3 : (n : Int) < i
  · clear hno
    go_enter Try.func44, Try.ntmps44
    go_wp2_with fail
    go_ret2
    exact ⟨rfl, rfl⟩
  have h4 : (n : Int) - i < s := by unfold There at hno; omega
  clear hno
  go_enter Try.func44, Try.ntmps44
  go_wp2_with fail
  go_ret2
  exact ⟨rfl, rfl⟩

set_option maxHeartbeats 400000 in
theorem cut_yes (A : Option Addr) (n c : Nat) (l : List UInt8) (i s : Int) (w : World) (h : Row w w.heap.size 1 A n (bv l)) (hc : n ≤ c) (hcm : c ≤ maxLen) (hn : n ≤ 1099511627776) (hi : 0 ≤ i) (hs : 0 ≤ s) (hle : i + s ≤ n) :
    Calls Try.prog 44 #[.slice A n c, .int .i64 i, .int .i64 s] w fun e w' => ∃ A' c', e = .returned (.tuple #[.slice A' s.toNat c', .bool true]) ∧ Own w' w.heap.size 5 1 A' s.toNat c' (bv ((l.drop i.toNat).take s.toNat)) ∧ Below w.heap.size w w' := by
  obtain ⟨i, rfl⟩ := Int.eq_ofNat_of_zero_le hi
  obtain ⟨s, rfl⟩ := Int.eq_ofNat_of_zero_le hs
  simp only [Int.toNat_natCast]
  unfold maxLen at hcm
  have hle' : i + s ≤ n := by omega
  have h3 : i ≤ n := by omega
  have h4 : (s : Int) ≤ (n : Int) - (i : Int) := by omega
  clear hi hs
  by_cases hs0 : s = 0
  · subst hs0
    go_enter Try.func44, Try.ntmps44
    go_wp2_with fail
    refine (clone_bytes _ 0 _ [] _ (Row.nil _ _ _ _) (by omega)).mono ?_
    rintro e w' ⟨A', c', rfl, hown, hb⟩
    go_wp2_with fail
    go_ret2
    exact ⟨A', c', rfl, by simpa using hown, hb⟩
  · have hr := h.sub1 (i := i) (k := s) hle'
    rw [← bv_drop, ← bv_take] at hr
    have HR := Lib.hid hr
    clear hr h
    go_enter Try.func44, Try.ntmps44
    go_wp2_with fail
    refine (clone_bytes _ s _ _ _ HR.out (by omega)).mono ?_
    rintro e w' ⟨A', c', rfl, hown, hb⟩
    go_wp2_with fail
    go_ret2
    exact ⟨A', c', rfl, hown, hb⟩

/-- bytes as a number, the highest one first -/
def be (l : List UInt8) : Nat := l.foldl (fun n u => n * 256 + u.toNat) 0

set_option maxHeartbeats 400000 in
theorem get_no (A : Option Addr) (n c : Nat) (l : List UInt8) (i s : Int) (w : World) (h : Row w w.heap.size 1 A n (bv l)) (hc : n ≤ c) (hcm : c ≤ maxLen) (hn : n ≤ 1099511627776) (hno : ¬ (There n i s ∧ 1 ≤ s ∧ s ≤ 8)) :
    Calls Try.prog 37 #[.slice A n c, .int .i64 i, .int .i64 s] w fun e w' => e = .returned (.tuple #[.int .u64 0, .bool false]) ∧ Below w.heap.size w w' := by
  by_cases ht : There n i s
  · have H := Lib.hid ht
    obtain ⟨t1, t2, t3, t4⟩ := ht
    by_cases h1 : s < 1
    · clear hno
      go_enter Try.func37, Try.ntmps37
      go_wp2_with fail
      refine (cut_yes _ n c l _ _ _ h hc hcm hn t1 t2 (by omega)).mono ?_
      rintro e w' ⟨A', c', rfl, hown, hb⟩
      go_wp2_with fail
      go_ret2
      exact ⟨rfl, hb⟩
    · have h8 : 8 < s := Int.not_le.1 fun h8 => hno ⟨H.out, by omega, h8⟩
      clear hno
      go_enter Try.func37, Try.ntmps37
      go_wp2_with fail
      refine (cut_yes _ n c l _ _ _ h hc hcm hn t1 t2 (by omega)).mono ?_
      rintro e w' ⟨A', c', rfl, hown, hb⟩
      go_wp2_with fail
      go_ret2
      exact ⟨rfl, hb⟩
  · clear hno
    have H := Lib.hid ht
    clear ht
    go_enter Try.func37, Try.ntmps37
    go_wp2_with fail
    refine (cut_no _ n c _ _ _ hn H.out).mono ?_
    rintro e w' ⟨rfl, rfl⟩
    go_wp2_with fail
    go_ret2
    exact ⟨rfl, Below.refl _ _⟩

theorem be_snoc (l : List UInt8) (u : UInt8) : be (l ++ [u]) = be l * 256 + u.toNat := by simp [be]
theorem be_lt (l : List UInt8) : be l < 256 ^ l.length := by
  have h : ∀ k (l : List UInt8), l.length = k → be l < 256 ^ k := by
    intro k
    induction k with
    | zero => intro l hl; rw [List.eq_nil_of_length_eq_zero hl]; simp [be]
    | succ k ih =>
      intro l hl
      rcases List.eq_nil_or_concat l with rfl | ⟨r, u, rfl⟩
      · simp at hl
      · simp only [List.concat_eq_append, List.length_append, List.length_singleton] at hl ⊢
        have hr := ih r (by omega)
        have := u.toNat_lt
        rw [be_snoc, Nat.pow_succ]
        omega
  exact h _ l rfl
theorem or_join64 (a c : Int) (h0 : 0 ≤ a) (h1 : a < 72057594037927936) (h2 : 0 ≤ c) (h3 : c ≤ 255) : bits .or .u64 (a * 256) c = a * 256 + c := by
  obtain ⟨a, rfl⟩ := Int.eq_ofNat_of_zero_le h0
  obtain ⟨c, rfl⟩ := Int.eq_ofNat_of_zero_le h2
  have he : ((a : Int) * 256) = ((a * 256 : Nat) : Int) := by omega
  rw [he, u64_or_nat _ _ (by omega) (by omega), nat_join 8 _ _ (by omega) (by omega)]
  omega

set_option maxHeartbeats 400000 in
theorem get_yes (A : Option Addr) (n c : Nat) (l : List UInt8) (i s : Int) (w : World) (h : Row w w.heap.size 1 A n (bv l)) (hc : n ≤ c) (hcm : c ≤ maxLen) (hn : n ≤ 1099511627776) (hi : 0 ≤ i) (h1 : 1 ≤ s) (h8 : s ≤ 8) (hle : i + s ≤ n) :
    Calls Try.prog 37 #[.slice A n c, .int .i64 i, .int .i64 s] w fun e w' => e = .returned (.tuple #[.int .u64 (be ((l.drop i.toNat).take s.toNat) : Nat), .bool true]) ∧ Below w.heap.size w w' := by
  obtain ⟨s, rfl⟩ := Int.eq_ofNat_of_zero_le (show 0 ≤ s by omega)
  have hL : ((l.drop i.toNat).take s).length = s := by
    have := h.1
    rw [bv_length] at this
    simp
    omega
  go_enter Try.func37, Try.ntmps37
  go_wp2_with fail
  refine (cut_yes _ n c l _ _ _ h hc hcm hn (by omega) (by omega) (by omega)).mono ?_
  rintro e w' ⟨A', c', rfl, hown, hb⟩
  simp only [Int.toNat_natCast] at hown hL
  generalize hLe : (l.drop i.toNat).take s = L at hown hL
  have HL := Lib.hid hLe
  clear hLe
  have hrow := hown.row
  have HO := Lib.hid hown
  clear hown h
  go_wp2_with fail
  go_loop [10, 32] (fun m j => ∃ k : Nat, k ≤ s ∧ j = .int .i64 k ∧ m = .int .u64 (be (L.take k) : Nat)) (fun _ j => s - (intOf j).toNat)
  case atStart => exact ⟨0, Nat.zero_le _, rfl, by simp [be]⟩
  case round =>
    obtain ⟨k, hk, rfl, rfl⟩ := hrel
    by_cases hlt : k < s
    · obtain ⟨b, o, rfl, hbB, hcell⟩ := hrow.2 (by omega)
      obtain ⟨u, hu⟩ := get_ex L (k := k) (by omega)
      have hcu := hcell k _ (bv_get L k u hu)
      have hub := byte_le u
      have hlt2 : be (L.take k) < 256 ^ 7 := by
        refine Nat.lt_of_lt_of_le (be_lt _) (Nat.pow_le_pow_right (by omega) ?_)
        rw [List.length_take]
        omega
      have HS := Lib.hid (take_snoc L k u hu)
      clear hu hcell
      go_wp2
      go_round
      case rel =>
        refine ⟨k + 1, by omega, by go_num, ?_⟩
        rw [HS.out, be_snoc, or_join64 _ _ (by omega) (by omega) hub.1 hub.2]
        go_num
      case measure => simp [intOf]; omega
    · go_wp2
      go_ret2
      have ht : L.take k = L := List.take_of_length_le (by omega)
      exact ⟨by rw [← HL.out] at ht ⊢; simp [ht], hb⟩

/-- a number as so many bytes, the highest one first -/
def toBe : Nat → Nat → List UInt8
  | 0, _ => []
  | s + 1, m => toBe s (m / 256) ++ [UInt8.ofNat (m % 256)]
theorem toBe_length (s m : Nat) : (toBe s m).length = s := by
  induction s generalizing m with
  | zero => rfl
  | succ s ih => simp [toBe, ih]
theorem toBe_get (s m k : Nat) (h : k < s) : (toBe s m)[k]? = some (UInt8.ofNat (m / 256 ^ (s - 1 - k) % 256)) := by
  induction s generalizing m with
  | zero => omega
  | succ s ih =>
    rw [toBe]
    rcases Nat.lt_or_ge k s with hk | hk
    · rw [List.getElem?_append_left (by rw [toBe_length]; exact hk), ih _ hk, Nat.div_div_eq_div_mul, ← Nat.pow_succ']
      rw [show (s - 1 - k).succ = s + 1 - 1 - k by omega]
    · have : k = s := by omega
      subst this
      rw [List.getElem?_append_right (by rw [toBe_length]; omega), toBe_length]
      simp

theorem cast_shr (m k : Nat) : (m : Int) / 2 ^ k = ((m / 2 ^ k : Nat) : Int) := by rw [Int.natCast_ediv, Int.natCast_pow]; rfl
theorem set_mid {α : Type} (X : List α) (y : α) (r : List α) (v : α) (j : Nat) (h : X.length = j) : (X ++ y :: r).set j v = X ++ v :: r := by
  subst h
  simp
theorem put_step (l : List UInt8) (i s k m : Nat) (hi : i + k < l.length) (hk : k < s) :
    (bv (l.take i ++ (toBe s m).take k ++ l.drop (i + k))).set (i + k) (.int .u8 ((m : Int) / 2 ^ (8 * (s - 1 - k)) % 256)) = bv (l.take i ++ (toBe s m).take (k + 1) ++ l.drop (i + (k + 1))) := by
  have hX : (bv (l.take i ++ (toBe s m).take k)).length = i + k := by rw [bv_length]; simp [toBe_length]; omega
  unfold bv at hX
  rw [take_snoc _ k _ (toBe_get s m k hk), List.drop_eq_getElem_cons hi, bv_append]
  simp only [bv, List.map_cons]
  rw [set_mid _ _ _ _ _ hX]
  simp only [List.map_append, List.map_cons, List.append_assoc, List.cons_append, List.nil_append]
  have e : ((m : Int) / 2 ^ (8 * (s - 1 - k)) % 256) = ((UInt8.ofNat (m / 256 ^ (s - 1 - k) % 256)).toNat : Int) := by
    rw [UInt8.toNat_ofNat', Nat.mod_eq_of_lt (Nat.mod_lt _ (by omega)), show (256 : Nat) ^ (s - 1 - k) = 2 ^ (8 * (s - 1 - k)) from (Nat.pow_mul 2 8 _).symm, Int.natCast_emod, ← cast_shr]
    rfl
  rw [e, Nat.add_assoc]

set_option maxHeartbeats 400000 in
theorem put_no (A : Option Addr) (n c : Nat) (l : List UInt8) (i s m : Int) (w : World) (h : Row w w.heap.size 1 A n (bv l)) (hc : n ≤ c) (hcm : c ≤ maxLen) (hn : n ≤ 1099511627776) (hno : ¬ (There n i s ∧ 1 ≤ s ∧ s ≤ 8)) :
    Calls Try.prog 21 #[.slice A n c, .int .i64 i, .int .i64 s, .int .u64 m] w fun e w' => e = .returned (.tuple #[.slice none 0 0, .bool false]) ∧ Below w.heap.size w w' := by
  have H := Lib.hid hno
  clear hno
  go_enter Try.func21, Try.ntmps21
  go_wp2_with fail
  refine (get_no _ n c l _ _ _ h hc hcm hn H.out).mono ?_
  rintro e w' ⟨rfl, hb⟩
  go_wp2_with fail
  go_ret2
  exact ⟨rfl, hb⟩

set_option maxHeartbeats 400000 in
theorem put_yes (A : Option Addr) (n c : Nat) (l : List UInt8) (i s m : Int) (w : World) (h : Row w w.heap.size 1 A n (bv l)) (hc : n ≤ c) (hcm : c ≤ maxLen) (hn : n ≤ 1099511627776) (hi : 0 ≤ i) (h1 : 1 ≤ s) (h8 : s ≤ 8) (hle : i + s ≤ n) (hm : 0 ≤ m) (hm2 : m < 256 ^ s.toNat) :
    Calls Try.prog 21 #[.slice A n c, .int .i64 i, .int .i64 s, .int .u64 m] w fun e w' => ∃ A' c', e = .returned (.tuple #[.slice A' n c', .bool true]) ∧ Own w' w.heap.size 5 1 A' n c' (bv (l.take i.toNat ++ toBe s.toNat m.toNat ++ l.drop (i.toNat + s.toNat))) ∧ Below w.heap.size w w' := by
  obtain ⟨s, rfl⟩ := Int.eq_ofNat_of_zero_le (show 0 ≤ s by omega)
  obtain ⟨i, rfl⟩ := Int.eq_ofNat_of_zero_le hi
  obtain ⟨m, rfl⟩ := Int.eq_ofNat_of_zero_le hm
  simp only [Int.toNat_natCast] at hm2 ⊢
  have hmn : m < 2 ^ (8 * s) := by
    have h2 : m < 256 ^ s := by rw [show (256 : Int) ^ s = ((256 ^ s : Nat) : Int) from (Int.natCast_pow 256 s).symm] at hm2; exact Int.ofNat_lt.1 hm2
    rw [Nat.pow_mul]
    exact h2
  have Ht : ((m : Int) / 2 ^ (8 * s) != 0) = false := by
    have h0 : (m : Int) / 2 ^ (8 * s) = ((m / 2 ^ (8 * s) : Nat) : Int) := cast_shr m _
    rw [h0, Nat.div_eq_of_lt hmn]
    rfl
  clear hm2 hmn
  have hl : l.length = n := by have := h.1; rw [bv_length] at this; omega
  by_cases hs8 : (s : Int) < 8
  all_goals
    go_enter Try.func21, Try.ntmps21
    go_wp2_with fail
    refine (get_yes _ n c l _ _ _ h hc hcm hn (by omega) (by omega) (by omega) (by omega)).mono ?_
    rintro e w' ⟨rfl, hb⟩
    go_wp2_with fail
    refine (clone_bytes _ n _ l _ ((h.below hb).more hb.size) hn).mono ?_
    rintro e w1 ⟨A', c', rfl, hown, hb1⟩
    have hown := hown.mono hb.size
    have hbb := hb.trans (hb1.mono hb.size)
    obtain ⟨g, rfl, hg1, hg2, _, _⟩ := hown.open_ (by omega)
    clear h hb hb1
    go_wp2_with fail
    go_loopw [37] (fun j wr => ∃ k : Nat, k ≤ s ∧ j = .int .i64 k ∧ Own wr w.heap.size 5 1 (some ⟨g, 0, none⟩) n c' (bv (l.take i ++ (toBe s m).take k ++ l.drop (i + k))) ∧ Below w.heap.size w wr) (fun j _ => s - (intOf j).toNat)
    case atStart => exact ⟨0, Nat.zero_le _, rfl, by simpa using hown, hbb⟩
    case round =>
      obtain ⟨k, hk, rfl, hown, hbb⟩ := hrel
      by_cases hlt : k < s
      · obtain ⟨g', hg', _, hg4, hcell, hfro⟩ := hown.open_ (by omega)
        injection hg' with hg'
        injection hg' with hg'
        subst hg'
        obtain ⟨u, hu⟩ := get_ex (l.take i ++ (toBe s m).take k ++ l.drop (i + k)) (k := i + k) (by simp [toBe_length]; omega)
        have hcu := hcell (i + k) _ (bv_get _ _ u hu)
        have hfu := hfro (i + k)
        have HO := Lib.hid hown
        clear hu hcell hfro hown
        have hxl : (l.take i ++ (toBe s m).take k ++ l.drop (i + k)).length = n := by simp [toBe_length]; omega
        go_wp2
        go_roundw
        case rel =>
          refine ⟨k + 1, by omega, by go_num, ?_, hbb.setCell hg1 _⟩
          have := HO.out.set (j := i + k) (by omega) (.int .u8 ((m : Int) / 2 ^ (8 * (s - 1 - k)) % 256))
          rwa [put_step l i s k m (by omega) hlt] at this
        case measure => simp [intOf]; omega
      · have : k = s := by omega
        subst this
        have HO := Lib.hid hown
        clear hown
        go_wp2
        go_ret2
        refine ⟨_, _, rfl, ?_, hbb⟩
        have := HO.out
        rwa [List.take_of_length_le (l := toBe k m) (by rw [toBe_length]; omega)] at this
end Go.Proofs.Ytbabkcdhihmomaa

/- What the small functions of flows compute. No condition but sizes. -/
import Derived.Test.YthjjcglheialfaaKey
import Derived.Test.YthjjcglheialfaaAddr6
import Derived.Laws.BitsAllLaws
namespace Go.Proofs.Ythjjcglheialfaa
open Go.RowKit
set_option linter.unusedVariables false
set_option maxRecDepth 20000
set_option linter.unusedSimpArgs false

theorem results_cell3 {P : Program} {fn : Func} {p u v : Tmp} {ty : TypeId} (h : fn.results = #[.cell p ty, .tmp u, .tmp v]) (tmps : Array Value) (w : World) (g : Nat) (cs : List Value) (t : TypeId) (d : TypeDesc) (hp : tmps.getD p undef = .pointer (some ⟨g, 0, none⟩)) (hb : Blk w g t cs)
    (hu : P.underlying ty = some d) (hd : (match d with | .struct _ | .array _ _ => true | _ => false) = true) (hi : (P.info? ty).map (·.size) = some cs.length) : (results fn tmps).run P w = .ok (.tuple #[.agg cs.toArray, tmps.getD u undef, tmps.getD v undef]) w := by
  have hp' : (tmps[p]?).getD undef = .pointer (some ⟨g, 0, none⟩) := by simpa using hp
  simp [results, h, hp', asAddr, run_loadVar_row w g t ty cs.toArray (0, 0) d hb hu hd (by simpa using hi)]

/-- bytes mixed to a number -/
def mixS (n c : Nat) : Nat := (n ^^^ c) * 16777619 % 4294967296
def mixF (l : List UInt8) : Nat := l.foldl (fun n u => mixS n u.toNat) 2166136261
theorem foldl_snoc {α β : Type} (f : β → α → β) (b : β) (l : List α) (u : α) : (l ++ [u]).foldl f b = f (l.foldl f b) u := by simp
theorem mixF_snoc (l : List UInt8) (u : UInt8) : mixF (l ++ [u]) = mixS (mixF l) u.toNat := foldl_snoc _ _ _ _
theorem mixS_lt (n c : Nat) : mixS n c < 4294967296 := by unfold mixS; omega
theorem mixF_nil : mixF [] = 2166136261 := rfl
theorem mixF_lt (l : List UInt8) : mixF l < 4294967296 := by
  rcases List.eq_nil_or_concat l with rfl | ⟨r, u, rfl⟩
  · rw [mixF_nil]; omega
  · rw [List.concat_eq_append, mixF_snoc]; exact mixS_lt _ _
theorem xor_low (n c : Nat) (hc : c < 256) : n - n % 256 + (n % 256 ^^^ c) = n ^^^ c := by
  have h1 : (n ^^^ c) / 2 ^ 8 = n / 2 ^ 8 := by rw [Nat.xor_div_two_pow, Nat.div_eq_of_lt (show c < 2 ^ 8 by omega), Nat.xor_zero]
  have h2 : (n ^^^ c) % 2 ^ 8 = n % 2 ^ 8 ^^^ c := by rw [Nat.xor_mod_two_pow, Nat.mod_eq_of_lt (show c < 2 ^ 8 by omega)]
  have e : (2 : Nat) ^ 8 = 256 := rfl
  rw [e] at h1 h2
  omega

set_option maxHeartbeats 1000000 in
theorem mix_any (A : Option Addr) (n c : Nat) (l : List UInt8) (w : World) (h : Row w w.heap.size 1 A n (bv l)) (hn : n ≤ 1099511627776) :
    Calls Try.prog 13 #[.slice A n c] w fun e w' => e = .returned (.int .u32 (mixF l : Nat)) ∧ w = w' := by
  have hll : l.length = n := by have := h.1; rw [bv_length] at this; omega
  go_enter Try.func13, Try.ntmps13
  go_wp2_with fail
  go_loop [3, 8] (fun m j => ∃ k : Nat, k ≤ n ∧ j = .int .i64 k ∧ m = .int .u32 (mixF (l.take k) : Nat)) (fun _ j => n - (intOf j).toNat)
  case atStart => exact ⟨0, Nat.zero_le _, rfl, rfl⟩
  case round =>
    obtain ⟨k, hk, rfl, rfl⟩ := hrel
    by_cases hlt : k < n
    · obtain ⟨b, o, rfl, hbB, hcell⟩ := h.2 (by omega)
      obtain ⟨u, hu⟩ := get_ex l (k := k) (by omega)
      have hcu := hcell k _ (bv_get l k u hu)
      have hub := byte_le u
      have hmb := mixF_lt (l.take k)
      have HS : Hid (mixF (l.take (k + 1)) = mixS (mixF (l.take k)) u.toNat) := Lib.hid (by rw [take_snoc l k u hu, mixF_snoc])
      generalize mixF (l.take k) = m at hmb HS ⊢
      have hx : bits .xor .u32 (m : Int) (u.toNat : Int) = ((m ^^^ u.toNat : Nat) : Int) := u32_xor_nat m u.toNat (by omega) (by have := u.toNat_lt; omega)
      have HX := Lib.hid (show ((m ^^^ u.toNat : Nat) : Int) * 16777619 % 4294967296 = (mixS m u.toNat : Nat) by
        unfold mixS
        omega)
      clear hu hcell h hll
      go_wp2
      go_round
      case rel =>
        refine ⟨k + 1, by omega, by go_num, ?_⟩
        rw [HS.out, HX.out]
      case measure => simp [intOf]; omega
    · have : k = n := by omega
      subst this
      have ht : l.take k = l := List.take_of_length_le (by omega)
      rw [ht]
      clear ht h hll
      go_wp2
      go_ret
      exact ⟨rfl, rfl⟩

set_option maxHeartbeats 1000000 in
theorem rmix_any (l : List UInt8) (w : World) (hn : l.length ≤ 1099511627776) :
    Calls Try.prog 14 #[str l] w fun e w' => e = .returned (.int .u32 (mixF l : Nat)) ∧ w = w' := by
  go_enter Try.func14, Try.ntmps14
  go_wp2_with fail
  go_loop [3, 4] (fun m j => ∃ k : Nat, k ≤ l.length ∧ j = .int .i64 k ∧ m = .int .u64 (mixF (l.take k) : Nat)) (fun _ j => l.length - (intOf j).toNat)
  case atStart => exact ⟨0, Nat.zero_le _, rfl, rfl⟩
  case round =>
    obtain ⟨k, hk, rfl, rfl⟩ := hrel
    by_cases hlt : k < l.length
    · obtain ⟨u, hu⟩ := get_ex l (k := k) (by omega)
      have hg := ba_get l k u hu
      have hub := byte_le u
      have hmb := mixF_lt (l.take k)
      have HS : Hid (mixF (l.take (k + 1)) = mixS (mixF (l.take k)) u.toNat) := Lib.hid (by rw [take_snoc l k u hu, mixF_snoc])
      generalize mixF (l.take k) = m at hmb HS ⊢
      have hx : bits .xor .u64 ((m : Int) % 256) (u.toNat : Int) = ((m % 256 ^^^ u.toNat : Nat) : Int) := by
        have := u64_xor_nat (m % 256) u.toNat (by omega) (by have := u.toNat_lt; omega)
        rw [← this]
        rfl
      have hxl := xor_low m u.toNat u.toNat_lt
      have hxb : m % 256 ^^^ u.toNat < 256 := Nat.xor_lt_two_pow (n := 8) (by omega) u.toNat_lt
      obtain ⟨y, hy⟩ : ∃ y, y = m % 256 ^^^ u.toNat := ⟨_, rfl⟩
      rw [← hy] at hx hxl hxb
      have HV := Lib.hid (show ((m : Int) - (m : Int) % 256 + (y : Int)) * 16777619 % 4294967296 = (mixS m u.toNat : Nat) by
        unfold mixS
        rw [← hxl]
        omega)
      clear hu hxl hy
      go_wp2
      go_round
      case rel =>
        refine ⟨k + 1, by omega, by go_num, ?_⟩
        rw [HS.out, HV.out]
      case measure => simp [intOf]; omega
    · have : k = l.length := by omega
      subst this
      rw [List.take_length]
      have hmb := mixF_lt l
      have hw : IntKind.u32.wrap (mixF l : Nat) = (mixF l : Nat) := by rw [IntKind.wrap_u32]; omega
      obtain ⟨m, hm⟩ : ∃ m, m = mixF l := ⟨_, rfl⟩
      rw [← hm] at hmb hw
      rw [← hm]
      have HM := Lib.hid hm
      clear hm
      go_wp2
      go_ret
      exact ⟨by rw [← HM.out]; rfl, rfl⟩

/-- a number's rest by 65536, as two bytes -/
def restN (n : Int) : Nat := (n % 65536).toNat
theorem two_any (n : Int) (w : World) (h0 : -9223372036854775808 ≤ n) (h1 : n ≤ 9223372036854775807) :
    Calls Try.prog 31 #[.int .i64 n] w fun e w' => e = .returned (str (toBe 2 (restN n))) ∧ Below w.heap.size w w' := by
  have hw : IntKind.u64.wrap n % 65536 = n % 65536 := by rw [IntKind.wrap_u64]; omega
  have hb0 : 0 ≤ n % 65536 := by omega
  have hb1 : n % 65536 < 65536 := by omega
  have hwn : 0 ≤ IntKind.u64.wrap n := by rw [IntKind.wrap_u64]; omega
  have hwl : IntKind.u64.wrap n ≤ 18446744073709551615 := by rw [IntKind.wrap_u64]; omega
  obtain ⟨x, hx⟩ : ∃ x, x = n % 65536 := ⟨_, rfl⟩
  rw [← hx] at hw hb0 hb1
  have HX := Lib.hid (show x.toNat = restN n by rw [hx]; rfl)
  clear hx
  go_enter Try.func31, Try.ntmps31
  go_wp2_with fail
  refine (bytes_any x 2 _ hb0 (by omega) (by omega) (by omega)).mono ?_
  rintro e w1 ⟨rfl, hb⟩
  rw [HX.out]
  go_wp2
  go_ret
  exact ⟨rfl, hb⟩

def z12 : List UInt8 := [0, 0, 0, 0, 0, 0, 0, 0, 0, 0, 0, 0]
theorem run_buildW (a b c d : UInt8) (w : World) : (Instr.build 24 #[(0, .int .u8 (a.toNat : Int)), (1, .int .u8 (b.toNat : Int)), (2, .int .u8 (c.toNat : Int)), (3, .int .u8 (d.toNat : Int))]).run Try.prog w = .ok (.agg (bv ([a, b, c, d] ++ z12)).toArray) w := by kernel_rfl
theorem exec_buildW {w : World} {o : Oper} {x : Act} (x0 x1 x2 x3 : Operand) (ho : o.op = .build 24 #[(0, x0), (1, x1), (2, x2), (3, x3)]) (a b c d : UInt8)
    (h0 : x.eval x0 = .int .u8 (a.toNat : Int)) (h1 : x.eval x1 = .int .u8 (b.toNat : Int)) (h2 : x.eval x2 = .int .u8 (c.toNat : Int)) (h3 : x.eval x3 = .int .u8 (d.toNat : Int)) :
    (execOp x.eval o).run Try.prog w = .ok (.value (.agg (bv ([a, b, c, d] ++ z12)).toArray)) w := by
  unfold execOp
  simp only [ho, List.map_toArray, List.map_cons, List.map_nil, h0, h1, h2, h3, Sem.run_bind, run_buildW, Result.andThen_ok]
  rfl
set_option maxHeartbeats 1000000 in
theorem wide_any (l : List UInt8) (w : World) (hl : l.length = 4) :
    Calls Try.prog 25 #[.agg (bv l).toArray] w fun e w' => e = .returned (.agg (bv (l ++ z12)).toArray) ∧ Below w.heap.size w w' := by
  obtain ⟨a, b, c, d, rfl⟩ := list4 l hl
  clear hl
  go_enter Try.func25, Try.ntmps25
  go_wp2_with (first
    | (refine wpList_box_blk rfl 44 _ rfl (bv [a, b, c, d]) rfl ?_; intro w1 hb1 hB1 hs1)
    | (refine wpList_alloc_blk rfl 24 rfl (bv z16) zero24 ?_; intro w2 hb2 hB2 hs2; have hb12 := hb1.on hB2; have c0 : w2.cell? ⟨w.heap.size, 0, none⟩ = some (.int .u8 (a.toNat : Int)) := hb12.cell 0; have c1 : w2.cell? ⟨w.heap.size, 1, none⟩ = some (.int .u8 (b.toNat : Int)) := hb12.cell 1; have c2 : w2.cell? ⟨w.heap.size, 2, none⟩ = some (.int .u8 (c.toNat : Int)) := hb12.cell 2; have c3 : w2.cell? ⟨w.heap.size, 3, none⟩ = some (.int .u8 (d.toNat : Int)) := hb12.cell 3; have hbe := hb2; rw [hs1] at hbe)
    | (refine wpList_value rfl (exec_buildW _ _ _ _ rfl a b c d rfl rfl rfl rfl) ?_)
    | (refine wpList_store_all rfl 24 _ _ rfl (w.heap.size + 1) _ rfl rfl 24 _ hbe (size24 _ rfl) rfl (bv_one _) ?_; intro w3 hb3 hg3 hs3))
  refine bodyPost_ret (results_cell1 rfl _ _ (w.heap.size + 1) _ _ _ rfl hb3 Try.underlying24 rfl (size24 _ rfl)) rfl ?_
  exact ⟨rfl, bgrown (bthen hB1 hB2) hg3 (by omega) (by omega)⟩

set_option maxHeartbeats 2000000 in
theorem plain_any (k : Ky) (hk : k.ok) (w : World) :
    Calls Try.prog 10 #[.agg k.cells.toArray] w fun e w' => e = .returned (.agg k.cells.toArray) ∧ Below w.heap.size w w' := by
  have HK := Lib.hid hk
  have HS := Lib.hid (k.drop_src hk)
  have HD := Lib.hid (k.drop_dst hk)
  have HT := Lib.hid (k.get_tail hk)
  clear hk
  go_enter Try.func10, Try.ntmps10
  go_wp2_with (first
    | (refine wpList_box_blk rfl 26 _ rfl k.cells rfl ?_; intro w1 hb1 hB1 hs1)
    | (refine wpList_alloc_blk rfl 29 rfl Ky.zero.cells zeroR ?_; intro w2 hb2 hB2 hs2; have hb12 := hb1.on hB2; have c0 : w2.cell? ⟨w.heap.size, 0, none⟩ = some (.bool k.six) := hb12.cell 0; have c33 : w2.cell? ⟨w.heap.size, 33, none⟩ = some (.int .u8 k.pro) := (hb12.cell 33).trans (HT.out 0); have c34 : w2.cell? ⟨w.heap.size, 34, none⟩ = some (.int .i64 k.fr) := (hb12.cell 34).trans (HT.out 1); have c35 : w2.cell? ⟨w.heap.size, 35, none⟩ = some (.int .i64 k.to) := (hb12.cell 35).trans (HT.out 2); have hbe := hb2; rw [hs1] at hbe; have r1 := hb12.range 1 16; rw [HS.out] at r1; have r2 := hb12.range 17 16; rw [HD.out] at r2; have R1 := Lib.hid r1; have R2 := Lib.hid r2; clear r1 r2)
    | (refine wpList_load_midB rfl 24 (.tmp 5) rfl w.heap.size 1 rfl _ _ R1.out Try.underlying24 rfl (size24 _ HK.out.src) ?_)
    | (refine wpList_load_midB rfl 24 (.tmp 7) rfl w.heap.size 17 rfl _ _ R2.out Try.underlying24 rfl (size24 _ HK.out.dst) ?_)
    | (refine wpList_value rfl (exec_buildRf _ _ _ _ _ _ rfl k HK.out rfl rfl rfl rfl rfl rfl) ?_)
    | (refine wpList_store_all rfl 29 _ _ rfl (w.heap.size + 1) _ rfl rfl 29 _ hbe (sizeR _ HK.out) (Ky.cells_same _ _ HK.out Ky.zero_ok) (Ky.one _) ?_; intro w3 hb3 hg3 hs3))
  refine bodyPost_ret (results_cell1 rfl _ _ (w.heap.size + 1) _ _ _ rfl hb3 Try.underlying29 rfl (sizeR _ HK.out)) rfl ?_
  exact ⟨rfl, bgrown (bthen hB1 hB2) hg3 (by omega) (by omega)⟩

end Go.Proofs.Ythjjcglheialfaa

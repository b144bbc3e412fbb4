/- What icmp4.Is, icmp6.Is and the references' Is compute. No condition but sizes. -/
import Derived.Test.YtimkgkokidhhpaaPerm1
import Derived.Test.YtimkgkokidhhpaaIp4c
import Derived.Test.YtimkgkokidhhpaaIp6b
namespace Go.Proofs.Ytimkgkokidhhpaa
open Go.RowKit
set_option linter.unusedVariables false
set_option maxRecDepth 20000
set_option linter.unusedSimpArgs false

theorem exec_eqE {w : World} {o : Oper} {c : Act} (x : Operand) (ty : TypeId) (r : List UInt8) (b : Bool) (hb : r.isEmpty = b) (ho : o.op = .binOp .eql 9 x (.const (str [])) ty) (hx : c.eval x = str r) : (execOp c.eval o).run Try.prog w = .ok (.value (.bool b)) w := by
  subst hb
  unfold execOp
  simp only [ho, hx]
  cases r with
  | nil => go_simp
  | cons u r => go_simp
theorem exec_neE {w : World} {o : Oper} {c : Act} (x : Operand) (ty : TypeId) (r : List UInt8) (b : Bool) (hb : r.isEmpty = b) (ho : o.op = .binOp .neq 9 x (.const (str [])) ty) (hx : c.eval x = str r) : (execOp c.eval o).run Try.prog w = .ok (.value (.bool (!b))) w := by
  subst hb
  unfold execOp
  simp only [ho, hx]
  cases r with
  | nil => go_simp
  | cons u r => go_simp

def u8s (l : List Int) : List Value := l.map (Value.int .u8)
def idxU (x : Int) (l : List Int) (k : Int) : Int := match l with | [] => -1 | y :: t => if x = y then k else idxU x t (k + 1)
theorem u8s_length (l : List Int) : (u8s l).length = l.length := by simp [u8s]
theorem u8s_get (l : List Int) (k : Nat) (x : Int) (h : l[k]? = some x) : (u8s l)[k]? = some (.int .u8 x) := by simp [u8s, h]

set_option maxHeartbeats 1000000 in
theorem indexU_any (A : Option Addr) (n c : Nat) (l : List Int) (s : Int) (w : World) (hr : Row w w.heap.size 1 A n (u8s l)) (hn : n ≤ 1099511627776) :
    Calls Try.prog 80 #[.slice A n c, .int .u8 s] w fun e w' => e = .returned (.int .i64 (idxU s l 0)) ∧ w = w' := by
  have hlen : l.length = n := by have := hr.1; rw [u8s_length] at this; omega
  have HR := Lib.hid hr
  clear hr
  go_enter Try.func80, Try.ntmps80
  go_wp2_with fail
  go_loop [5, 8] (fun _ x => ∃ k : Nat, k ≤ n ∧ x = .int .i64 k ∧ idxU s l 0 = idxU s (l.drop k) k) (fun _ x => n - (intOf x).toNat)
  case atStart => exact ⟨0, by omega, rfl, rfl⟩
  case round =>
    obtain ⟨k, hk, rfl, hi⟩ := hrel
    have HI := Lib.hid hi
    clear hi
    by_cases hlt : k < n
    · obtain ⟨x, hx⟩ := get_ex l (k := k) (by omega)
      obtain ⟨b, o, rfl, hb, hcell⟩ := HR.out.2 (by omega)
      have hc := hcell k _ (u8s_get l k x hx)
      have HD := Lib.hid (List.drop_eq_getElem?_toList_append (l := l) (i := k))
      have HX := Lib.hid hx
      clear hx hcell
      by_cases he : s = x
      · have hE : (s == x) = true := by simpa using he
        have HE := Lib.hid he
        clear he
        go_wp2
        go_ret
        refine ⟨ret_int ?_, rfl⟩
        rw [HI.out, HD.out, HX.out]
        simp only [Option.toList_some, List.cons_append, List.nil_append]
        unfold idxU
        rw [if_pos HE.out]
      · have hE : (s == x) = false := by simpa using he
        have HE := Lib.hid he
        clear he
        go_wp2
        go_round
        case rel =>
          refine ⟨k + 1, by omega, by simp, ?_⟩
          rw [HI.out, HD.out, HX.out]
          simp only [Option.toList_some, List.cons_append, List.nil_append]
          conv => lhs; unfold idxU
          rw [if_neg (fun e => HE.out e)]
          rfl
        case measure => simp [intOf]; omega
    · obtain rfl : k = n := by omega
      go_wp2
      go_ret
      refine ⟨ret_int ?_, rfl⟩
      rw [HI.out, List.drop_of_length_le (by omega)]
      rfl
theorem row_u8s {e : TypeId} (w : World) (cs : Array Value) (xs : List Int) (n g : Nat) (h : cs.toList = u8s xs) (hn : xs.length = n) (hg : w.heap.size = g) : Row (w.alloc (.cells cs e)) (w.alloc (.cells cs e)).heap.size 1 (some ⟨g, 0, none⟩) n (u8s xs) := by
  subst hg
  have hsz : cs.size = n * 1 := by rw [← Array.length_toList, h, u8s_length]; simp [hn]
  have := Row.new (e := e) w cs hsz
  rw [h] at this
  rw [World.size_alloc]
  exact this
theorem idxU_has (x : Int) (l : List Int) (k : Int) (hk : 0 ≤ k) : decide (0 ≤ idxU x l k) = l.contains x := by
  induction l generalizing k with
  | nil => rfl
  | cons y t ih =>
    unfold idxU
    by_cases h : x = y
    · subst h; simp [hk]
    · rw [if_neg h, ih (k + 1) (by omega)]; simp [h]
set_option maxHeartbeats 1000000 in
theorem contains_any (A : Option Addr) (n c : Nat) (l : List Int) (s : Int) (w : World) (hr : Row w w.heap.size 1 A n (u8s l)) (hn : n ≤ 1099511627776) :
    Calls Try.prog 66 #[.slice A n c, .int .u8 s] w fun e w' => e = .returned (.bool (l.contains s)) ∧ w = w' := by
  have HR := Lib.hid hr
  have HI := Lib.hid (idxU_has s l 0 (by omega))
  clear hr
  go_enter Try.func66, Try.ntmps66
  go_wp2_with fail
  refine (indexU_any A n c l s w HR.out hn).mono ?_
  rintro e w' ⟨rfl, rfl⟩
  generalize idxU s l 0 = r at HI ⊢
  go_wp2
  go_ret
  exact ⟨ret_bool (by rw [← HI.out]), rfl⟩

def kinds : List Int := [3, 4, 5, 11, 12]
def headIs (f : Int → Bool) : List UInt8 → Bool
  | [] => false
  | u :: _ => f (u.toNat : Int)
def is4F (l : List UInt8) : Bool := (par4 l).2 == 0 && ((par4 l).1.pro == 1 && (!(decide ((par4 l).1.off > 0)) && headIs (fun x => kinds.contains x) (body4 l)))
def is6F (l : List UInt8) : Bool := (par6 l).2 == 0 && ((par6 l).1.next == 58 && headIs (fun x => decide (x < 128)) (body6 l))

set_option maxHeartbeats 4000000 in
theorem is4_any (A : Option Addr) (n c : Nat) (l : List UInt8) (w : World) (h : Row w w.heap.size 1 A n (bv l)) (hc : n ≤ c) (hcm : c ≤ maxLen) (hn : n ≤ 1099511627776) :
    Calls Try.prog 30 #[.slice A n c] w fun e w' => e = .returned (.bool (is4F l)) ∧ Below w.heap.size w w' := by
  have P := parse4_any A n c l w h hc hcm hn
  have Q := fun W (hB : Below w.heap.size w W) => body4_any A n c l W ((h.below hB).more hB.size) hc hcm hn
  have hok := par4_ok l
  have hd : is4F l = is4F l := rfl
  conv at hd => rhs; unfold is4F
  cases hp : par4 l with
  | mk h0 er =>
  rw [hp] at P hok hd
  simp only at P hok hd
  obtain ⟨p, hpp⟩ : ∃ p, h0.pro = p := ⟨_, rfl⟩
  rw [hpp] at hd
  obtain ⟨f, hff⟩ : ∃ f, h0.off = f := ⟨_, rfl⟩
  rw [hff] at hd
  have HF := Lib.hid hff
  clear hff
  obtain ⟨bd, hbd⟩ : ∃ bd, body4 l = bd := ⟨_, rfl⟩
  rw [hbd] at hd
  simp only [hbd] at Q
  have HP := Lib.hid P
  have HQ := Lib.hid Q
  have HOK := Lib.hid hok
  have HE := Lib.hid hpp
  have HD := Lib.hid hd
  clear P Q hok hpp hd hp hbd h
  by_cases hA : er = 0
  · subst hA
    by_cases hB : p = 1
    · subst hB
      by_cases hf : f > 0
      · go_enter Try.func30, Try.ntmps30
        go_wp2_with fail
        refine HP.out.mono ?_
        rintro e w1 ⟨rfl, hB1⟩
        go_wp2_with (first
          | (refine wpList_alloc_blk rfl 42 rfl H4.zero.cells zero4 ?_; intro w2 hbw2 hBw2 hsw2)
          | (refine wpList_store_all rfl 42 _ _ rfl w1.heap.size h0.cells rfl rfl 42 _ hbw2 (size4 _ HOK.out) (H4.cells_same _ _ HOK.out H4.zero_ok) (H4.one _) ?_; intro w3 hbw3 hgw3 hsw3; have hBw3 : Below w1.heap.size w1 w3 := bgrown hBw2 hgw3 (by omega) (by omega)); have c7 : w3.cell? ⟨w1.heap.size, 7, none⟩ = some (.int .u8 1) := (hbw3.cell 7).trans (by show some (Value.int .u8 h0.pro) = _; rw [HE.out]); have c5 : w3.cell? ⟨w1.heap.size, 5, none⟩ = some (.int .i64 f) := (hbw3.cell 5).trans (by show some (Value.int .i64 h0.off) = _; rw [HF.out]))
        go_ret
        exact ⟨by rw [HD.out]; simp [hf], bthen hB1 hBw3⟩
      · go_enter Try.func30, Try.ntmps30
        go_wp2_with fail
        refine HP.out.mono ?_
        rintro e w1 ⟨rfl, hB1⟩
        go_wp2_with (first
          | (refine wpList_alloc_blk rfl 42 rfl H4.zero.cells zero4 ?_; intro w2 hbw2 hBw2 hsw2)
          | (refine wpList_store_all rfl 42 _ _ rfl w1.heap.size h0.cells rfl rfl 42 _ hbw2 (size4 _ HOK.out) (H4.cells_same _ _ HOK.out H4.zero_ok) (H4.one _) ?_; intro w3 hbw3 hgw3 hsw3; have hBw3 : Below w1.heap.size w1 w3 := bgrown hBw2 hgw3 (by omega) (by omega)); have c7 : w3.cell? ⟨w1.heap.size, 7, none⟩ = some (.int .u8 1) := (hbw3.cell 7).trans (by show some (Value.int .u8 h0.pro) = _; rw [HE.out]); have c5 : w3.cell? ⟨w1.heap.size, 5, none⟩ = some (.int .i64 f) := (hbw3.cell 5).trans (by show some (Value.int .i64 h0.off) = _; rw [HF.out]))
        refine (HQ.out w3 (bthen hB1 hBw3)).mono ?_
        rintro e w4 ⟨⟨B, m, d, bl⟩, rfl, rfl, hr, hB4⟩
        have HW := Lib.hid (bthen (bthen hB1 hBw3) hB4)
        have HR := Lib.hid hr
        have hml : bl.length = m := hr.len
        clear hr hB4
        simp only [Bs.v]
        cases bl with
        | nil =>
          obtain rfl : m = 0 := by simpa using hml.symm
          have h0m : ¬ (0 : Int) < ((0 : Nat) : Int) := by omega
          go_wp2_with fail
          go_ret
          exact ⟨by rw [HD.out]; simp [headIs, hf], HW.out⟩
        | cons u bl =>
          have h0m : (0 : Int) < (m : Int) := by rw [List.length_cons] at hml; omega
          obtain ⟨g, o, hBo, hg, hcell⟩ := HR.out.row.2 (by show 0 < m; omega)
          simp only at hBo hcell
          subst hBo
          have hcu : w4.cell? ⟨g, o, none⟩ = some (.int .u8 (u.toNat : Int)) := hcell 0 _ rfl
          clear hcell
          obtain ⟨x, hx⟩ : ∃ x, x = (u.toNat : Int) := ⟨_, rfl⟩
          have HX := Lib.hid hx
          rw [← hx] at hcu
          clear hx
          go_wp2_with fail
          refine (contains_any _ 5 5 kinds x _ (row_u8s _ _ kinds 5 _ rfl rfl rfl) (by omega)).mono ?_
          rintro e w6 ⟨rfl, rfl⟩
          go_wp2_with fail
          go_ret
          exact ⟨by rw [HD.out]; simp [hf, headIs, ← HX.out], (HW.out).alloc (by have := HW.out.size; omega) _⟩
    · have hB1' : (p == 1) = false := by simpa using hB
      have hB2' : (p != 1) = true := by simpa [bne] using hB
      go_enter Try.func30, Try.ntmps30
      go_wp2_with fail
      refine HP.out.mono ?_
      rintro e w1 ⟨rfl, hB1⟩
      go_wp2_with (first
        | (refine wpList_alloc_blk rfl 42 rfl H4.zero.cells zero4 ?_; intro w2 hbw2 hBw2 hsw2)
        | (refine wpList_store_all rfl 42 _ _ rfl w1.heap.size h0.cells rfl rfl 42 _ hbw2 (size4 _ HOK.out) (H4.cells_same _ _ HOK.out H4.zero_ok) (H4.one _) ?_; intro w3 hbw3 hgw3 hsw3; have hBw3 : Below w1.heap.size w1 w3 := bgrown hBw2 hgw3 (by omega) (by omega)); have c7 : w3.cell? ⟨w1.heap.size, 7, none⟩ = some (.int .u8 p) := (hbw3.cell 7).trans (by show some (Value.int .u8 h0.pro) = _; rw [HE.out]); have c5 : w3.cell? ⟨w1.heap.size, 5, none⟩ = some (.int .i64 f) := (hbw3.cell 5).trans (by show some (Value.int .i64 h0.off) = _; rw [HF.out]))
      go_ret
      exact ⟨by rw [HD.out]; simp [hB1'], bthen hB1 hBw3⟩
  · have hA1 : (er == 0) = false := by simpa using hA
    have hA2 : (er != 0) = true := by simpa [bne] using hA
    go_enter Try.func30, Try.ntmps30
    go_wp2_with fail
    refine HP.out.mono ?_
    rintro e w1 ⟨rfl, hB1⟩
    go_wp2_with (first
      | (refine wpList_alloc_blk rfl 42 rfl H4.zero.cells zero4 ?_; intro w2 hbw2 hBw2 hsw2)
      | (refine wpList_store_all rfl 42 _ _ rfl w1.heap.size h0.cells rfl rfl 42 _ hbw2 (size4 _ HOK.out) (H4.cells_same _ _ HOK.out H4.zero_ok) (H4.one _) ?_; intro w3 hbw3 hgw3 hsw3; have hBw3 : Below w1.heap.size w1 w3 := bgrown hBw2 hgw3 (by omega) (by omega)); have c7 : w3.cell? ⟨w1.heap.size, 7, none⟩ = some (.int .u8 p) := (hbw3.cell 7).trans (by show some (Value.int .u8 h0.pro) = _; rw [HE.out]); have c5 : w3.cell? ⟨w1.heap.size, 5, none⟩ = some (.int .i64 f) := (hbw3.cell 5).trans (by show some (Value.int .i64 h0.off) = _; rw [HF.out]))
    go_ret
    exact ⟨by rw [HD.out]; simp [hA1], bthen hB1 hBw3⟩

set_option maxHeartbeats 4000000 in
theorem is6_any (A : Option Addr) (n c : Nat) (l : List UInt8) (w : World) (h : Row w w.heap.size 1 A n (bv l)) (hc : n ≤ c) (hcm : c ≤ maxLen) (hn : n ≤ 1099511627776) :
    Calls Try.prog 40 #[.slice A n c] w fun e w' => e = .returned (.bool (is6F l)) ∧ Below w.heap.size w w' := by
  have P := parse6_any A n c l w h hc hcm hn
  have Q := fun W (hB : Below w.heap.size w W) => body6_any A n c l W ((h.below hB).more hB.size) hc hcm hn
  have hok := par6_ok l
  have hd : is6F l = is6F l := rfl
  conv at hd => rhs; unfold is6F
  cases hp : par6 l with
  | mk h0 er =>
  rw [hp] at P hok hd
  simp only at P hok hd
  obtain ⟨p, hpp⟩ : ∃ p, h0.next = p := ⟨_, rfl⟩
  rw [hpp] at hd
  obtain ⟨bd, hbd⟩ : ∃ bd, body6 l = bd := ⟨_, rfl⟩
  rw [hbd] at hd
  simp only [hbd] at Q
  have HP := Lib.hid P
  have HQ := Lib.hid Q
  have HOK := Lib.hid hok
  have HE := Lib.hid hpp
  have HD := Lib.hid hd
  clear P Q hok hpp hd hp hbd h
  by_cases hA : er = 0
  · subst hA
    by_cases hB : p = 58
    · subst hB
      go_enter Try.func40, Try.ntmps40
      go_wp2_with fail
      refine HP.out.mono ?_
      rintro e w1 ⟨rfl, hB1⟩
      go_wp2_with (first
        | (refine wpList_alloc_blk rfl 44 rfl H6.zero.cells zero6 ?_; intro w2 hbw2 hBw2 hsw2)
        | (refine wpList_store_all rfl 44 _ _ rfl w1.heap.size h0.cells rfl rfl 44 _ hbw2 (size6 _ HOK.out) (H6.cells_same _ _ HOK.out H6.zero_ok) (H6.one _) ?_; intro w3 hbw3 hgw3 hsw3; have hBw3 : Below w1.heap.size w1 w3 := bgrown hBw2 hgw3 (by omega) (by omega)); have c3 : w3.cell? ⟨w1.heap.size, 3, none⟩ = some (.int .u8 58) := (hbw3.cell 3).trans (by show some (Value.int .u8 h0.next) = _; rw [HE.out]))
      refine (HQ.out w3 (bthen hB1 hBw3)).mono ?_
      rintro e w4 ⟨⟨B, m, d, bl⟩, rfl, rfl, hr, hB4⟩
      have HW := Lib.hid (bthen (bthen hB1 hBw3) hB4)
      have HR := Lib.hid hr
      have hml : bl.length = m := hr.len
      clear hr hB4
      simp only [Bs.v]
      cases bl with
      | nil =>
        obtain rfl : m = 0 := by simpa using hml.symm
        have h0m : ¬ (0 : Int) < ((0 : Nat) : Int) := by omega
        go_wp2_with fail
        go_ret
        exact ⟨by rw [HD.out]; simp [headIs], HW.out⟩
      | cons u bl =>
        have h0m : (0 : Int) < (m : Int) := by rw [List.length_cons] at hml; omega
        obtain ⟨g, o, hBo, hg, hcell⟩ := HR.out.row.2 (by show 0 < m; omega)
        simp only at hBo hcell
        subst hBo
        have hcu : w4.cell? ⟨g, o, none⟩ = some (.int .u8 (u.toNat : Int)) := hcell 0 _ rfl
        clear hcell
        obtain ⟨x, hx⟩ : ∃ x, x = (u.toNat : Int) := ⟨_, rfl⟩
        have HX := Lib.hid hx
        rw [← hx] at hcu
        clear hx
        go_wp2_with fail
        go_ret
        exact ⟨by rw [HD.out]; simp [headIs, ← HX.out], HW.out⟩
    · have hB1' : (p == 58) = false := by simpa using hB
      have hB2' : (p != 58) = true := by simpa [bne] using hB
      go_enter Try.func40, Try.ntmps40
      go_wp2_with fail
      refine HP.out.mono ?_
      rintro e w1 ⟨rfl, hB1⟩
      go_wp2_with (first
        | (refine wpList_alloc_blk rfl 44 rfl H6.zero.cells zero6 ?_; intro w2 hbw2 hBw2 hsw2)
        | (refine wpList_store_all rfl 44 _ _ rfl w1.heap.size h0.cells rfl rfl 44 _ hbw2 (size6 _ HOK.out) (H6.cells_same _ _ HOK.out H6.zero_ok) (H6.one _) ?_; intro w3 hbw3 hgw3 hsw3; have hBw3 : Below w1.heap.size w1 w3 := bgrown hBw2 hgw3 (by omega) (by omega)); have c3 : w3.cell? ⟨w1.heap.size, 3, none⟩ = some (.int .u8 p) := (hbw3.cell 3).trans (by show some (Value.int .u8 h0.next) = _; rw [HE.out]))
      go_ret
      exact ⟨by rw [HD.out]; simp [hB1'], bthen hB1 hBw3⟩
  · have hA1 : (er == 0) = false := by simpa using hA
    have hA2 : (er != 0) = true := by simpa [bne] using hA
    go_enter Try.func40, Try.ntmps40
    go_wp2_with fail
    refine HP.out.mono ?_
    rintro e w1 ⟨rfl, hB1⟩
    go_wp2_with (first
      | (refine wpList_alloc_blk rfl 44 rfl H6.zero.cells zero6 ?_; intro w2 hbw2 hBw2 hsw2)
      | (refine wpList_store_all rfl 44 _ _ rfl w1.heap.size h0.cells rfl rfl 44 _ hbw2 (size6 _ HOK.out) (H6.cells_same _ _ HOK.out H6.zero_ok) (H6.one _) ?_; intro w3 hbw3 hgw3 hsw3; have hBw3 : Below w1.heap.size w1 w3 := bgrown hBw2 hgw3 (by omega) (by omega)); have c3 : w3.cell? ⟨w1.heap.size, 3, none⟩ = some (.int .u8 p) := (hbw3.cell 3).trans (by show some (Value.int .u8 h0.next) = _; rw [HE.out]))
    go_ret
    exact ⟨by rw [HD.out]; simp [hA1], bthen hB1 hBw3⟩

set_option maxHeartbeats 4000000 in
theorem ris4_any (l : List UInt8) (w : World) (hn : l.length ≤ 1099511627776) :
    Calls Try.prog 33 #[str l] w fun e w' => e = .returned (.bool (is4F l)) ∧ Below w.heap.size w w' := by
  have P := rparse4_any l w hn
  have Q := fun W => rbody4_any l W hn
  have hok := par4_ok l
  have hd : is4F l = is4F l := rfl
  conv at hd => rhs; unfold is4F
  cases hp : par4 l with
  | mk h0 er =>
  rw [hp] at P hok hd
  simp only at P hok hd
  obtain ⟨p, hpp⟩ : ∃ p, h0.pro = p := ⟨_, rfl⟩
  rw [hpp] at hd
  obtain ⟨f, hff⟩ : ∃ f, h0.off = f := ⟨_, rfl⟩
  rw [hff] at hd
  have HF := Lib.hid hff
  clear hff
  obtain ⟨bd, hbd⟩ : ∃ bd, body4 l = bd := ⟨_, rfl⟩
  rw [hbd] at hd
  simp only [hbd] at Q
  have HP := Lib.hid P
  have HQ := Lib.hid Q
  have HOK := Lib.hid hok
  have HE := Lib.hid hpp
  have HD := Lib.hid hd
  clear P Q hok hpp hd hp hbd
  by_cases hA : er = 0
  · subst hA
    by_cases hB : p = 1
    · subst hB
      by_cases hf : f > 0
      · go_enter Try.func33, Try.ntmps33
        go_wp2_with fail
        refine HP.out.mono ?_
        rintro e w1 ⟨rfl, hB1⟩
        go_wp2_with (first
          | (refine wpList_alloc_blk rfl 42 rfl H4.zero.cells zero4 ?_; intro w2 hbw2 hBw2 hsw2)
          | (refine wpList_store_all rfl 42 _ _ rfl w1.heap.size h0.cells rfl rfl 42 _ hbw2 (size4 _ HOK.out) (H4.cells_same _ _ HOK.out H4.zero_ok) (H4.one _) ?_; intro w3 hbw3 hgw3 hsw3; have hBw3 : Below w1.heap.size w1 w3 := bgrown hBw2 hgw3 (by omega) (by omega)); have c7 : w3.cell? ⟨w1.heap.size, 7, none⟩ = some (.int .u8 1) := (hbw3.cell 7).trans (by show some (Value.int .u8 h0.pro) = _; rw [HE.out]); have c5 : w3.cell? ⟨w1.heap.size, 5, none⟩ = some (.int .i64 f) := (hbw3.cell 5).trans (by show some (Value.int .i64 h0.off) = _; rw [HF.out]))
        refine (HQ.out w3).mono ?_
        rintro e w4 ⟨rfl, hB4⟩
        have HW := Lib.hid (bthen (bthen hB1 hBw3) hB4)
        have hbw4 := hbw3.on hB4
        clear c7 c5 hbw3
        have c7 : w4.cell? ⟨w1.heap.size, 7, none⟩ = some (.int .u8 1) := (hbw4.cell 7).trans (by show some (Value.int .u8 h0.pro) = _; rw [HE.out]); have c5 : w4.cell? ⟨w1.heap.size, 5, none⟩ = some (.int .i64 f) := (hbw4.cell 5).trans (by show some (Value.int .i64 h0.off) = _; rw [HF.out])
        go_wp2_with (first
          | (refine wpList_value (by rfl) (exec_eqE _ _ bd _ rfl rfl rfl) ?_))
        go_ret
        exact ⟨by rw [HD.out]; simp [hf], HW.out⟩
      · cases bd with
        | nil =>
          have HN : Hid (([] : List UInt8).isEmpty = true) := Lib.hid rfl
          go_enter Try.func33, Try.ntmps33
          go_wp2_with fail
          refine HP.out.mono ?_
          rintro e w1 ⟨rfl, hB1⟩
          go_wp2_with (first
            | (refine wpList_alloc_blk rfl 42 rfl H4.zero.cells zero4 ?_; intro w2 hbw2 hBw2 hsw2)
            | (refine wpList_store_all rfl 42 _ _ rfl w1.heap.size h0.cells rfl rfl 42 _ hbw2 (size4 _ HOK.out) (H4.cells_same _ _ HOK.out H4.zero_ok) (H4.one _) ?_; intro w3 hbw3 hgw3 hsw3; have hBw3 : Below w1.heap.size w1 w3 := bgrown hBw2 hgw3 (by omega) (by omega)); have c7 : w3.cell? ⟨w1.heap.size, 7, none⟩ = some (.int .u8 1) := (hbw3.cell 7).trans (by show some (Value.int .u8 h0.pro) = _; rw [HE.out]); have c5 : w3.cell? ⟨w1.heap.size, 5, none⟩ = some (.int .i64 f) := (hbw3.cell 5).trans (by show some (Value.int .i64 h0.off) = _; rw [HF.out]))
          refine (HQ.out w3).mono ?_
          rintro e w4 ⟨rfl, hB4⟩
          have HW := Lib.hid (bthen (bthen hB1 hBw3) hB4)
          have hbw4 := hbw3.on hB4
          clear c7 c5 hbw3
          have c7 : w4.cell? ⟨w1.heap.size, 7, none⟩ = some (.int .u8 1) := (hbw4.cell 7).trans (by show some (Value.int .u8 h0.pro) = _; rw [HE.out]); have c5 : w4.cell? ⟨w1.heap.size, 5, none⟩ = some (.int .i64 f) := (hbw4.cell 5).trans (by show some (Value.int .i64 h0.off) = _; rw [HF.out])
          go_wp2_with (first
            | (refine wpList_value (by rfl) (exec_eqE _ _ bd _ HN.out rfl rfl) ?_))
          go_ret
          exact ⟨by rw [HD.out]; simp [headIs, hf], HW.out⟩
        | cons u bd =>
          have HN : Hid ((u :: bd).isEmpty = false) := Lib.hid rfl
          have hg := ba_get (u :: bd) 0 u rfl
          have hlb : 0 < (u :: bd).length := by simp
          obtain ⟨x, hx⟩ : ∃ x, x = (u.toNat : Int) := ⟨_, rfl⟩
          rw [show headIs (fun x => kinds.contains x) (u :: bd) = kinds.contains (u.toNat : Int) from rfl, ← hx] at HD
          have HX := Lib.hid hx
          rcases (show x = 3 ∨ ((x == 3) = false ∧ x = 4) ∨ ((x == 3) = false ∧ (x == 4) = false ∧ x = 5) ∨ ((x == 3) = false ∧ (x == 4) = false ∧ (x == 5) = false ∧ x = 11) ∨ ((x == 3) = false ∧ (x == 4) = false ∧ (x == 5) = false ∧ (x == 11) = false ∧ x = 12) ∨ ((x == 3) = false ∧ (x == 4) = false ∧ (x == 5) = false ∧ (x == 11) = false ∧ (x == 12) = false) by simp only [beq_eq_false_iff_ne]; omega) with x1 | ⟨x1, x2⟩ | ⟨x1, x2, x3⟩ | ⟨x1, x2, x3, x4⟩ | ⟨x1, x2, x3, x4, x5⟩ | ⟨x1, x2, x3, x4, x5⟩
          all_goals
            go_enter Try.func33, Try.ntmps33
            go_wp2_with fail
            refine HP.out.mono ?_
            rintro e w1 ⟨rfl, hB1⟩
            go_wp2_with (first
              | (refine wpList_alloc_blk rfl 42 rfl H4.zero.cells zero4 ?_; intro w2 hbw2 hBw2 hsw2)
              | (refine wpList_store_all rfl 42 _ _ rfl w1.heap.size h0.cells rfl rfl 42 _ hbw2 (size4 _ HOK.out) (H4.cells_same _ _ HOK.out H4.zero_ok) (H4.one _) ?_; intro w3 hbw3 hgw3 hsw3; have hBw3 : Below w1.heap.size w1 w3 := bgrown hBw2 hgw3 (by omega) (by omega)); have c7 : w3.cell? ⟨w1.heap.size, 7, none⟩ = some (.int .u8 1) := (hbw3.cell 7).trans (by show some (Value.int .u8 h0.pro) = _; rw [HE.out]); have c5 : w3.cell? ⟨w1.heap.size, 5, none⟩ = some (.int .i64 f) := (hbw3.cell 5).trans (by show some (Value.int .i64 h0.off) = _; rw [HF.out]))
            refine (HQ.out w3).mono ?_
            rintro e w4 ⟨rfl, hB4⟩
            have HW := Lib.hid (bthen (bthen hB1 hBw3) hB4)
            have hbw4 := hbw3.on hB4
            clear c7 c5 hbw3
            have c7 : w4.cell? ⟨w1.heap.size, 7, none⟩ = some (.int .u8 1) := (hbw4.cell 7).trans (by show some (Value.int .u8 h0.pro) = _; rw [HE.out]); have c5 : w4.cell? ⟨w1.heap.size, 5, none⟩ = some (.int .i64 f) := (hbw4.cell 5).trans (by show some (Value.int .i64 h0.off) = _; rw [HF.out])
            go_wp2_with (first
              | (refine wpList_value (by rfl) (exec_eqE _ _ bd _ HN.out rfl rfl) ?_))
            all_goals
              go_ret
              exact ⟨by rw [HD.out]; simp_all [kinds], HW.out⟩
    · have hB1' : (p == 1) = false := by simpa using hB
      have hB2' : (p != 1) = true := by simpa [bne] using hB
      go_enter Try.func33, Try.ntmps33
      go_wp2_with fail
      refine HP.out.mono ?_
      rintro e w1 ⟨rfl, hB1⟩
      go_wp2_with (first
        | (refine wpList_alloc_blk rfl 42 rfl H4.zero.cells zero4 ?_; intro w2 hbw2 hBw2 hsw2)
        | (refine wpList_store_all rfl 42 _ _ rfl w1.heap.size h0.cells rfl rfl 42 _ hbw2 (size4 _ HOK.out) (H4.cells_same _ _ HOK.out H4.zero_ok) (H4.one _) ?_; intro w3 hbw3 hgw3 hsw3; have hBw3 : Below w1.heap.size w1 w3 := bgrown hBw2 hgw3 (by omega) (by omega)); have c7 : w3.cell? ⟨w1.heap.size, 7, none⟩ = some (.int .u8 p) := (hbw3.cell 7).trans (by show some (Value.int .u8 h0.pro) = _; rw [HE.out]); have c5 : w3.cell? ⟨w1.heap.size, 5, none⟩ = some (.int .i64 f) := (hbw3.cell 5).trans (by show some (Value.int .i64 h0.off) = _; rw [HF.out]))
      refine (HQ.out w3).mono ?_
      rintro e w4 ⟨rfl, hB4⟩
      have HW := Lib.hid (bthen (bthen hB1 hBw3) hB4)
      have hbw4 := hbw3.on hB4
      clear c7 c5 hbw3
      have c7 : w4.cell? ⟨w1.heap.size, 7, none⟩ = some (.int .u8 p) := (hbw4.cell 7).trans (by show some (Value.int .u8 h0.pro) = _; rw [HE.out]); have c5 : w4.cell? ⟨w1.heap.size, 5, none⟩ = some (.int .i64 f) := (hbw4.cell 5).trans (by show some (Value.int .i64 h0.off) = _; rw [HF.out])
      go_wp2_with (first
        | (refine wpList_value (by rfl) (exec_eqE _ _ bd _ rfl rfl rfl) ?_))
      go_ret
      exact ⟨by rw [HD.out]; simp [hB1'], HW.out⟩
  · have hA1 : (er == 0) = false := by simpa using hA
    have hA2 : (er != 0) = true := by simpa [bne] using hA
    go_enter Try.func33, Try.ntmps33
    go_wp2_with fail
    refine HP.out.mono ?_
    rintro e w1 ⟨rfl, hB1⟩
    go_wp2_with (first
      | (refine wpList_alloc_blk rfl 42 rfl H4.zero.cells zero4 ?_; intro w2 hbw2 hBw2 hsw2)
      | (refine wpList_store_all rfl 42 _ _ rfl w1.heap.size h0.cells rfl rfl 42 _ hbw2 (size4 _ HOK.out) (H4.cells_same _ _ HOK.out H4.zero_ok) (H4.one _) ?_; intro w3 hbw3 hgw3 hsw3; have hBw3 : Below w1.heap.size w1 w3 := bgrown hBw2 hgw3 (by omega) (by omega)); have c7 : w3.cell? ⟨w1.heap.size, 7, none⟩ = some (.int .u8 p) := (hbw3.cell 7).trans (by show some (Value.int .u8 h0.pro) = _; rw [HE.out]); have c5 : w3.cell? ⟨w1.heap.size, 5, none⟩ = some (.int .i64 f) := (hbw3.cell 5).trans (by show some (Value.int .i64 h0.off) = _; rw [HF.out]))
    refine (HQ.out w3).mono ?_
    rintro e w4 ⟨rfl, hB4⟩
    have HW := Lib.hid (bthen (bthen hB1 hBw3) hB4)
    have hbw4 := hbw3.on hB4
    clear c7 c5 hbw3
    have c7 : w4.cell? ⟨w1.heap.size, 7, none⟩ = some (.int .u8 p) := (hbw4.cell 7).trans (by show some (Value.int .u8 h0.pro) = _; rw [HE.out]); have c5 : w4.cell? ⟨w1.heap.size, 5, none⟩ = some (.int .i64 f) := (hbw4.cell 5).trans (by show some (Value.int .i64 h0.off) = _; rw [HF.out])
    go_wp2_with (first
      | (refine wpList_value (by rfl) (exec_eqE _ _ bd _ rfl rfl rfl) ?_))
    go_ret
    exact ⟨by rw [HD.out]; simp [hA1], HW.out⟩

set_option maxHeartbeats 4000000 in
theorem ris6_any (l : List UInt8) (w : World) (hn : l.length ≤ 1099511627776) :
    Calls Try.prog 43 #[str l] w fun e w' => e = .returned (.bool (is6F l)) ∧ Below w.heap.size w w' := by
  have P := rparse6_any l w hn
  have Q := fun W => rbody6_any l W hn
  have hok := par6_ok l
  have hd : is6F l = is6F l := rfl
  conv at hd => rhs; unfold is6F
  cases hp : par6 l with
  | mk h0 er =>
  rw [hp] at P hok hd
  simp only at P hok hd
  obtain ⟨p, hpp⟩ : ∃ p, h0.next = p := ⟨_, rfl⟩
  rw [hpp] at hd
  obtain ⟨bd, hbd⟩ : ∃ bd, body6 l = bd := ⟨_, rfl⟩
  rw [hbd] at hd
  simp only [hbd] at Q
  have HP := Lib.hid P
  have HQ := Lib.hid Q
  have HOK := Lib.hid hok
  have HE := Lib.hid hpp
  have HD := Lib.hid hd
  clear P Q hok hpp hd hp hbd
  by_cases hA : er = 0
  · subst hA
    by_cases hB : p = 58
    · subst hB
      cases bd with
      | nil =>
        have HN : Hid (([] : List UInt8).isEmpty = true) := Lib.hid rfl
        go_enter Try.func43, Try.ntmps43
        go_wp2_with fail
        refine HP.out.mono ?_
        rintro e w1 ⟨rfl, hB1⟩
        go_wp2_with (first
          | (refine wpList_alloc_blk rfl 44 rfl H6.zero.cells zero6 ?_; intro w2 hbw2 hBw2 hsw2)
          | (refine wpList_store_all rfl 44 _ _ rfl w1.heap.size h0.cells rfl rfl 44 _ hbw2 (size6 _ HOK.out) (H6.cells_same _ _ HOK.out H6.zero_ok) (H6.one _) ?_; intro w3 hbw3 hgw3 hsw3; have hBw3 : Below w1.heap.size w1 w3 := bgrown hBw2 hgw3 (by omega) (by omega)); have c3 : w3.cell? ⟨w1.heap.size, 3, none⟩ = some (.int .u8 58) := (hbw3.cell 3).trans (by show some (Value.int .u8 h0.next) = _; rw [HE.out]))
        refine (HQ.out w3).mono ?_
        rintro e w4 ⟨rfl, hB4⟩
        have HW := Lib.hid (bthen (bthen hB1 hBw3) hB4)
        have hbw4 := hbw3.on hB4
        clear c3 hbw3
        have c3 : w4.cell? ⟨w1.heap.size, 3, none⟩ = some (.int .u8 58) := (hbw4.cell 3).trans (by show some (Value.int .u8 h0.next) = _; rw [HE.out])
        go_wp2_with (first
          | (refine wpList_value (by rfl) (exec_neE _ _ bd _ HN.out rfl rfl) ?_))
        go_ret
        exact ⟨by rw [HD.out]; simp [headIs], HW.out⟩
      | cons u bd =>
        have HN : Hid ((u :: bd).isEmpty = false) := Lib.hid rfl
        have hg := ba_get (u :: bd) 0 u rfl
        have hlb : 0 < (u :: bd).length := by simp
        go_enter Try.func43, Try.ntmps43
        go_wp2_with fail
        refine HP.out.mono ?_
        rintro e w1 ⟨rfl, hB1⟩
        go_wp2_with (first
          | (refine wpList_alloc_blk rfl 44 rfl H6.zero.cells zero6 ?_; intro w2 hbw2 hBw2 hsw2)
          | (refine wpList_store_all rfl 44 _ _ rfl w1.heap.size h0.cells rfl rfl 44 _ hbw2 (size6 _ HOK.out) (H6.cells_same _ _ HOK.out H6.zero_ok) (H6.one _) ?_; intro w3 hbw3 hgw3 hsw3; have hBw3 : Below w1.heap.size w1 w3 := bgrown hBw2 hgw3 (by omega) (by omega)); have c3 : w3.cell? ⟨w1.heap.size, 3, none⟩ = some (.int .u8 58) := (hbw3.cell 3).trans (by show some (Value.int .u8 h0.next) = _; rw [HE.out]))
        refine (HQ.out w3).mono ?_
        rintro e w4 ⟨rfl, hB4⟩
        have HW := Lib.hid (bthen (bthen hB1 hBw3) hB4)
        have hbw4 := hbw3.on hB4
        clear c3 hbw3
        have c3 : w4.cell? ⟨w1.heap.size, 3, none⟩ = some (.int .u8 58) := (hbw4.cell 3).trans (by show some (Value.int .u8 h0.next) = _; rw [HE.out])
        go_wp2_with (first
          | (refine wpList_value (by rfl) (exec_neE _ _ bd _ HN.out rfl rfl) ?_))
        go_ret
        exact ⟨by rw [HD.out]; simp [headIs], HW.out⟩
    · have hB1' : (p == 58) = false := by simpa using hB
      have hB2' : (p != 58) = true := by simpa [bne] using hB
      go_enter Try.func43, Try.ntmps43
      go_wp2_with fail
      refine HP.out.mono ?_
      rintro e w1 ⟨rfl, hB1⟩
      go_wp2_with (first
        | (refine wpList_alloc_blk rfl 44 rfl H6.zero.cells zero6 ?_; intro w2 hbw2 hBw2 hsw2)
        | (refine wpList_store_all rfl 44 _ _ rfl w1.heap.size h0.cells rfl rfl 44 _ hbw2 (size6 _ HOK.out) (H6.cells_same _ _ HOK.out H6.zero_ok) (H6.one _) ?_; intro w3 hbw3 hgw3 hsw3; have hBw3 : Below w1.heap.size w1 w3 := bgrown hBw2 hgw3 (by omega) (by omega)); have c3 : w3.cell? ⟨w1.heap.size, 3, none⟩ = some (.int .u8 p) := (hbw3.cell 3).trans (by show some (Value.int .u8 h0.next) = _; rw [HE.out]))
      refine (HQ.out w3).mono ?_
      rintro e w4 ⟨rfl, hB4⟩
      have HW := Lib.hid (bthen (bthen hB1 hBw3) hB4)
      have hbw4 := hbw3.on hB4
      clear c3 hbw3
      have c3 : w4.cell? ⟨w1.heap.size, 3, none⟩ = some (.int .u8 p) := (hbw4.cell 3).trans (by show some (Value.int .u8 h0.next) = _; rw [HE.out])
      go_wp2_with (first
        | (refine wpList_value (by rfl) (exec_neE _ _ bd _ rfl rfl rfl) ?_))
      go_ret
      exact ⟨by rw [HD.out]; simp [hB1'], HW.out⟩
  · have hA1 : (er == 0) = false := by simpa using hA
    have hA2 : (er != 0) = true := by simpa [bne] using hA
    go_enter Try.func43, Try.ntmps43
    go_wp2_with fail
    refine HP.out.mono ?_
    rintro e w1 ⟨rfl, hB1⟩
    go_wp2_with (first
      | (refine wpList_alloc_blk rfl 44 rfl H6.zero.cells zero6 ?_; intro w2 hbw2 hBw2 hsw2)
      | (refine wpList_store_all rfl 44 _ _ rfl w1.heap.size h0.cells rfl rfl 44 _ hbw2 (size6 _ HOK.out) (H6.cells_same _ _ HOK.out H6.zero_ok) (H6.one _) ?_; intro w3 hbw3 hgw3 hsw3; have hBw3 : Below w1.heap.size w1 w3 := bgrown hBw2 hgw3 (by omega) (by omega)); have c3 : w3.cell? ⟨w1.heap.size, 3, none⟩ = some (.int .u8 p) := (hbw3.cell 3).trans (by show some (Value.int .u8 h0.next) = _; rw [HE.out]))
    refine (HQ.out w3).mono ?_
    rintro e w4 ⟨rfl, hB4⟩
    have HW := Lib.hid (bthen (bthen hB1 hBw3) hB4)
    have hbw4 := hbw3.on hB4
    clear c3 hbw3
    have c3 : w4.cell? ⟨w1.heap.size, 3, none⟩ = some (.int .u8 p) := (hbw4.cell 3).trans (by show some (Value.int .u8 h0.next) = _; rw [HE.out])
    go_wp2_with (first
      | (refine wpList_value (by rfl) (exec_neE _ _ bd _ rfl rfl rfl) ?_))
    go_ret
    exact ⟨by rw [HD.out]; simp [hA1], HW.out⟩
end Go.Proofs.Ytimkgkokidhhpaa
